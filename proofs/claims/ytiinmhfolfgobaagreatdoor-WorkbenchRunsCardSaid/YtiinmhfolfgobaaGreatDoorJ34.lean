/- Lemmas. -/
import Derived.Laws.IdiomStrings
import Derived.Lib.ConvBytes
import Derived.Test.YtiinmhfolfgobaaGreatDoorJ33
import Derived.Test.YtiinmhfolfgobaaGreatDoorJ10
import Derived.Test.YtiinmhfolfgobaaGreatDoorTape
set_option linter.unusedVariables false
set_option linter.unusedSimpArgs false
namespace Go.Proofs.YtiinmhfolfgobaaGreatDoor
open Go.RowKit Go.Lib
set_option maxHeartbeats 32000000
set_option maxRecDepth 100000
theorem dec_ten {u : Nat} (h : ¬ u < 10) : decDigits u = decDigits (u / 10) ++ decDigits (u % 10) := by
 rw [decDigits, dif_neg h, decDigits_one (show u % 10 < 10 by omega)]
theorem dec_len (u : Nat) (h : u < 18446744073709551616) : (decDigits u).length ≤ 20 := by rw [decDigits_length]; exact nDigits_le20 u h
def LnRel (w : World) (word : List UInt8) (ns : List Int) (G : Nat) (v i : Value) (wr : World) : Prop := ∃ q : Nat, q ≤ ns.length ∧ G = ns.length - q ∧ i = .int .i64 q ∧ v = .string ⟨(lnW word (ns.take q)).toArray⟩ ∧ Below w.heap.size w wr
theorem lnW_len {word : List UInt8} {ns : List Int} (h : ∀ n ∈ ns, smallI n) : (lnW word ns).length ≤ word.length + 22 * ns.length := by
 have := flat_len h
 unfold lnW; simp only [lla]; omega
theorem l43dig_nat (u : Nat) : u < 9223372036854775808 → ∀ w : World, Calls Tryz.prog 37 #[.int .i64 (u : Int)] w (RB w (.string ⟨(decDigits u).toArray⟩)) := by
 induction u using Nat.strongRecOn with
 | _ u ih =>
  intro hu w
  have c0 : decide ((u : Int) < 0) = false := Y3
  by_cases h : u < 10
  ·have c1 : decide ((u : Int) < 10) = true := Y2
   have c1' : decide (u < 10) = true := decide_eq_true h
   have hd := decDigits_one h
   rw [hd]
   clear ih
   obtain ⟨d, hdd⟩ : ∃ d : UInt8, d = UInt8.ofNat (48 + u) := ⟨_, rfl⟩
   rw [← hdd]
   have hdn : (48 + (u : Int)) = (d.toNat : Int) := by rw [hdd]; simp; omega
   have c5 : 48 ≤ 48 + (u : Int) := by omega
   have c6 : 48 + (u : Int) ≤ 57 := by omega
   have ek : (convert 72 9 (.slice (some ⟨w.heap.size, 0, none⟩) 1 1)).run Tryz.prog (w.alloc (.cells #[.int .u8 (48 + (u : Int))] 5)) = .ok (.string ⟨#[d]⟩) (w.alloc (.cells #[.int .u8 (48 + (u : Int))] 5)) := by
    rw [hdn]
    exact run_convert_bytes_back (P := Tryz.prog) (w.alloc (.cells #[.int .u8 (d.toNat : Int)] 5)) 72 9 5 ⟨w.heap.size, 0, none⟩ 1 [d] Yr Yr Yr (fun j hj => by
     obtain rfl : j = 0 := by simpa using hj
     exact (Blk.new w _ _).cell 0)
   clear hdd hdn hd
   go_enter Tryz.func37, Tryz.ntmps37
   go_wp2
   go_ret
   exact ⟨rfl, below_new _ _⟩
  ·have c1 : decide ((u : Int) < 10) = false := Y3
   have c1' : decide (u < 10) = false := decide_eq_false h
   have ht : (u : Int).tdiv 10 = ((u / 10 : Nat) : Int) := by rw [Int.tdiv_eq_ediv_of_nonneg Yo]; omega
   have hm : (u : Int).tmod 10 = ((u % 10 : Nat) : Int) := by rw [Int.tmod_eq_emod_of_nonneg Yo]; omega
   have hw : IntKind.i64.wrap ((u / 10 : Nat) : Int) = ((u / 10 : Nat) : Int) := IntWalk.i64_in _ Yo
   rw [dec_ten h]
   have l1 := dec_len (u / 10) Yo
   have l2 := dec_len (u % 10) Yo
   have R1 := Yh (ih (u / 10) Yo Yo)
   have R2 := Yh (ih (u % 10) Yo Yo)
   obtain ⟨d1, h1⟩ : ∃ d, decDigits (u / 10) = d := ⟨_, rfl⟩
   obtain ⟨d2, h2⟩ : ∃ d, decDigits (u % 10) = d := ⟨_, rfl⟩
   rw [h1] at R1 l1 ⊢
   rw [h2] at R2 l2 ⊢
   obtain ⟨q1, hq1⟩ : ∃ q, u / 10 = q := ⟨_, rfl⟩
   obtain ⟨q2, hq2⟩ : ∃ q, u % 10 = q := ⟨_, rfl⟩
   rw [hq1] at ht hw R1
   rw [hq2] at hm R2
   clear ih h1 h2 h hq1 hq2
   go_enter Tryz.func37, Tryz.ntmps37
   go_wp2_with fail
   refine (R1.out _).mono ?_
   rintro e w1 ⟨rfl, hb1⟩
   go_wp2_with fail
   refine (R2.out _).mono ?_
   rintro e w2 ⟨rfl, hb2⟩
   have K2 : Below w.heap.size w w2 := Yc hb2 hb1
   clear hb1 hb2
   go_wp2
   go_ret
   exact ⟨by simp [ByteArray.mk_append_mk], K2⟩
theorem l43dig_any (n : Int) (h : smallI n) (h2 : -9223372036854775807 ≤ n) (w : World) : Calls Tryz.prog 37 #[.int .i64 n] w (RB w (.string ⟨(itoa n).toArray⟩)) := by
 obtain ⟨h0, h1⟩ := h
 by_cases hn : n < 0
 ·obtain ⟨u, hu⟩ : ∃ u : Nat, n.natAbs = u := ⟨_, rfl⟩
  have hi : itoa n = 45 :: decDigits u := by unfold itoa; rw [if_pos hn, hu]
  rw [hi]
  have hneg : IntKind.i64.wrap (-n) = (u : Int) := Y4
  have c0 : decide (n < 0) = true := decide_eq_true hn
  have l1 := dec_len u Yo
  have R1 := Yh (l43dig_nat u Yo)
  obtain ⟨d1, hd1⟩ : ∃ d, decDigits u = d := ⟨_, rfl⟩
  rw [hd1] at R1 l1 ⊢
  clear hi hd1
  go_enter Tryz.func37, Tryz.ntmps37
  go_wp2_with fail
  refine (R1.out _).mono ?_
  rintro e w1 ⟨rfl, hb1⟩
  go_wp2
  go_ret
  exact ⟨by simp [ByteArray.mk_append_mk], hb1⟩
 ·obtain ⟨u, rfl⟩ : ∃ u : Nat, n = (u : Int) := ⟨n.toNat, Yo⟩
  have hi : itoa (u : Int) = decDigits u := by unfold itoa; rw [if_neg hn]; simp
  rw [hi]
  exact l43dig_nat u Yo w
theorem l43line_any (word : List UInt8) (A : Option Addr) (len cap : Nat) (ns : List Int) (w : World) (hn : NumsR w A len ns) (hs : ∀ n ∈ ns, smallI n ∧ -9223372036854775807 ≤ n) (hl : word.length + 22 * ns.length ≤ 1000) :
  Calls Tryz.prog 14 #[.string ⟨word.toArray⟩, .slice A len cap] w (RB w (.string ⟨(lnW word ns ++ [10]).toArray⟩)) := by
 obtain rfl := hn.1
 have HN := Yh hn; have HSM := Yh hs
 clear hn hs
 go_enter Tryz.func14, Tryz.ntmps14
 go_wp2
 go_loopg [0, 5] ns.length (fun G v i wr => LnRel w word ns G v i wr)
 case atStart => exact ⟨0, Yo, Yo, rfl, by simp [lnW], Below.refl _ _⟩
 case round =>
  obtain ⟨q, hq, rfl, rfl, rfl, KR⟩ := hrel
  have ZR := KR.size
  have HKR := Yh KR
  have hlen : (lnW word (ns.take q)).length ≤ 1000 := by
   have h9 := lnW_len (word := word) (ns := ns.take q) (fun n hn => (HSM.out n (List.mem_of_mem_take hn)).1)
   rw [List.length_take] at h9; omega
  by_cases hlt : q < ns.length
  ·have gp : decide ((q : Int) < (ns.length : Int)) = true := Y2
   have gpn : decide (q < ns.length) = true := decide_eq_true hlt
   have wp : IntKind.i64.wrap ((q : Int) + 1) = ((q + 1 : Nat) : Int) := Y4
   obtain ⟨gA, rfl, hgA, hcA⟩ := (HN.out.below KR).cell q hlt
   have cA := hcA q hlt
   obtain ⟨n9, hn9⟩ : ∃ n9, ns.getD q 0 = n9 := ⟨_, rfl⟩
   have hs9 : smallI n9 ∧ -9223372036854775807 ≤ n9 := by rw [← hn9, Y8, Y9 hlt]; exact HSM.out _ (List.getElem_mem _)
   rw [hn9] at cA
   have hnx : lnW word (ns.take (q + 1)) = lnW word (ns.take q) ++ 32 :: itoa n9 := by
    unfold lnW
    rw [take_nextI ns q hlt, hn9, List.flatMap_append, List.flatMap_singleton, numL, ← List.append_assoc]
   have HNX := Yh hnx
   obtain ⟨tx, htx⟩ : ∃ tx, lnW word (ns.take q) = tx := ⟨_, rfl⟩
   rw [htx] at hlen ⊢ HNX
   have hil := itoa_length_le n9 hs9.1.1 hs9.1.2
   have RD := Yh (fun W => l43dig_any n9 hs9.1 hs9.2 W)
   obtain ⟨li, hli⟩ : ∃ li, itoa n9 = li := ⟨_, rfl⟩
   rw [hli] at hil RD HNX
   clear hcA hnx hn9 hs9 htx hli KR
   go_wp2_with fail
   refine (RD.out _).mono ?_
   rintro e w3 ⟨rfl, hb3⟩
   have K3 : Below w.heap.size w w3 := Yc hb3 HKR.out
   have HK3 := Yh K3
   clear hb3 K3 cA
   go_wp2
   go_roundg (ns.length - (q + 1))
   case measure => omega
   case rel => exact ⟨q + 1, Yo, Yo, by go_num, by rw [HNX.out]; simp [ByteArray.mk_append_mk], HK3.out⟩
  ·obtain rfl : q = ns.length := by omega
   have gp : decide ((ns.length : Int) < (ns.length : Int)) = false := Y3
   have gpn : decide (ns.length < ns.length) = false := Y3
   rw [List.take_length] at hlen ⊢
   obtain ⟨tx, htx⟩ : ∃ tx, lnW word ns = tx := ⟨_, rfl⟩
   rw [htx] at hlen ⊢
   have HTX := Yh htx
   clear htx KR
   go_wp2
   go_ret
   exact ⟨by simp [ByteArray.mk_append_mk, HTX.out], HKR.out⟩
theorem r43dig_nat (u : Nat) : u < 9223372036854775808 → ∀ w : World, Calls Tryz.prog 123 #[.int .i64 (u : Int)] w (RB w (.string ⟨(decDigits u).toArray⟩)) := by
 induction u using Nat.strongRecOn with
 | _ u ih =>
  intro hu w
  have c0 : decide ((u : Int) < 0) = false := Y3
  by_cases h : u < 10
  ·have c1 : decide ((u : Int) < 10) = true := Y2
   have c1' : decide (u < 10) = true := decide_eq_true h
   have hd := decDigits_one h
   rw [hd]
   clear ih
   obtain ⟨d, hdd⟩ : ∃ d : UInt8, d = UInt8.ofNat (48 + u) := ⟨_, rfl⟩
   rw [← hdd]
   have hdn : (48 + (u : Int)) = (d.toNat : Int) := by rw [hdd]; simp; omega
   have c5 : 48 ≤ 48 + (u : Int) := by omega
   have c6 : 48 + (u : Int) ≤ 57 := by omega
   have ek : (convert 72 9 (.slice (some ⟨w.heap.size, 0, none⟩) 1 1)).run Tryz.prog (w.alloc (.cells #[.int .u8 (48 + (u : Int))] 5)) = .ok (.string ⟨#[d]⟩) (w.alloc (.cells #[.int .u8 (48 + (u : Int))] 5)) := by
    rw [hdn]
    exact run_convert_bytes_back (P := Tryz.prog) (w.alloc (.cells #[.int .u8 (d.toNat : Int)] 5)) 72 9 5 ⟨w.heap.size, 0, none⟩ 1 [d] Yr Yr Yr (fun j hj => by
     obtain rfl : j = 0 := by simpa using hj
     exact (Blk.new w _ _).cell 0)
   clear hdd hdn hd
   go_enter Tryz.func123, Tryz.ntmps123
   go_wp2
   go_ret
   exact ⟨rfl, below_new _ _⟩
  ·have c1 : decide ((u : Int) < 10) = false := Y3
   have c1' : decide (u < 10) = false := decide_eq_false h
   have ht : (u : Int).tdiv 10 = ((u / 10 : Nat) : Int) := by rw [Int.tdiv_eq_ediv_of_nonneg Yo]; omega
   have hm : (u : Int).tmod 10 = ((u % 10 : Nat) : Int) := by rw [Int.tmod_eq_emod_of_nonneg Yo]; omega
   have hw : IntKind.i64.wrap ((u / 10 : Nat) : Int) = ((u / 10 : Nat) : Int) := IntWalk.i64_in _ Yo
   rw [dec_ten h]
   have l1 := dec_len (u / 10) Yo
   have l2 := dec_len (u % 10) Yo
   have R1 := Yh (ih (u / 10) Yo Yo)
   have R2 := Yh (ih (u % 10) Yo Yo)
   obtain ⟨d1, h1⟩ : ∃ d, decDigits (u / 10) = d := ⟨_, rfl⟩
   obtain ⟨d2, h2⟩ : ∃ d, decDigits (u % 10) = d := ⟨_, rfl⟩
   rw [h1] at R1 l1 ⊢
   rw [h2] at R2 l2 ⊢
   obtain ⟨q1, hq1⟩ : ∃ q, u / 10 = q := ⟨_, rfl⟩
   obtain ⟨q2, hq2⟩ : ∃ q, u % 10 = q := ⟨_, rfl⟩
   rw [hq1] at ht hw R1
   rw [hq2] at hm R2
   clear ih h1 h2 h hq1 hq2
   go_enter Tryz.func123, Tryz.ntmps123
   go_wp2_with fail
   refine (R1.out _).mono ?_
   rintro e w1 ⟨rfl, hb1⟩
   go_wp2_with fail
   refine (R2.out _).mono ?_
   rintro e w2 ⟨rfl, hb2⟩
   have K2 : Below w.heap.size w w2 := Yc hb2 hb1
   clear hb1 hb2
   go_wp2
   go_ret
   exact ⟨by simp [ByteArray.mk_append_mk], K2⟩
theorem r43dig_any (n : Int) (h : smallI n) (h2 : -9223372036854775807 ≤ n) (w : World) : Calls Tryz.prog 123 #[.int .i64 n] w (RB w (.string ⟨(itoa n).toArray⟩)) := by
 obtain ⟨h0, h1⟩ := h
 by_cases hn : n < 0
 ·obtain ⟨u, hu⟩ : ∃ u : Nat, n.natAbs = u := ⟨_, rfl⟩
  have hi : itoa n = 45 :: decDigits u := by unfold itoa; rw [if_pos hn, hu]
  rw [hi]
  have hneg : IntKind.i64.wrap (-n) = (u : Int) := Y4
  have c0 : decide (n < 0) = true := decide_eq_true hn
  have l1 := dec_len u Yo
  have R1 := Yh (r43dig_nat u Yo)
  obtain ⟨d1, hd1⟩ : ∃ d, decDigits u = d := ⟨_, rfl⟩
  rw [hd1] at R1 l1 ⊢
  clear hi hd1
  go_enter Tryz.func123, Tryz.ntmps123
  go_wp2_with fail
  refine (R1.out _).mono ?_
  rintro e w1 ⟨rfl, hb1⟩
  go_wp2
  go_ret
  exact ⟨by simp [ByteArray.mk_append_mk], hb1⟩
 ·obtain ⟨u, rfl⟩ : ∃ u : Nat, n = (u : Int) := ⟨n.toNat, Yo⟩
  have hi : itoa (u : Int) = decDigits u := by unfold itoa; rw [if_neg hn]; simp
  rw [hi]
  exact r43dig_nat u Yo w
theorem r43line_any (word : List UInt8) (A : Option Addr) (len cap : Nat) (ns : List Int) (w : World) (hn : NumsR w A len ns) (hs : ∀ n ∈ ns, smallI n ∧ -9223372036854775807 ≤ n) (hl : word.length + 22 * ns.length ≤ 1000) :
  Calls Tryz.prog 87 #[.string ⟨word.toArray⟩, .slice A len cap] w (RB w (.string ⟨(lnW word ns ++ [10]).toArray⟩)) := by
 obtain rfl := hn.1
 have HN := Yh hn; have HSM := Yh hs
 clear hn hs
 go_enter Tryz.func87, Tryz.ntmps87
 go_wp2
 go_loopg [5, 6] ns.length (fun G v i wr => LnRel w word ns G v i wr)
 case atStart => exact ⟨0, Yo, Yo, rfl, by simp [lnW], Below.refl _ _⟩
 case round =>
  obtain ⟨q, hq, rfl, rfl, rfl, KR⟩ := hrel
  have ZR := KR.size
  have HKR := Yh KR
  have hlen : (lnW word (ns.take q)).length ≤ 1000 := by
   have h9 := lnW_len (word := word) (ns := ns.take q) (fun n hn => (HSM.out n (List.mem_of_mem_take hn)).1)
   rw [List.length_take] at h9; omega
  by_cases hlt : q < ns.length
  ·have gp : decide ((q : Int) < (ns.length : Int)) = true := Y2
   have gpn : decide (q < ns.length) = true := decide_eq_true hlt
   have wp : IntKind.i64.wrap ((q : Int) + 1) = ((q + 1 : Nat) : Int) := Y4
   obtain ⟨gA, rfl, hgA, hcA⟩ := (HN.out.below KR).cell q hlt
   have cA := hcA q hlt
   obtain ⟨n9, hn9⟩ : ∃ n9, ns.getD q 0 = n9 := ⟨_, rfl⟩
   have hs9 : smallI n9 ∧ -9223372036854775807 ≤ n9 := by rw [← hn9, Y8, Y9 hlt]; exact HSM.out _ (List.getElem_mem _)
   rw [hn9] at cA
   have hnx : lnW word (ns.take (q + 1)) = lnW word (ns.take q) ++ 32 :: itoa n9 := by
    unfold lnW
    rw [take_nextI ns q hlt, hn9, List.flatMap_append, List.flatMap_singleton, numL, ← List.append_assoc]
   have HNX := Yh hnx
   obtain ⟨tx, htx⟩ : ∃ tx, lnW word (ns.take q) = tx := ⟨_, rfl⟩
   rw [htx] at hlen ⊢ HNX
   have hil := itoa_length_le n9 hs9.1.1 hs9.1.2
   have RD := Yh (fun W => r43dig_any n9 hs9.1 hs9.2 W)
   obtain ⟨li, hli⟩ : ∃ li, itoa n9 = li := ⟨_, rfl⟩
   rw [hli] at hil RD HNX
   clear hcA hnx hn9 hs9 htx hli KR
   go_wp2_with fail
   refine (RD.out _).mono ?_
   rintro e w3 ⟨rfl, hb3⟩
   have K3 : Below w.heap.size w w3 := Yc hb3 HKR.out
   have HK3 := Yh K3
   clear hb3 K3 cA
   go_wp2
   go_roundg (ns.length - (q + 1))
   case measure => omega
   case rel => exact ⟨q + 1, Yo, Yo, by go_num, by rw [HNX.out]; simp [ByteArray.mk_append_mk], HK3.out⟩
  ·obtain rfl : q = ns.length := by omega
   have gp : decide ((ns.length : Int) < (ns.length : Int)) = false := Y3
   have gpn : decide (ns.length < ns.length) = false := Y3
   rw [List.take_length] at hlen ⊢
   obtain ⟨tx, htx⟩ : ∃ tx, lnW word ns = tx := ⟨_, rfl⟩
   rw [htx] at hlen ⊢
   have HTX := Yh htx
   clear htx KR
   go_wp2
   go_ret
   exact ⟨by simp [ByteArray.mk_append_mk, HTX.out], HKR.out⟩
set_option maxHeartbeats 64000000
def ScRel (w : World) (b m : Nat) (G : Nat) (s at_ i : Value) (wr : World) : Prop := ∃ (q r : Nat) (a : Int) (ls : List (List UInt8)), q + r = m ∧ G = r + 0 ∧ i = .int .i64 (r : Int) ∧ at_ = .int .i64 a ∧ 0 ≤ a ∧ a ≤ 60 * q ∧ s = .string ⟨(lnsT ls).toArray⟩ ∧ ls.length ≤ q + 1 ∧ (∀ l ∈ ls, ScL l) ∧ TapeAt wr b ∧ GB b w wr
def ScrR (w : World) (b : Nat) (n : Int) (e : Ending) (w' : World) : Prop := ∃ ls : List (List UInt8), e = .returned (.string ⟨(lnsT ls).toArray⟩) ∧ (ls.length : Int) ≤ n + 1 ∧ (∀ l ∈ ls, ScL l) ∧ TapeAt w' b ∧ w.grownBy w' (some b)
theorem l43lineG (ws : Array UInt8) (word : List UInt8) (hw : ws = word.toArray) (ns : List Int) (k : Nat) (hk : ns.length = k) (hs : ∀ n ∈ ns, smallI n ∧ -9223372036854775807 ≤ n) (hl : word.length + 22 * k ≤ 1000) (W : World) (gA : Nat) (h : NumsR W (some ⟨gA, 0, none⟩) k ns) :
  Calls Tryz.prog 14 #[.string ⟨ws⟩, .slice (some ⟨gA, 0, none⟩) k k] W (RB W (.string ⟨(lnW word ns ++ [10]).toArray⟩)) := by
 subst hw; exact l43line_any word _ k k ns W h hs (by rw [hk]; exact hl)
theorem scr_line (c : Cmd) (ws : Array UInt8) (hw : ws = c.word.toArray) (ns : List Int) (k : Nat) (hk : ns.length = k) (k6 : k ≤ 6) (hs : ∀ n ∈ ns, small17 n) :
  ∃ (l : List UInt8) (L : List UInt8), ScL l ∧ l ++ [10] = L ∧ L.length ≤ 201 ∧ ∀ (W : World) (gA : Nat), NumsR W (some ⟨gA, 0, none⟩) k ns → Calls Tryz.prog 14 #[.string ⟨ws⟩, .slice (some ⟨gA, 0, none⟩) k k] W (RB W (.string ⟨L.toArray⟩)) := by
 have h := scL_cmd c ns hs Yo
 refine ⟨_, _, h, rfl, by rw [lla]; have := h.2.2.1; simp; omega, fun W gA hN => ?_⟩
 refine l43lineG ws c.word hw ns k hk (fun n hn => ⟨⟨by have := (hs n hn).1; omega, by have := (hs n hn).2; omega⟩, by have := (hs n hn).1; omega⟩) ?_ W gA hN
 have : c.word.length ≤ 7 := by cases c <;> decide
 omega
theorem lns_one (ls : List (List UInt8)) (l : List UInt8) : lnsT (ls ++ [l]) = lnsT ls ++ (l ++ [10]) := by rw [lnsT_app]; simp [lnsT]
theorem scL_snoc {ls : List (List UInt8)} {l : List UInt8} (h : ∀ x ∈ ls, ScL x) (hl : ScL l) : ∀ x ∈ ls ++ [l], ScL x := fun x hx => by
 rcases List.mem_append.1 hx with hx | hx
 ·exact h x hx
 ·rw [List.mem_singleton.1 hx]; exact hl
theorem scL_of {l : List UInt8} (h1 : ∀ b ∈ l, b.toNat < 128) (h2 : (10 : UInt8) ∉ l) (h3 : l.length ≤ 200) (h4 : ∀ x ∈ (wordsGo [] l).tail, NumW x) : ScL l := ⟨h1, h2, h3, fun _ => h4⟩
theorem scL_note {l : List UInt8} (h1 : ∀ b ∈ l, b.toNat < 128) (h2 : (10 : UInt8) ∉ l) (h3 : l.length ≤ 200) (h4 : noteW (wordsGo [] l) = true) : ScL l := ⟨h1, h2, h3, fun h => by rw [h4] at h; cases h⟩
theorem numW_of {x : List UInt8} (n : Int) (h : small17 n) (e : itoa n = x) : NumW x := .inl ⟨n, h, e.symm⟩
theorem odd_words {l w : List UInt8} {ws : List (List UInt8)} (h : wordsGo [] l = w :: ws) (h2 : ∀ x ∈ ws, NumW x) : ∀ x ∈ (wordsGo [] l).tail, NumW x := by rw [h]; exact h2
theorem itoa_ch {d : Nat} (h : d < 10) : itoa (d : Int) = [UInt8.ofNat (48 + d)] := by
 unfold itoa
 rw [if_neg Yo, Int.toNat_natCast, decDigits_one h]
theorem num_d (d : Nat) (h : d < 10) {x : List UInt8} (e : [UInt8.ofNat (48 + d)] = x) : NumW x := .inl ⟨d, ⟨Yo, Yo⟩, by rw [itoa_ch h, e]⟩
def oddL : List (List UInt8) := [[], [35, 32, 110, 111, 116, 101], [115, 111, 117, 114, 99, 101, 115, 32, 51, 32, 49], [110, 111, 119], [115, 97, 109, 112, 108, 101, 32, 48, 32, 49, 32, 50], [110, 111, 119, 32, 48, 48, 55], [119, 97, 105, 116, 32, 53], [32, 32, 110, 111, 119, 32, 32, 32, 57, 48, 32, 32], [100, 114, 105, 102, 116, 32, 45, 49]]
theorem odd_ok : ∀ l ∈ oddL, ScL l := by
 intro l hl
 simp only [oddL, List.mem_cons, List.mem_nil_iff, or_false] at hl
 rcases hl with rfl | rfl | rfl | rfl | rfl | rfl | rfl | rfl | rfl
 ·exact scL_note Ys Ys Yd rfl
 ·exact scL_note Yd Yd Yd rfl
 ·exact scL_of Yd Yd Yd (odd_words (w := [115, 111, 117, 114, 99, 101, 115]) (ws := [[51], [49]]) rfl (fun x hx => by simp at hx; rcases hx with rfl | rfl; exact num_d 3 Yd rfl; exact num_d 1 Yd rfl))
 ·exact scL_of Yd Yd Yd (odd_words (w := [110, 111, 119]) (ws := []) rfl (fun x hx => by simp at hx))
 ·exact scL_of Yd Yd Yd (odd_words (w := [115, 97, 109, 112, 108, 101]) (ws := [[48], [49], [50]]) rfl (fun x hx => by simp at hx; rcases hx with rfl | rfl | rfl; exact num_d 0 Yd rfl; exact num_d 1 Yd rfl; exact num_d 2 Yd rfl))
 ·exact scL_of Yd Yd Yd (odd_words (w := [110, 111, 119]) (ws := [[48, 48, 55]]) rfl (fun x hx => by simp at hx; rw [hx]; exact .inr rfl))
 ·exact scL_of Yd Yd Yd (odd_words (w := [119, 97, 105, 116]) (ws := [[53]]) rfl (fun x hx => by simp at hx; rw [hx]; exact num_d 5 Yd rfl))
 ·exact scL_of Yd Yd Yd (odd_words (w := [110, 111, 119]) (ws := [[57, 48]]) rfl (fun x hx => by simp at hx; rw [hx]; exact numW_of 90 ⟨by decide, by decide⟩ (by simp [itoa, decDigits])))
 ·exact scL_of Yd Yd Yd (odd_words (w := [100, 114, 105, 102, 116]) (ws := [[45, 49]]) rfl (fun x hx => by simp at hx; rw [hx]; exact numW_of (-1) ⟨by decide, by decide⟩ (by simp [itoa, decDigits])))
theorem script_any (b : Nat) (n : Int) (w : World) (h : TapeAt w b) (n0 : 0 ≤ n) (n1 : n ≤ 12) :
  Calls Tryz.prog 9 #[.pointer (some ⟨b, 0, none⟩), .int .i64 n] w (ScrR w b n) := by
 have hb := h.lt
 have HT := Yh h; clear h
 have wn : IntKind.i64.wrap (n + 1) = n + 1 := IntWalk.i64_in _ Yo
 go_enter Tryz.func9, Tryz.ntmps9
 go_wp2_with fail
 refine (tbool_any _ 9 _ Yt Yo Yo).mono ?_
 rintro e w1 ⟨vb, rfl, ht1, hg1⟩
 have K1 : GB b w w1 := GB.tap hg1 Yg
 have Z1 := K1.size
 clear HT; have T1 := ht1.lt; have HT := Yh ht1; clear ht1
 clear hg1
 go_upto_if 10 with fail
 go_cut [5, 6] (fun s a wx => a = .int .i64 0 ∧ (∃ ls : List (List UInt8), s = .string ⟨(lnsT ls).toArray⟩ ∧ ls.length ≤ 1 ∧ (∀ l ∈ ls, ScL l)) ∧ TapeAt wx b ∧ GB b w wx)
 case first =>
  cases vb with
  | true =>
   go_wp2_with fail
   go_meet
   exact ⟨rfl, ⟨[], rfl, by decide, fun l hl => by simp at hl⟩, Yt, Yg⟩
  | false =>
   go_wp2_with fail
   refine (int_any _ 4 _ Yt Yo Yo).mono ?_
   rintro e w2 ⟨v1, rfl, v10, v11, ht2, hg2⟩
   have K2 : GB b w w2 := GB.tap hg2 Yg
   have Z2 := K2.size
   clear HT; have T2 := ht2.lt; have HT := Yh ht2; clear ht2
   clear hg2 K1
   obtain ⟨v4, hv4⟩ : ∃ v4, 1 + v1 = v4 := ⟨_, rfl⟩
   have v40 : 0 ≤ v4 := by omega
   have v41 : v4 < 100 := by omega
   have wr1 : IntKind.i64.wrap (1 + v1) = v4 := by rw [IntWalk.i64_in _ Yo]; exact hv4
   clear hv4
   go_wp2_with fail
   refine (int_any _ 3 _ Yt Yo Yo).mono ?_
   rintro e w3 ⟨v2, rfl, v20, v21, ht3, hg3⟩
   have K3 : GB b w w3 := GB.tap hg3 Yg
   have Z3 := K3.size
   clear HT; have T3 := ht3.lt; have HT := Yh ht3; clear ht3
   clear hg3 K2
   have wr2 : v2.tmod 2 = v2 % 2 := Int.tmod_eq_emod_of_nonneg Yo
   obtain ⟨v3, hv3⟩ : ∃ v3, v2 % 2 = v3 := ⟨_, rfl⟩
   have v30 : 0 ≤ v3 := by omega
   have v31 : v3 < 2 := by omega
   rw [hv3] at wr2
   clear hv3
   obtain ⟨l9, L9, hl9, hL9, nL9, RL⟩ := scr_line .sources #[115, 111, 117, 114, 99, 101, 115] rfl [v4, v3] 2 rfl Yd (fun m hm => by simp only [List.mem_cons, List.mem_nil_iff, or_false] at hm; rcases hm with rfl | rfl; all_goals exact ⟨Yo, Yo⟩)
   have HSL := Yh hl9; have HL9 := Yh hL9; have HRL := Yh RL; clear hl9 hL9 RL
   go_wp2_with fail
   refine (HRL.out _ _ (NumsR.newE [v4, v3] (by first | rfl | (simp; done)))).mono ?_
   rintro e w4 ⟨rfl, hb4⟩
   have K4 : GB b w w4 := GB.call hb4 Yg
   have Z4 := K4.size
   have ht4 := TapeAt.below Yt hb4
   clear HT; have T4 := ht4.lt; have HT := Yh ht4; clear ht4
   clear hb4 K3
   go_wp2_with fail
   go_meet
   exact ⟨rfl, ⟨[l9], by rw [← HL9.out]; simp [lnsT], Nat.le_refl 1, fun l hl => by rw [List.mem_singleton.1 hl]; exact HSL.out⟩, Yt, Yg⟩
 case rest =>
  obtain ⟨rfl, ⟨ls0, rfl, hl0, hs0⟩, htc, KC⟩ := hcut
  clear HT K1
  have TC := htc.lt; have ZC := KC.size
  have HT := Yh htc; have HS0 := Yh hs0; clear htc hs0
  go_wp2_with fail
  refine (int_any _ (n + 1) _ Yt Yo Yo).mono ?_
  rintro e w2 ⟨kv, rfl, kv0, kv1, ht2, hg2⟩
  have K2 : GB b w w2 := GB.tap hg2 Yg
  have Z2 := K2.size
  clear HT; have T2 := ht2.lt; have HT := Yh ht2; clear ht2
  clear hg2 KC
  obtain ⟨m, rfl⟩ : ∃ m : Nat, kv = (m : Int) := ⟨kv.toNat, Yo⟩
  have hmn : (m : Int) ≤ n := by omega
  clear kv0 kv1 wn
  go_wp2
  go_loopg [5, 6, 7] m (fun G s a i wr => ScRel w b m G s a i wr)
  case atStart => exact ⟨0, m, 0, ls0, Yo, Yo, by simp, rfl, Yo, Yo, rfl, Yo, HS0.out, Yt, by (try show GB b w _); (repeat' (first | (with_reducible exact K2) | (with_reducible refine GB.setCell ?_ ?_ _) | (with_reducible refine GB.alloc ?_ _) | (with_reducible refine GB.drew ?_) | (with_reducible refine GB.drewN ?_ _))) <;> (first | omega | (simp <;> omega))⟩
  case round =>
   obtain ⟨q, r, a, ls, hqr, hG, rfl, rfl, a0, a1, rfl, hll, hsc, htr, KR⟩ := hrel
   clear HT K2 HS0
   have TR := htr.lt
   have ZR := KR.size
   have HT := Yh htr; have HSC := Yh hsc; clear htr
   have hlen := lns_len hsc
   obtain ⟨tx, htx⟩ : ∃ tx, lnsT ls = tx := ⟨_, rfl⟩
   rw [htx] at hlen ⊢
   have htl : tx.length ≤ 3000 := by omega
   have HTX := Yh htx
   clear htx hlen hsc
   by_cases hr : 0 < r
   ·have gq : decide (0 < (r : Int)) = true := Y2
    have gq2 : decide (0 < r) = true := decide_eq_true hr
    obtain ⟨rj, rfl⟩ : ∃ rj, r = rj + 1 := ⟨r - 1, Yo⟩
    have wj : IntKind.i64.wrap (((rj + 1 : Nat) : Int) - 1) = (rj : Int) := Y4
    have wj2 : IntKind.i64.wrap ((rj : Int) + 1 - 1) = (rj : Int) := Y4
    go_wp2_with fail
    refine (int_any _ 60 _ Yt Yo Yo).mono ?_
    rintro e w3 ⟨da, rfl, da0, da1, ht3, hg3⟩
    have K3 : GB b w w3 := GB.tap hg3 Yg
    have Z3 := K3.size
    clear HT; have T3 := ht3.lt; have HT := Yh ht3; clear ht3
    clear hg3 KR
    obtain ⟨a2, ha2⟩ : ∃ a2, a + da = a2 := ⟨_, rfl⟩
    have wa : IntKind.i64.wrap (a + da) = a2 := by rw [IntWalk.i64_in _ Yo]; exact ha2
    have a20 : 0 ≤ a2 := by omega
    have a21 : a2 ≤ 60 * ((q + 1 : Nat) : Int) := by omega
    have a22 : a2 ≤ 900 := by omega
    clear ha2 a0 a1 da0 da1
    go_wp2_with fail
    refine (int_any _ 10 _ Yt Yo Yo).mono ?_
    rintro e w4 ⟨cc, rfl, cc0, cc1, ht4, hg4⟩
    have K4 : GB b w w4 := GB.tap hg4 Yg
    have Z4 := K4.size
    clear HT; have T4 := ht4.lt; have HT := Yh ht4; clear ht4
    clear hg4 K3
    have hcc : cc = 0 ∨ cc = 1 ∨ cc = 2 ∨ cc = 3 ∨ cc = 4 ∨ cc = 5 ∨ cc = 6 ∨ cc = 7 ∨ cc = 8 ∨ cc = 9 := by omega
    clear cc0 cc1
    rcases hcc with rfl | rfl | rfl | rfl | rfl | rfl | rfl | rfl | rfl | rfl
    ·skip
     go_wp2_with fail
     refine (int_any _ 5 _ Yt Yo Yo).mono ?_
     rintro e w5 ⟨v1, rfl, v10, v11, ht5, hg5⟩
     have K5 : GB b w w5 := GB.tap hg5 Yg
     have Z5 := K5.size
     have b5_0 := Blk.keepG (g := w4.heap.size) hg5 bn0 Y6
     (try simp only [lst, ls0, ls1] at b5_0)
     clear HT; have T5 := ht5.lt; have HT := Yh ht5; clear ht5
     clear hg5 K4
     obtain ⟨c5_0, f5_0, l5_0, e5_0, k5_0⟩ := Yf b5_0
     have o5_0 := l5_0
     have h5 : v1 = 0 ∨ v1 = 1 ∨ v1 = 2 ∨ v1 = 3 ∨ v1 = 4 := by omega
     clear v10 v11
     rcases h5 with rfl | rfl | rfl | rfl | rfl
     ·skip
      obtain ⟨l9, L9, hl9, hL9, nL9, RL⟩ := scr_line .drift #[100, 114, 105, 102, 116] rfl [0] 1 rfl Yd (fun m hm => by simp only [List.mem_cons, List.mem_nil_iff, or_false] at hm; rcases hm with rfl; all_goals exact ⟨Yo, Yo⟩)
      have HSL := Yh hl9; have HL9 := Yh hL9; have HRL := Yh RL; clear hl9 hL9 RL
      go_wp2_with fail
      refine (HRL.out _ _ (NumsR.newE [0] (by first | rfl | (simp; done)))).mono ?_
      rintro e w6 ⟨rfl, hb6⟩
      have K6 : GB b w w6 := GB.call hb6 Yg
      have Z6 := K6.size
      have b5_0' := Yk (g := w4.heap.size) hb6 bn1
      (try simp only [lst, ls0, ls1] at b5_0')
      have ht6 := TapeAt.below Yt hb6
      clear HT; have T6 := ht6.lt; have HT := Yh ht6; clear ht6
      clear hb6 K5
      clear b5_0 c5_0 f5_0 l5_0 e5_0 k5_0; have b5_0 := b5_0'; clear b5_0'
      obtain ⟨c5_0, f5_0, l5_0, e5_0, k5_0⟩ := Yf b5_0
      go_wp2
      go_roundg rj
      case measure => omega
      case rel => exact ⟨q + 1, rj, a2, ls ++ [l9], Yo, rfl, by (try simp only [wj, wj2]), rfl, a20, a21, by rw [lns_one, HTX.out, HL9.out]; (first | rfl | (simp [ByteArray.mk_append_mk]; done)), by rw [lla, List.length_singleton]; omega, scL_snoc HSC.out HSL.out, Yt, Yg⟩
     ·skip
      obtain ⟨l9, L9, hl9, hL9, nL9, RL⟩ := scr_line .drift #[100, 114, 105, 102, 116] rfl [200] 1 rfl Yd (fun m hm => by simp only [List.mem_cons, List.mem_nil_iff, or_false] at hm; rcases hm with rfl; all_goals exact ⟨Yo, Yo⟩)
      have HSL := Yh hl9; have HL9 := Yh hL9; have HRL := Yh RL; clear hl9 hL9 RL
      go_wp2_with fail
      refine (HRL.out _ _ (NumsR.newE [200] (by first | rfl | (simp; done)))).mono ?_
      rintro e w6 ⟨rfl, hb6⟩
      have K6 : GB b w w6 := GB.call hb6 Yg
      have Z6 := K6.size
      have b5_0' := Yk (g := w4.heap.size) hb6 bn1
      (try simp only [lst, ls0, ls1] at b5_0')
      have ht6 := TapeAt.below Yt hb6
      clear HT; have T6 := ht6.lt; have HT := Yh ht6; clear ht6
      clear hb6 K5
      clear b5_0 c5_0 f5_0 l5_0 e5_0 k5_0; have b5_0 := b5_0'; clear b5_0'
      obtain ⟨c5_0, f5_0, l5_0, e5_0, k5_0⟩ := Yf b5_0
      go_wp2
      go_roundg rj
      case measure => omega
      case rel => exact ⟨q + 1, rj, a2, ls ++ [l9], Yo, rfl, by (try simp only [wj, wj2]), rfl, a20, a21, by rw [lns_one, HTX.out, HL9.out]; (first | rfl | (simp [ByteArray.mk_append_mk]; done)), by rw [lla, List.length_singleton]; omega, scL_snoc HSC.out HSL.out, Yt, Yg⟩
     ·skip
      obtain ⟨l9, L9, hl9, hL9, nL9, RL⟩ := scr_line .drift #[100, 114, 105, 102, 116] rfl [50000] 1 rfl Yd (fun m hm => by simp only [List.mem_cons, List.mem_nil_iff, or_false] at hm; rcases hm with rfl; all_goals exact ⟨Yo, Yo⟩)
      have HSL := Yh hl9; have HL9 := Yh hL9; have HRL := Yh RL; clear hl9 hL9 RL
      go_wp2_with fail
      refine (HRL.out _ _ (NumsR.newE [50000] (by first | rfl | (simp; done)))).mono ?_
      rintro e w6 ⟨rfl, hb6⟩
      have K6 : GB b w w6 := GB.call hb6 Yg
      have Z6 := K6.size
      have b5_0' := Yk (g := w4.heap.size) hb6 bn1
      (try simp only [lst, ls0, ls1] at b5_0')
      have ht6 := TapeAt.below Yt hb6
      clear HT; have T6 := ht6.lt; have HT := Yh ht6; clear ht6
      clear hb6 K5
      clear b5_0 c5_0 f5_0 l5_0 e5_0 k5_0; have b5_0 := b5_0'; clear b5_0'
      obtain ⟨c5_0, f5_0, l5_0, e5_0, k5_0⟩ := Yf b5_0
      go_wp2
      go_roundg rj
      case measure => omega
      case rel => exact ⟨q + 1, rj, a2, ls ++ [l9], Yo, rfl, by (try simp only [wj, wj2]), rfl, a20, a21, by rw [lns_one, HTX.out, HL9.out]; (first | rfl | (simp [ByteArray.mk_append_mk]; done)), by rw [lla, List.length_singleton]; omega, scL_snoc HSC.out HSL.out, Yt, Yg⟩
     ·skip
      obtain ⟨l9, L9, hl9, hL9, nL9, RL⟩ := scr_line .drift #[100, 114, 105, 102, 116] rfl [1000000] 1 rfl Yd (fun m hm => by simp only [List.mem_cons, List.mem_nil_iff, or_false] at hm; rcases hm with rfl; all_goals exact ⟨Yo, Yo⟩)
      have HSL := Yh hl9; have HL9 := Yh hL9; have HRL := Yh RL; clear hl9 hL9 RL
      go_wp2_with fail
      refine (HRL.out _ _ (NumsR.newE [1000000] (by first | rfl | (simp; done)))).mono ?_
      rintro e w6 ⟨rfl, hb6⟩
      have K6 : GB b w w6 := GB.call hb6 Yg
      have Z6 := K6.size
      have b5_0' := Yk (g := w4.heap.size) hb6 bn1
      (try simp only [lst, ls0, ls1] at b5_0')
      have ht6 := TapeAt.below Yt hb6
      clear HT; have T6 := ht6.lt; have HT := Yh ht6; clear ht6
      clear hb6 K5
      clear b5_0 c5_0 f5_0 l5_0 e5_0 k5_0; have b5_0 := b5_0'; clear b5_0'
      obtain ⟨c5_0, f5_0, l5_0, e5_0, k5_0⟩ := Yf b5_0
      go_wp2
      go_roundg rj
      case measure => omega
      case rel => exact ⟨q + 1, rj, a2, ls ++ [l9], Yo, rfl, by (try simp only [wj, wj2]), rfl, a20, a21, by rw [lns_one, HTX.out, HL9.out]; (first | rfl | (simp [ByteArray.mk_append_mk]; done)), by rw [lla, List.length_singleton]; omega, scL_snoc HSC.out HSL.out, Yt, Yg⟩
     ·skip
      obtain ⟨l9, L9, hl9, hL9, nL9, RL⟩ := scr_line .drift #[100, 114, 105, 102, 116] rfl [1000001] 1 rfl Yd (fun m hm => by simp only [List.mem_cons, List.mem_nil_iff, or_false] at hm; rcases hm with rfl; all_goals exact ⟨Yo, Yo⟩)
      have HSL := Yh hl9; have HL9 := Yh hL9; have HRL := Yh RL; clear hl9 hL9 RL
      go_wp2_with fail
      refine (HRL.out _ _ (NumsR.newE [1000001] (by first | rfl | (simp; done)))).mono ?_
      rintro e w6 ⟨rfl, hb6⟩
      have K6 : GB b w w6 := GB.call hb6 Yg
      have Z6 := K6.size
      have b5_0' := Yk (g := w4.heap.size) hb6 bn1
      (try simp only [lst, ls0, ls1] at b5_0')
      have ht6 := TapeAt.below Yt hb6
      clear HT; have T6 := ht6.lt; have HT := Yh ht6; clear ht6
      clear hb6 K5
      clear b5_0 c5_0 f5_0 l5_0 e5_0 k5_0; have b5_0 := b5_0'; clear b5_0'
      obtain ⟨c5_0, f5_0, l5_0, e5_0, k5_0⟩ := Yf b5_0
      go_wp2
      go_roundg rj
      case measure => omega
      case rel => exact ⟨q + 1, rj, a2, ls ++ [l9], Yo, rfl, by (try simp only [wj, wj2]), rfl, a20, a21, by rw [lns_one, HTX.out, HL9.out]; (first | rfl | (simp [ByteArray.mk_append_mk]; done)), by rw [lla, List.length_singleton]; omega, scL_snoc HSC.out HSL.out, Yt, Yg⟩
    ·skip
     go_wp2_with fail
     refine (int_any _ 3 _ Yt Yo Yo).mono ?_
     rintro e w5 ⟨v1, rfl, v10, v11, ht5, hg5⟩
     have K5 : GB b w w5 := GB.tap hg5 Yg
     have Z5 := K5.size
     clear HT; have T5 := ht5.lt; have HT := Yh ht5; clear ht5
     clear hg5 K4
     obtain ⟨s0, hs0⟩ : ∃ s0, a2 + 1000 = s0 := ⟨_, rfl⟩
     have ws0 : IntKind.i64.wrap (a2 + 1000) = s0 := by rw [IntWalk.i64_in _ Yo]; exact hs0
     have s0b : -10 ≤ s0 ∧ s0 ≤ 2000 := by omega
     clear hs0
     go_wp2_with fail
     refine (int_any _ 50 _ Yt Yo Yo).mono ?_
     rintro e w6 ⟨v2, rfl, v20, v21, ht6, hg6⟩
     have K6 : GB b w w6 := GB.tap hg6 Yg
     have Z6 := K6.size
     clear HT; have T6 := ht6.lt; have HT := Yh ht6; clear ht6
     clear hg6 K5
     obtain ⟨s1, hs1⟩ : ∃ s1, s0 + v2 = s1 := ⟨_, rfl⟩
     have ws1 : IntKind.i64.wrap (s0 + v2) = s1 := by rw [IntWalk.i64_in _ Yo]; exact hs1
     have s1b : -10 ≤ s1 ∧ s1 ≤ 4000 := by omega
     clear hs1
     go_wp2_with fail
     refine (int_any _ 60 _ Yt Yo Yo).mono ?_
     rintro e w7 ⟨v3, rfl, v30, v31, ht7, hg7⟩
     have K7 : GB b w w7 := GB.tap hg7 Yg
     have Z7 := K7.size
     clear HT; have T7 := ht7.lt; have HT := Yh ht7; clear ht7
     clear hg7 K6
     obtain ⟨s2, hs2⟩ : ∃ s2, s0 + v3 = s2 := ⟨_, rfl⟩
     have ws2 : IntKind.i64.wrap (s0 + v3) = s2 := by rw [IntWalk.i64_in _ Yo]; exact hs2
     have s2b : -10 ≤ s2 ∧ s2 ≤ 4000 := by omega
     clear hs2
     go_wp2_with fail
     refine (int_any _ 90 _ Yt Yo Yo).mono ?_
     rintro e w8 ⟨v4, rfl, v40, v41, ht8, hg8⟩
     have K8 : GB b w w8 := GB.tap hg8 Yg
     have Z8 := K8.size
     clear HT; have T8 := ht8.lt; have HT := Yh ht8; clear ht8
     clear hg8 K7
     obtain ⟨s3, hs3⟩ : ∃ s3, a2 + v4 = s3 := ⟨_, rfl⟩
     have ws3 : IntKind.i64.wrap (a2 + v4) = s3 := by rw [IntWalk.i64_in _ Yo]; exact hs3
     have s3b : -10 ≤ s3 ∧ s3 ≤ 4000 := by omega
     clear hs3
     go_wp2_with fail
     refine (int_any _ 40 _ Yt Yo Yo).mono ?_
     rintro e w9 ⟨v5, rfl, v50, v51, ht9, hg9⟩
     have K9 : GB b w w9 := GB.tap hg9 Yg
     have Z9 := K9.size
     clear HT; have T9 := ht9.lt; have HT := Yh ht9; clear ht9
     clear hg9 K8
     obtain ⟨l9, L9, hl9, hL9, nL9, RL⟩ := scr_line .sample #[115, 97, 109, 112, 108, 101] rfl [v1, a2, s1, s2, s3, v5] 6 rfl Yd (fun m hm => by simp only [List.mem_cons, List.mem_nil_iff, or_false] at hm; rcases hm with rfl | rfl | rfl | rfl | rfl | rfl; all_goals exact ⟨Yo, Yo⟩)
     have HSL := Yh hl9; have HL9 := Yh hL9; have HRL := Yh RL; clear hl9 hL9 RL
     go_wp2_with fail
     refine (HRL.out _ _ (NumsR.newE [v1, a2, s1, s2, s3, v5] (by first | rfl | (simp; done)))).mono ?_
     rintro e w10 ⟨rfl, hb10⟩
     have K10 : GB b w w10 := GB.call hb10 Yg
     have Z10 := K10.size
     have ht10 := TapeAt.below Yt hb10
     clear HT; have T10 := ht10.lt; have HT := Yh ht10; clear ht10
     clear hb10 K9
     go_wp2
     go_roundg rj
     case measure => omega
     case rel => exact ⟨q + 1, rj, a2, ls ++ [l9], Yo, rfl, by (try simp only [wj, wj2]), rfl, a20, a21, by rw [lns_one, HTX.out, HL9.out]; (first | rfl | (simp [ByteArray.mk_append_mk]; done)), by rw [lla, List.length_singleton]; omega, scL_snoc HSC.out HSL.out, Yt, Yg⟩
    ·skip
     go_wp2_with fail
     refine (int_any _ 3 _ Yt Yo Yo).mono ?_
     rintro e w5 ⟨v1, rfl, v10, v11, ht5, hg5⟩
     have K5 : GB b w w5 := GB.tap hg5 Yg
     have Z5 := K5.size
     clear HT; have T5 := ht5.lt; have HT := Yh ht5; clear ht5
     clear hg5 K4
     obtain ⟨s0, hs0⟩ : ∃ s0, a2 + 1000 = s0 := ⟨_, rfl⟩
     have ws0 : IntKind.i64.wrap (a2 + 1000) = s0 := by rw [IntWalk.i64_in _ Yo]; exact hs0
     have s0b : -10 ≤ s0 ∧ s0 ≤ 2000 := by omega
     clear hs0
     go_wp2_with fail
     refine (int_any _ 50 _ Yt Yo Yo).mono ?_
     rintro e w6 ⟨v2, rfl, v20, v21, ht6, hg6⟩
     have K6 : GB b w w6 := GB.tap hg6 Yg
     have Z6 := K6.size
     clear HT; have T6 := ht6.lt; have HT := Yh ht6; clear ht6
     clear hg6 K5
     obtain ⟨s1, hs1⟩ : ∃ s1, s0 + v2 = s1 := ⟨_, rfl⟩
     have ws1 : IntKind.i64.wrap (s0 + v2) = s1 := by rw [IntWalk.i64_in _ Yo]; exact hs1
     have s1b : -10 ≤ s1 ∧ s1 ≤ 4000 := by omega
     clear hs1
     go_wp2_with fail
     refine (int_any _ 60 _ Yt Yo Yo).mono ?_
     rintro e w7 ⟨v3, rfl, v30, v31, ht7, hg7⟩
     have K7 : GB b w w7 := GB.tap hg7 Yg
     have Z7 := K7.size
     clear HT; have T7 := ht7.lt; have HT := Yh ht7; clear ht7
     clear hg7 K6
     obtain ⟨s2, hs2⟩ : ∃ s2, s0 + v3 = s2 := ⟨_, rfl⟩
     have ws2 : IntKind.i64.wrap (s0 + v3) = s2 := by rw [IntWalk.i64_in _ Yo]; exact hs2
     have s2b : -10 ≤ s2 ∧ s2 ≤ 4000 := by omega
     clear hs2
     go_wp2_with fail
     refine (int_any _ 90 _ Yt Yo Yo).mono ?_
     rintro e w8 ⟨v4, rfl, v40, v41, ht8, hg8⟩
     have K8 : GB b w w8 := GB.tap hg8 Yg
     have Z8 := K8.size
     clear HT; have T8 := ht8.lt; have HT := Yh ht8; clear ht8
     clear hg8 K7
     obtain ⟨s3, hs3⟩ : ∃ s3, a2 + v4 = s3 := ⟨_, rfl⟩
     have ws3 : IntKind.i64.wrap (a2 + v4) = s3 := by rw [IntWalk.i64_in _ Yo]; exact hs3
     have s3b : -10 ≤ s3 ∧ s3 ≤ 4000 := by omega
     clear hs3
     go_wp2_with fail
     refine (int_any _ 40 _ Yt Yo Yo).mono ?_
     rintro e w9 ⟨v5, rfl, v50, v51, ht9, hg9⟩
     have K9 : GB b w w9 := GB.tap hg9 Yg
     have Z9 := K9.size
     clear HT; have T9 := ht9.lt; have HT := Yh ht9; clear ht9
     clear hg9 K8
     obtain ⟨l9, L9, hl9, hL9, nL9, RL⟩ := scr_line .sample #[115, 97, 109, 112, 108, 101] rfl [v1, a2, s1, s2, s3, v5] 6 rfl Yd (fun m hm => by simp only [List.mem_cons, List.mem_nil_iff, or_false] at hm; rcases hm with rfl | rfl | rfl | rfl | rfl | rfl; all_goals exact ⟨Yo, Yo⟩)
     have HSL := Yh hl9; have HL9 := Yh hL9; have HRL := Yh RL; clear hl9 hL9 RL
     go_wp2_with fail
     refine (HRL.out _ _ (NumsR.newE [v1, a2, s1, s2, s3, v5] (by first | rfl | (simp; done)))).mono ?_
     rintro e w10 ⟨rfl, hb10⟩
     have K10 : GB b w w10 := GB.call hb10 Yg
     have Z10 := K10.size
     have ht10 := TapeAt.below Yt hb10
     clear HT; have T10 := ht10.lt; have HT := Yh ht10; clear ht10
     clear hb10 K9
     go_wp2
     go_roundg rj
     case measure => omega
     case rel => exact ⟨q + 1, rj, a2, ls ++ [l9], Yo, rfl, by (try simp only [wj, wj2]), rfl, a20, a21, by rw [lns_one, HTX.out, HL9.out]; (first | rfl | (simp [ByteArray.mk_append_mk]; done)), by rw [lla, List.length_singleton]; omega, scL_snoc HSC.out HSL.out, Yt, Yg⟩
    ·skip
     go_wp2_with fail
     refine (int_any _ 3 _ Yt Yo Yo).mono ?_
     rintro e w5 ⟨v1, rfl, v10, v11, ht5, hg5⟩
     have K5 : GB b w w5 := GB.tap hg5 Yg
     have Z5 := K5.size
     clear HT; have T5 := ht5.lt; have HT := Yh ht5; clear ht5
     clear hg5 K4
     obtain ⟨s0, hs0⟩ : ∃ s0, a2 + 1000 = s0 := ⟨_, rfl⟩
     have ws0 : IntKind.i64.wrap (a2 + 1000) = s0 := by rw [IntWalk.i64_in _ Yo]; exact hs0
     have s0b : -10 ≤ s0 ∧ s0 ≤ 2000 := by omega
     clear hs0
     go_wp2_with fail
     refine (int_any _ 50 _ Yt Yo Yo).mono ?_
     rintro e w6 ⟨v2, rfl, v20, v21, ht6, hg6⟩
     have K6 : GB b w w6 := GB.tap hg6 Yg
     have Z6 := K6.size
     clear HT; have T6 := ht6.lt; have HT := Yh ht6; clear ht6
     clear hg6 K5
     obtain ⟨s1, hs1⟩ : ∃ s1, s0 + v2 = s1 := ⟨_, rfl⟩
     have ws1 : IntKind.i64.wrap (s0 + v2) = s1 := by rw [IntWalk.i64_in _ Yo]; exact hs1
     have s1b : -10 ≤ s1 ∧ s1 ≤ 4000 := by omega
     clear hs1
     go_wp2_with fail
     refine (int_any _ 60 _ Yt Yo Yo).mono ?_
     rintro e w7 ⟨v3, rfl, v30, v31, ht7, hg7⟩
     have K7 : GB b w w7 := GB.tap hg7 Yg
     have Z7 := K7.size
     clear HT; have T7 := ht7.lt; have HT := Yh ht7; clear ht7
     clear hg7 K6
     obtain ⟨s2, hs2⟩ : ∃ s2, s0 + v3 = s2 := ⟨_, rfl⟩
     have ws2 : IntKind.i64.wrap (s0 + v3) = s2 := by rw [IntWalk.i64_in _ Yo]; exact hs2
     have s2b : -10 ≤ s2 ∧ s2 ≤ 4000 := by omega
     clear hs2
     go_wp2_with fail
     refine (int_any _ 90 _ Yt Yo Yo).mono ?_
     rintro e w8 ⟨v4, rfl, v40, v41, ht8, hg8⟩
     have K8 : GB b w w8 := GB.tap hg8 Yg
     have Z8 := K8.size
     clear HT; have T8 := ht8.lt; have HT := Yh ht8; clear ht8
     clear hg8 K7
     obtain ⟨s3, hs3⟩ : ∃ s3, a2 + v4 = s3 := ⟨_, rfl⟩
     have ws3 : IntKind.i64.wrap (a2 + v4) = s3 := by rw [IntWalk.i64_in _ Yo]; exact hs3
     have s3b : -10 ≤ s3 ∧ s3 ≤ 4000 := by omega
     clear hs3
     go_wp2_with fail
     refine (int_any _ 40 _ Yt Yo Yo).mono ?_
     rintro e w9 ⟨v5, rfl, v50, v51, ht9, hg9⟩
     have K9 : GB b w w9 := GB.tap hg9 Yg
     have Z9 := K9.size
     clear HT; have T9 := ht9.lt; have HT := Yh ht9; clear ht9
     clear hg9 K8
     obtain ⟨l9, L9, hl9, hL9, nL9, RL⟩ := scr_line .sample #[115, 97, 109, 112, 108, 101] rfl [v1, a2, s1, s2, s3, v5] 6 rfl Yd (fun m hm => by simp only [List.mem_cons, List.mem_nil_iff, or_false] at hm; rcases hm with rfl | rfl | rfl | rfl | rfl | rfl; all_goals exact ⟨Yo, Yo⟩)
     have HSL := Yh hl9; have HL9 := Yh hL9; have HRL := Yh RL; clear hl9 hL9 RL
     go_wp2_with fail
     refine (HRL.out _ _ (NumsR.newE [v1, a2, s1, s2, s3, v5] (by first | rfl | (simp; done)))).mono ?_
     rintro e w10 ⟨rfl, hb10⟩
     have K10 : GB b w w10 := GB.call hb10 Yg
     have Z10 := K10.size
     have ht10 := TapeAt.below Yt hb10
     clear HT; have T10 := ht10.lt; have HT := Yh ht10; clear ht10
     clear hb10 K9
     go_wp2
     go_roundg rj
     case measure => omega
     case rel => exact ⟨q + 1, rj, a2, ls ++ [l9], Yo, rfl, by (try simp only [wj, wj2]), rfl, a20, a21, by rw [lns_one, HTX.out, HL9.out]; (first | rfl | (simp [ByteArray.mk_append_mk]; done)), by rw [lla, List.length_singleton]; omega, scL_snoc HSC.out HSL.out, Yt, Yg⟩
    ·skip
     go_wp2_with fail
     refine (int_any _ 3 _ Yt Yo Yo).mono ?_
     rintro e w5 ⟨v1, rfl, v10, v11, ht5, hg5⟩
     have K5 : GB b w w5 := GB.tap hg5 Yg
     have Z5 := K5.size
     clear HT; have T5 := ht5.lt; have HT := Yh ht5; clear ht5
     clear hg5 K4
     obtain ⟨s0, hs0⟩ : ∃ s0, a2 + 1000 = s0 := ⟨_, rfl⟩
     have ws0 : IntKind.i64.wrap (a2 + 1000) = s0 := by rw [IntWalk.i64_in _ Yo]; exact hs0
     have s0b : -10 ≤ s0 ∧ s0 ≤ 2000 := by omega
     clear hs0
     go_wp2_with fail
     refine (int_any _ 50 _ Yt Yo Yo).mono ?_
     rintro e w6 ⟨v2, rfl, v20, v21, ht6, hg6⟩
     have K6 : GB b w w6 := GB.tap hg6 Yg
     have Z6 := K6.size
     clear HT; have T6 := ht6.lt; have HT := Yh ht6; clear ht6
     clear hg6 K5
     obtain ⟨s1, hs1⟩ : ∃ s1, s0 + v2 = s1 := ⟨_, rfl⟩
     have ws1 : IntKind.i64.wrap (s0 + v2) = s1 := by rw [IntWalk.i64_in _ Yo]; exact hs1
     have s1b : -10 ≤ s1 ∧ s1 ≤ 4000 := by omega
     clear hs1
     go_wp2_with fail
     refine (int_any _ 60 _ Yt Yo Yo).mono ?_
     rintro e w7 ⟨v3, rfl, v30, v31, ht7, hg7⟩
     have K7 : GB b w w7 := GB.tap hg7 Yg
     have Z7 := K7.size
     clear HT; have T7 := ht7.lt; have HT := Yh ht7; clear ht7
     clear hg7 K6
     obtain ⟨s2, hs2⟩ : ∃ s2, s0 + v3 = s2 := ⟨_, rfl⟩
     have ws2 : IntKind.i64.wrap (s0 + v3) = s2 := by rw [IntWalk.i64_in _ Yo]; exact hs2
     have s2b : -10 ≤ s2 ∧ s2 ≤ 4000 := by omega
     clear hs2
     go_wp2_with fail
     refine (int_any _ 90 _ Yt Yo Yo).mono ?_
     rintro e w8 ⟨v4, rfl, v40, v41, ht8, hg8⟩
     have K8 : GB b w w8 := GB.tap hg8 Yg
     have Z8 := K8.size
     clear HT; have T8 := ht8.lt; have HT := Yh ht8; clear ht8
     clear hg8 K7
     obtain ⟨s3, hs3⟩ : ∃ s3, a2 + v4 = s3 := ⟨_, rfl⟩
     have ws3 : IntKind.i64.wrap (a2 + v4) = s3 := by rw [IntWalk.i64_in _ Yo]; exact hs3
     have s3b : -10 ≤ s3 ∧ s3 ≤ 4000 := by omega
     clear hs3
     go_wp2_with fail
     refine (int_any _ 40 _ Yt Yo Yo).mono ?_
     rintro e w9 ⟨v5, rfl, v50, v51, ht9, hg9⟩
     have K9 : GB b w w9 := GB.tap hg9 Yg
     have Z9 := K9.size
     clear HT; have T9 := ht9.lt; have HT := Yh ht9; clear ht9
     clear hg9 K8
     obtain ⟨l9, L9, hl9, hL9, nL9, RL⟩ := scr_line .sample #[115, 97, 109, 112, 108, 101] rfl [v1, a2, s1, s2, s3, v5] 6 rfl Yd (fun m hm => by simp only [List.mem_cons, List.mem_nil_iff, or_false] at hm; rcases hm with rfl | rfl | rfl | rfl | rfl | rfl; all_goals exact ⟨Yo, Yo⟩)
     have HSL := Yh hl9; have HL9 := Yh hL9; have HRL := Yh RL; clear hl9 hL9 RL
     go_wp2_with fail
     refine (HRL.out _ _ (NumsR.newE [v1, a2, s1, s2, s3, v5] (by first | rfl | (simp; done)))).mono ?_
     rintro e w10 ⟨rfl, hb10⟩
     have K10 : GB b w w10 := GB.call hb10 Yg
     have Z10 := K10.size
     have ht10 := TapeAt.below Yt hb10
     clear HT; have T10 := ht10.lt; have HT := Yh ht10; clear ht10
     clear hb10 K9
     go_wp2
     go_roundg rj
     case measure => omega
     case rel => exact ⟨q + 1, rj, a2, ls ++ [l9], Yo, rfl, by (try simp only [wj, wj2]), rfl, a20, a21, by rw [lns_one, HTX.out, HL9.out]; (first | rfl | (simp [ByteArray.mk_append_mk]; done)), by rw [lla, List.length_singleton]; omega, scL_snoc HSC.out HSL.out, Yt, Yg⟩
    ·skip
     go_wp2_with fail
     refine (int_any _ 100 _ Yt Yo Yo).mono ?_
     rintro e w5 ⟨v1, rfl, v10, v11, ht5, hg5⟩
     have K5 : GB b w w5 := GB.tap hg5 Yg
     have Z5 := K5.size
     clear HT; have T5 := ht5.lt; have HT := Yh ht5; clear ht5
     clear hg5 K4
     obtain ⟨s1, hs1⟩ : ∃ s1, a2 + v1 = s1 := ⟨_, rfl⟩
     have ws1 : IntKind.i64.wrap (a2 + v1) = s1 := by rw [IntWalk.i64_in _ Yo]; exact hs1
     have s1b : -10 ≤ s1 ∧ s1 ≤ 4000 := by omega
     clear hs1
     obtain ⟨l9, L9, hl9, hL9, nL9, RL⟩ := scr_line .now #[110, 111, 119] rfl [s1] 1 rfl Yd (fun m hm => by simp only [List.mem_cons, List.mem_nil_iff, or_false] at hm; rcases hm with rfl; all_goals exact ⟨Yo, Yo⟩)
     have HSL := Yh hl9; have HL9 := Yh hL9; have HRL := Yh RL; clear hl9 hL9 RL
     go_wp2_with fail
     refine (HRL.out _ _ (NumsR.newE [s1] (by first | rfl | (simp; done)))).mono ?_
     rintro e w6 ⟨rfl, hb6⟩
     have K6 : GB b w w6 := GB.call hb6 Yg
     have Z6 := K6.size
     have ht6 := TapeAt.below Yt hb6
     clear HT; have T6 := ht6.lt; have HT := Yh ht6; clear ht6
     clear hb6 K5
     go_wp2
     go_roundg rj
     case measure => omega
     case rel => exact ⟨q + 1, rj, a2, ls ++ [l9], Yo, rfl, by (try simp only [wj, wj2]), rfl, a20, a21, by rw [lns_one, HTX.out, HL9.out]; (first | rfl | (simp [ByteArray.mk_append_mk]; done)), by rw [lla, List.length_singleton]; omega, scL_snoc HSC.out HSL.out, Yt, Yg⟩
    ·skip
     go_wp2_with fail
     refine (int_any _ 1100 _ Yt Yo Yo).mono ?_
     rintro e w5 ⟨v1, rfl, v10, v11, ht5, hg5⟩
     have K5 : GB b w w5 := GB.tap hg5 Yg
     have Z5 := K5.size
     clear HT; have T5 := ht5.lt; have HT := Yh ht5; clear ht5
     clear hg5 K4
     go_wp2_with fail
     refine (int_any _ 100 _ Yt Yo Yo).mono ?_
     rintro e w6 ⟨v2, rfl, v20, v21, ht6, hg6⟩
     have K6 : GB b w w6 := GB.tap hg6 Yg
     have Z6 := K6.size
     clear HT; have T6 := ht6.lt; have HT := Yh ht6; clear ht6
     clear hg6 K5
     obtain ⟨s1, hs1⟩ : ∃ s1, a2 + v2 = s1 := ⟨_, rfl⟩
     have ws1 : IntKind.i64.wrap (a2 + v2) = s1 := by rw [IntWalk.i64_in _ Yo]; exact hs1
     have s1b : -10 ≤ s1 ∧ s1 ≤ 4000 := by omega
     clear hs1
     obtain ⟨l9, L9, hl9, hL9, nL9, RL⟩ := scr_line .read #[114, 101, 97, 100] rfl [v1, s1] 2 rfl Yd (fun m hm => by simp only [List.mem_cons, List.mem_nil_iff, or_false] at hm; rcases hm with rfl | rfl; all_goals exact ⟨Yo, Yo⟩)
     have HSL := Yh hl9; have HL9 := Yh hL9; have HRL := Yh RL; clear hl9 hL9 RL
     go_wp2_with fail
     refine (HRL.out _ _ (NumsR.newE [v1, s1] (by first | rfl | (simp; done)))).mono ?_
     rintro e w7 ⟨rfl, hb7⟩
     have K7 : GB b w w7 := GB.call hb7 Yg
     have Z7 := K7.size
     have ht7 := TapeAt.below Yt hb7
     clear HT; have T7 := ht7.lt; have HT := Yh ht7; clear ht7
     clear hb7 K6
     go_wp2
     go_roundg rj
     case measure => omega
     case rel => exact ⟨q + 1, rj, a2, ls ++ [l9], Yo, rfl, by (try simp only [wj, wj2]), rfl, a20, a21, by rw [lns_one, HTX.out, HL9.out]; (first | rfl | (simp [ByteArray.mk_append_mk]; done)), by rw [lla, List.length_singleton]; omega, scL_snoc HSC.out HSL.out, Yt, Yg⟩
    ·skip
     go_wp2_with fail
     refine (int_any _ 9 _ Yt Yo Yo).mono ?_
     rintro e w5 ⟨v1, rfl, v10, v11, ht5, hg5⟩
     have K5 : GB b w w5 := GB.tap hg5 Yg
     have Z5 := K5.size
     clear HT; have T5 := ht5.lt; have HT := Yh ht5; clear ht5
     clear hg5 K4
     go_wp2_with fail
     refine (int_any _ 50 _ Yt Yo Yo).mono ?_
     rintro e w6 ⟨v2, rfl, v20, v21, ht6, hg6⟩
     have K6 : GB b w w6 := GB.tap hg6 Yg
     have Z6 := K6.size
     clear HT; have T6 := ht6.lt; have HT := Yh ht6; clear ht6
     clear hg6 K5
     obtain ⟨s1, hs1⟩ : ∃ s1, v2 - 5 = s1 := ⟨_, rfl⟩
     have ws1 : IntKind.i64.wrap (v2 - 5) = s1 := by rw [IntWalk.i64_in _ Yo]; exact hs1
     have s1b : -10 ≤ s1 ∧ s1 ≤ 4000 := by omega
     clear hs1
     go_wp2_with fail
     refine (int_any _ 90 _ Yt Yo Yo).mono ?_
     rintro e w7 ⟨v3, rfl, v30, v31, ht7, hg7⟩
     have K7 : GB b w w7 := GB.tap hg7 Yg
     have Z7 := K7.size
     clear HT; have T7 := ht7.lt; have HT := Yh ht7; clear ht7
     clear hg7 K6
     obtain ⟨l9, L9, hl9, hL9, nL9, RL⟩ := scr_line .save #[115, 97, 118, 101] rfl [v1, s1, v3] 3 rfl Yd (fun m hm => by simp only [List.mem_cons, List.mem_nil_iff, or_false] at hm; rcases hm with rfl | rfl | rfl; all_goals exact ⟨Yo, Yo⟩)
     have HSL := Yh hl9; have HL9 := Yh hL9; have HRL := Yh RL; clear hl9 hL9 RL
     go_wp2_with fail
     refine (HRL.out _ _ (NumsR.newE [v1, s1, v3] (by first | rfl | (simp; done)))).mono ?_
     rintro e w8 ⟨rfl, hb8⟩
     have K8 : GB b w w8 := GB.call hb8 Yg
     have Z8 := K8.size
     have ht8 := TapeAt.below Yt hb8
     clear HT; have T8 := ht8.lt; have HT := Yh ht8; clear ht8
     clear hb8 K7
     go_wp2
     go_roundg rj
     case measure => omega
     case rel => exact ⟨q + 1, rj, a2, ls ++ [l9], Yo, rfl, by (try simp only [wj, wj2]), rfl, a20, a21, by rw [lns_one, HTX.out, HL9.out]; (first | rfl | (simp [ByteArray.mk_append_mk]; done)), by rw [lla, List.length_singleton]; omega, scL_snoc HSC.out HSL.out, Yt, Yg⟩
    ·skip
     go_wp2_with fail
     refine (range_any _ (-3000000) 3000000 _ Yt Yo Yo Yo).mono ?_
     rintro e w5 ⟨v1, rfl, v10, v11, ht5, hg5⟩
     have K5 : GB b w w5 := GB.tap hg5 Yg
     have Z5 := K5.size
     clear HT; have T5 := ht5.lt; have HT := Yh ht5; clear ht5
     clear hg5 K4
     obtain ⟨l9, L9, hl9, hL9, nL9, RL⟩ := scr_line .utc #[117, 116, 99] rfl [v1] 1 rfl Yd (fun m hm => by simp only [List.mem_cons, List.mem_nil_iff, or_false] at hm; rcases hm with rfl; all_goals exact ⟨Yo, Yo⟩)
     have HSL := Yh hl9; have HL9 := Yh hL9; have HRL := Yh RL; clear hl9 hL9 RL
     go_wp2_with fail
     refine (HRL.out _ _ (NumsR.newE [v1] (by first | rfl | (simp; done)))).mono ?_
     rintro e w6 ⟨rfl, hb6⟩
     have K6 : GB b w w6 := GB.call hb6 Yg
     have Z6 := K6.size
     have ht6 := TapeAt.below Yt hb6
     clear HT; have T6 := ht6.lt; have HT := Yh ht6; clear ht6
     clear hb6 K5
     go_wp2
     go_roundg rj
     case measure => omega
     case rel => exact ⟨q + 1, rj, a2, ls ++ [l9], Yo, rfl, by (try simp only [wj, wj2]), rfl, a20, a21, by rw [lns_one, HTX.out, HL9.out]; (first | rfl | (simp [ByteArray.mk_append_mk]; done)), by rw [lla, List.length_singleton]; omega, scL_snoc HSC.out HSL.out, Yt, Yg⟩
    ·skip
     go_wp2_with fail
     refine (int_any _ 9 _ Yt Yo Yo).mono ?_
     rintro e w5 ⟨v1, rfl, v10, v11, ht5, hg5⟩
     have K5 : GB b w w5 := GB.tap hg5 Yg
     have Z5 := K5.size
     have b5_0 := Blk.keepG (g := w4.heap.size) hg5 bn0 Y6
     (try simp only [lst, ls0, ls1] at b5_0)
     clear HT; have T5 := ht5.lt; have HT := Yh ht5; clear ht5
     clear hg5 K4
     obtain ⟨c5_0, f5_0, l5_0, e5_0, k5_0⟩ := Yf b5_0
     have o5_0 := l5_0
     have h9 : v1 = 0 ∨ v1 = 1 ∨ v1 = 2 ∨ v1 = 3 ∨ v1 = 4 ∨ v1 = 5 ∨ v1 = 6 ∨ v1 = 7 ∨ v1 = 8 := by omega
     clear v10 v11
     rcases h9 with rfl | rfl | rfl | rfl | rfl | rfl | rfl | rfl | rfl
     ·skip
      have HSL := Yh (odd_ok (oddL.getD 0 []) Yd)
      go_wp2
      go_roundg rj
      case measure => omega
      case rel => exact ⟨q + 1, rj, a2, ls ++ [oddL.getD 0 []], Yo, rfl, by (try simp only [wj, wj2]), rfl, a20, a21, by rw [lns_one, HTX.out]; (first | rfl | (simp [ByteArray.mk_append_mk, oddL]; done)), by rw [lla, List.length_singleton]; omega, scL_snoc HSC.out HSL.out, Yt, Yg⟩
     ·skip
      have HSL := Yh (odd_ok (oddL.getD 1 []) Yd)
      go_wp2
      go_roundg rj
      case measure => omega
      case rel => exact ⟨q + 1, rj, a2, ls ++ [oddL.getD 1 []], Yo, rfl, by (try simp only [wj, wj2]), rfl, a20, a21, by rw [lns_one, HTX.out]; (first | rfl | (simp [ByteArray.mk_append_mk, oddL]; done)), by rw [lla, List.length_singleton]; omega, scL_snoc HSC.out HSL.out, Yt, Yg⟩
     ·skip
      have HSL := Yh (odd_ok (oddL.getD 2 []) Yd)
      go_wp2
      go_roundg rj
      case measure => omega
      case rel => exact ⟨q + 1, rj, a2, ls ++ [oddL.getD 2 []], Yo, rfl, by (try simp only [wj, wj2]), rfl, a20, a21, by rw [lns_one, HTX.out]; (first | rfl | (simp [ByteArray.mk_append_mk, oddL]; done)), by rw [lla, List.length_singleton]; omega, scL_snoc HSC.out HSL.out, Yt, Yg⟩
     ·skip
      have HSL := Yh (odd_ok (oddL.getD 3 []) Yd)
      go_wp2
      go_roundg rj
      case measure => omega
      case rel => exact ⟨q + 1, rj, a2, ls ++ [oddL.getD 3 []], Yo, rfl, by (try simp only [wj, wj2]), rfl, a20, a21, by rw [lns_one, HTX.out]; (first | rfl | (simp [ByteArray.mk_append_mk, oddL]; done)), by rw [lla, List.length_singleton]; omega, scL_snoc HSC.out HSL.out, Yt, Yg⟩
     ·skip
      have HSL := Yh (odd_ok (oddL.getD 4 []) Yd)
      go_wp2
      go_roundg rj
      case measure => omega
      case rel => exact ⟨q + 1, rj, a2, ls ++ [oddL.getD 4 []], Yo, rfl, by (try simp only [wj, wj2]), rfl, a20, a21, by rw [lns_one, HTX.out]; (first | rfl | (simp [ByteArray.mk_append_mk, oddL]; done)), by rw [lla, List.length_singleton]; omega, scL_snoc HSC.out HSL.out, Yt, Yg⟩
     ·skip
      have HSL := Yh (odd_ok (oddL.getD 5 []) Yd)
      go_wp2
      go_roundg rj
      case measure => omega
      case rel => exact ⟨q + 1, rj, a2, ls ++ [oddL.getD 5 []], Yo, rfl, by (try simp only [wj, wj2]), rfl, a20, a21, by rw [lns_one, HTX.out]; (first | rfl | (simp [ByteArray.mk_append_mk, oddL]; done)), by rw [lla, List.length_singleton]; omega, scL_snoc HSC.out HSL.out, Yt, Yg⟩
     ·skip
      have HSL := Yh (odd_ok (oddL.getD 6 []) Yd)
      go_wp2
      go_roundg rj
      case measure => omega
      case rel => exact ⟨q + 1, rj, a2, ls ++ [oddL.getD 6 []], Yo, rfl, by (try simp only [wj, wj2]), rfl, a20, a21, by rw [lns_one, HTX.out]; (first | rfl | (simp [ByteArray.mk_append_mk, oddL]; done)), by rw [lla, List.length_singleton]; omega, scL_snoc HSC.out HSL.out, Yt, Yg⟩
     ·skip
      have HSL := Yh (odd_ok (oddL.getD 7 []) Yd)
      go_wp2
      go_roundg rj
      case measure => omega
      case rel => exact ⟨q + 1, rj, a2, ls ++ [oddL.getD 7 []], Yo, rfl, by (try simp only [wj, wj2]), rfl, a20, a21, by rw [lns_one, HTX.out]; (first | rfl | (simp [ByteArray.mk_append_mk, oddL]; done)), by rw [lla, List.length_singleton]; omega, scL_snoc HSC.out HSL.out, Yt, Yg⟩
     ·skip
      have HSL := Yh (odd_ok (oddL.getD 8 []) Yd)
      go_wp2
      go_roundg rj
      case measure => omega
      case rel => exact ⟨q + 1, rj, a2, ls ++ [oddL.getD 8 []], Yo, rfl, by (try simp only [wj, wj2]), rfl, a20, a21, by rw [lns_one, HTX.out]; (first | rfl | (simp [ByteArray.mk_append_mk, oddL]; done)), by rw [lla, List.length_singleton]; omega, scL_snoc HSC.out HSL.out, Yt, Yg⟩
   ·obtain rfl : r = 0 := by omega
    have gq : decide ((0 : Int) < ((0 : Nat) : Int)) = false := by decide
    go_wp2
    go_ret
    exact ⟨ls, (by rw [HTX.out]; rfl), Yo, HSC.out, Yt, Yg⟩
end Go.Proofs.YtiinmhfolfgobaaGreatDoor
