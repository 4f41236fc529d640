/- The reference's hash of a short message. -/
import Derived.Test.YtlnboheahbfgfaaSha2
import Derived.Test.YtlnboheahbfgfaaSha4
import Derived.Test.YtlnboheahbfgfaaOct3
import Derived.Test.YtlnboheahbfgfaaKitG
import Derived.Test.YtlnboheahbfgfaaSha3
namespace Go.Proofs.Ytlnboheahbfgfaa
open Go.RowKit
set_option linter.unusedSimpArgs false
set_option linter.unusedVariables false

def InB (bs : List Int) : Prop := ∀ x ∈ bs, 0 ≤ x ∧ x < 256
/-- The words' bytes. -/
def outQ (s : St8) : Nat → List Int
  | 0 => []
  | q + 1 => outQ s q ++ putB (s.at8 q) 4
/-- A short message with what is laid behind it. -/
def padQ (bs : List Int) (q : Nat) : List Int := bs ++ [128] ++ List.replicate q 0
def padS (bs : List Int) : List Int := padQ bs (55 - bs.length) ++ putB (8 * bs.length) 8
def shaS (bs : List Int) : List Int := outQ (blkS kS (padS bs) firstS) 8
theorem outQ_len (s : St8) : ∀ q, (outQ s q).length = 4 * q
  | 0 => rfl
  | q + 1 => by rw [outQ, List.length_append, outQ_len s q, putB_length]; omega
theorem putB_in (v : Int) (n : Nat) : InB (putB v n) := fun x hx => by
  simp only [putB, List.mem_map] at hx
  obtain ⟨i, -, rfl⟩ := hx
  omega
theorem InB.app {a b : List Int} (ha : InB a) (hb : InB b) : InB (a ++ b) := fun x hx => by
  rcases List.mem_append.1 hx with h | h
  · exact ha x h
  · exact hb x h
theorem outQ_in (s : St8) : ∀ q, InB (outQ s q)
  | 0 => fun x hx => by simp [outQ] at hx
  | q + 1 => by rw [outQ]; exact (outQ_in s q).app (putB_in _ _)
theorem padQ_len (bs : List Int) (q : Nat) : (padQ bs q).length = bs.length + 1 + q := by simp [padQ]; omega
theorem padQ_succ (bs : List Int) (q : Nat) : padQ bs (q + 1) = padQ bs q ++ [0] := by
  unfold padQ; rw [List.replicate_succ', List.append_assoc _ _ [0]]
theorem padQ_in {bs : List Int} (h : InB bs) (q : Nat) : InB (padQ bs q) := by
  unfold padQ
  refine (h.app fun x hx => ?_).app fun x hx => ?_
  · rw [List.mem_singleton.1 hx]; decide
  · rw [(List.mem_replicate.1 hx).2]; decide
theorem padS_len (bs : List Int) (h : bs.length ≤ 55) : (padS bs).length = 64 := by rw [padS, List.length_append, padQ_len, putB_length]; omega
theorem padS_in {bs : List Int} (h : InB bs) : InB (padS bs) := (padQ_in h _).app (putB_in _ _)
theorem blkS_ok (ks bs : List Int) (s : St8) : (blkS ks bs s).ok := addS_ok _ _
theorem at8_in {s : St8} (h : s.ok) (q : Nat) : 0 ≤ s.at8 q ∧ s.at8 q < 4294967296 := h.get q
theorem Wd8.get {w : World} {g off : Nat} {s : St8} (h : Wd8 w g off s) (q : Nat) (hq : q < 8) : w.cell? ⟨g, off + q, none⟩ = some (.int .u32 (s.at8 q)) := by
  obtain ⟨h0, a1, a2, a3, a4, a5, a6, a7, a8⟩ := h
  rcases lt8 hq with rfl | rfl | rfl | rfl | rfl | rfl | rfl | rfl
  · exact a1
  · exact a2
  · exact a3
  · exact a4
  · exact a5
  · exact a6
  · exact a7
  · exact a8
theorem ByRow.cap {w : World} {base n c : Nat} {a : Addr} {bs : List Int} (h : ByRow w base (.slice (some a) n c) bs) : bs.length ≤ c := by
  rcases h.2 with ⟨h, _⟩ | ⟨g, cap, cur, h, _, _, h3, _⟩
  · cases h
  · injection h with _ _ h; omega
def FinR (w : World) (bs : List Int) (e : Ending) (w' : World) : Prop := ∃ g cap, e = .returned (.slice (some ⟨g, 0, none⟩) 32 cap) ∧ 32 ≤ cap ∧ w.heap.size ≤ g ∧ g < w'.heap.size ∧ ByAt w' g bs ∧ Below w.heap.size w w'
theorem parts1 {w : World} {g h o c n : Nat} {T : TypeId} {bs : List Int} (hB : Blk w g T #[.slice (some ⟨h, o, none⟩) n c]) (hn : bs.length = n) (hs : BySl w h o bs) : PartsAt w (some ⟨g, 0, none⟩) [bs] := by
  subst hn
  refine ⟨g, 0, rfl, hB.lt, fun j hj => ?_⟩
  obtain rfl : j = 0 := by simp at hj; omega
  exact ⟨h, o, c, hB.cell 0, hs⟩
theorem parts2 {w : World} {g h o c n h2 o2 c2 n2 : Nat} {T : TypeId} {bs b2 : List Int} (hB : Blk w g T #[.slice (some ⟨h, o, none⟩) n c, .slice (some ⟨h2, o2, none⟩) n2 c2]) (hn : bs.length = n) (hs : BySl w h o bs) (hn2 : b2.length = n2) (hs2 : BySl w h2 o2 b2) : PartsAt w (some ⟨g, 0, none⟩) [bs, b2] := by
  subst hn hn2
  refine ⟨g, 0, rfl, hB.lt, fun j hj => ?_⟩
  obtain rfl | rfl : j = 0 ∨ j = 1 := by simp at hj; omega
  · exact ⟨h, o, c, hB.cell 0, hs⟩
  · exact ⟨h2, o2, c2, hB.cell 1, hs2⟩
theorem parts3 {w : World} {g h o c n h2 o2 c2 n2 h3 o3 c3 n3 : Nat} {T : TypeId} {bs b2 b3 : List Int} (hB : Blk w g T #[.slice (some ⟨h, o, none⟩) n c, .slice (some ⟨h2, o2, none⟩) n2 c2, .slice (some ⟨h3, o3, none⟩) n3 c3]) (hn : bs.length = n) (hs : BySl w h o bs) (hn2 : b2.length = n2) (hs2 : BySl w h2 o2 b2) (hn3 : b3.length = n3) (hs3 : BySl w h3 o3 b3) : PartsAt w (some ⟨g, 0, none⟩) [bs, b2, b3] := by
  subst hn hn2 hn3
  refine ⟨g, 0, rfl, hB.lt, fun j hj => ?_⟩
  obtain rfl | rfl | rfl : j = 0 ∨ j = 1 ∨ j = 2 := by simp at hj; omega
  · exact ⟨h, o, c, hB.cell 0, hs⟩
  · exact ⟨h2, o2, c2, hB.cell 1, hs2⟩
  · exact ⟨h3, o3, c3, hB.cell 2, hs3⟩
theorem news_blk {w : World} {g : Nat} {T : TypeId} {bs : List Int} (hB : Blk w g T (bcells bs).toArray) : ∀ j u, (bcells bs)[j]? = some u → w.cell? ((⟨g, 0, none⟩ : Addr).add j) = some u := by
  intro j u hj
  rw [show (⟨g, 0, none⟩ : Addr).add j = ⟨g, j, none⟩ from by (simp [Addr.add] <;> omega), hB.cell]
  simpa using hj
def PdRel (w : World) (n : Nat) (bs : List Int) (G : Nat) (v : Value) (wr : World) : Prop := ∃ (q L : Nat) (g c : Nat), q ≤ 55 - n ∧ G = 55 - n - q ∧ v = .slice (some ⟨g, 0, none⟩) L c ∧ L = n + 1 + q ∧ w.heap.size ≤ g ∧ ByRow wr w.heap.size v (padQ bs q) ∧ Below w.heap.size w wr
def BkRel (w : World) (s s1 : St8) (G : Nat) (v i : Value) (wr : World) : Prop := ∃ (q g o c : Nat) (s2 : St8), q ≤ 1 ∧ G = 1 - q ∧ i = .int .i64 ((64 * q : Nat) : Int) ∧ v = .slice (some ⟨g, o, none⟩) 8 c ∧ Wd8 wr g o s2 ∧ s2 = (if q = 0 then s else s1) ∧ Below w.heap.size w wr
def OtRel (w : World) (s : St8) (G : Nat) (v i : Value) (wr : World) : Prop := ∃ q : Nat, q ≤ 8 ∧ G = 8 - q ∧ i = .int .i64 q ∧ ByRow wr w.heap.size v (outQ s q) ∧ (∃ A n c, v = .slice A n c) ∧ Below w.heap.size w wr
set_option maxRecDepth 100000 in
set_option maxHeartbeats 4000000 in
theorem rfinish_any (gh oh ch gb ob cb n : Nat) (s : St8) (bs : List Int) (hs : s.ok) (hn : bs.length = n) (n0 : 0 < n) (n1 : n ≤ 55) (hb : InB bs) (w : World) (h : Wd8 w gh oh s) (b : BySl w gb ob bs) :
    Calls Try.prog 29 #[.slice (some ⟨gh, oh, none⟩) 8 ch, .slice (some ⟨gb, ob, none⟩) n cb, .int .i64 n] w (FinR w (outQ (blkS kS (padS bs) s) 8)) := by
  have HH := Lib.hid h; have HB := Lib.hid b; clear h b
  obtain ⟨i0, hif, hz0, hz1, hz2⟩ := info_parts infoU8
  obtain ⟨S1, hS1⟩ : ∃ S1, blkS kS (padS bs) s = S1 := ⟨_, rfl⟩
  have h1ok : S1.ok := hS1 ▸ blkS_ok _ _ _
  rw [hS1]
  have HS1 := Lib.hid (show ∃ f, f = blkS ∧ f kS (padS bs) s = S1 from ⟨_, rfl, hS1⟩); clear hS1
  obtain ⟨R, hR⟩ : ∃ R, outQ S1 8 = R := ⟨_, rfl⟩
  rw [hR]
  have HRR := Lib.hid (show ∃ k, k = 8 ∧ outQ S1 k = R from ⟨_, rfl, hR⟩); clear hR
  have HN := Lib.hid hn; have HIB := Lib.hid hb; have HSO := Lib.hid hs; have H1O := Lib.hid h1ok; clear hn hb hs h1ok
  go_enter Try.func29, Try.ntmps29
  go_wp2_with fail
  refine (rconst_any _).mono ?_
  rintro e w1 ⟨gk, rfl, hgk, hks, hb1⟩
  have Z1 := hb1.size
  have HKS := Lib.hid hks.sl
  have lk := hks.sl.1
  have HHs := Lib.hid (HH.out.below hb1); have HBs := Lib.hid (HB.out.below hb1); have K1 := Lib.hid (show Kp w w1 from hb1)
  clear HH HB hks hb1
  go_wp2_with fail
  refine (rjoin_any _ 1 1 [bs] rfl (by simp [HN.out]; omega) (by simp) bs (by simp) (by rw [HN.out]; omega) (by simp) _ (parts1 (Blk.new _ _ _) HN.out (HBs.out.below ((Below.refl _ _).alloc (Nat.le_refl _) _)))).mono ?_
  rintro e w2 ⟨g2, c2, rfl, hg2, hl2, hrow, hb2⟩
  rw [HN.out]
  have KA : Below w1.heap.size w1 w2 := kept_call hb2 ((Below.refl _ _).alloc (Nat.le_refl _) _)
  have Z2 := KA.size
  have hrow2 : ByRow w2 w1.heap.size (.slice (some ⟨g2, 0, none⟩) n c2) bs := by
    rw [← HN.out]; exact hrow.mono (by simp)
  have hg2' : w1.heap.size ≤ g2 := by simp at hg2; omega
  have HR2 := Lib.hid hrow2; have K2 := Lib.hid KA
  clear KA hb2 hrow hrow2 hg2
  go_wp2_with (at_builtin; refine wpList_append_lies _ rfl _ _ 22 rfl w1.heap.size 5 i0 (.int .u8 0) 1 1 Try.underlying22 hif hz0 hz1 hz2 rfl (by decide) (.slice (some ⟨g2, 0, none⟩) n c2) n (bcells bs) rfl (HN.out ▸ (HR2.out.below ((Below.refl _ _).alloc (Nat.le_refl _) _))) ⟨w2.heap.size, 0, none⟩ 1 1 (bcells [128]) rfl rfl (news_blk (Blk.new _ _ _)) (one_bytes _) ?c2 ?c3 ?c4 ?c5 _ rfl ?_)
  case c2 => omega
  case c3 => unfold maxLen; omega
  case c4 => omega
  case c5 => first | omega | (simp; omega)
  intro g3 c3 w3 hown hgrow hlie hglt
  have K3 : Below w1.heap.size w1 w3 := ((K2.out.alloc (by omega) _).grown hgrow (by simp; omega) (fun k hk => by have h : g2 = k := (by simpa [Value.ownBlock] using hk); omega))
  have hrow3 : ByRow w3 w1.heap.size (.slice (some ⟨g3, 0, none⟩) (n + 1) c3) (padQ bs 0) := by
    unfold ByRow
    rw [padQ_len, HN.out, show padQ bs 0 = bs ++ [128] from by simp [padQ], bcells_app]; exact hown
  have hg3 := (hrow3.own g3 rfl).1
  have HR3 := Lib.hid hrow3; have HK3 := Lib.hid K3; have Z3 := K3.size
  clear hown hgrow hlie hglt hrow3 K3 K2 HR2 hl2 Z2 hg2'
  go_wp2
  go_loopg [8] (55 - n) (fun G v wr => PdRel w1 n bs G v wr)
  case atStart => exact ⟨0, n + 1, g3, c3, by omega, by omega, rfl, by omega, hg3, HR3.out, HK3.out⟩
  case round =>
    obtain ⟨q, L, g4, c4, hq, rfl, rfl, hL, hg4, hrow, KR⟩ := hrel
    have ZR := KR.size
    have HROW := Lib.hid hrow; have HKR := Lib.hid KR
    clear HR3 HK3 Z3 hg3 hrow KR
    have tm : Int.tmod (L : Int) 64 = (L : Int) := Int.tmod_eq_of_lt (by omega) (by omega)
    by_cases hlt : q < 55 - n
    · have gq : decide ((L : Int) = 56) = false := decide_eq_false (by omega)
      have gq2 : ((L : Int) == 56) = false := by rw [beq_eq_false_iff_ne]; omega
      have gq3 : decide (L = 56) = false := decide_eq_false (by omega)
      have gq4 : ¬ ((L : Int) = 56) := by omega
      have HL := Lib.hid hL; clear hL
      go_wp2_with (at_builtin; refine wpList_append_lies _ rfl _ _ 22 rfl w1.heap.size 5 i0 (.int .u8 0) 1 1 Try.underlying22 hif hz0 hz1 hz2 rfl (by decide) (.slice (some ⟨g4, 0, none⟩) L c4) L (bcells (padQ bs q)) rfl ((show L = (padQ bs q).length by rw [padQ_len, HN.out]; exact HL.out) ▸ (HROW.out.below ((Below.refl _ _).alloc (Nat.le_refl _) _))) ⟨wr.heap.size, 0, none⟩ 1 1 (bcells [0]) rfl rfl (news_blk (Blk.new _ _ _)) (one_bytes _) ?c2 ?c3 ?c4 ?c5 _ rfl ?_)
      case c2 => omega
      case c3 => have := HL.out; unfold maxLen; omega
      case c4 => have := HL.out; omega
      case c5 => first | omega | (simp; omega)
      intro g5 c5 w5 hown hgrow hlie hglt
      have K5 : Below w1.heap.size w1 w5 := ((HKR.out.alloc (by omega) _).grown hgrow (by simp; omega) (fun k hk => by have h : g4 = k := (by simpa [Value.ownBlock] using hk); omega))
      have hrow5 : ByRow w5 w1.heap.size (.slice (some ⟨g5, 0, none⟩) (L + 1) c5) (padQ bs (q + 1)) := by
        unfold ByRow
        rw [padQ_len, HN.out, show n + 1 + (q + 1) = L + 1 from by have := HL.out; omega, padQ_succ, bcells_app]; exact hown
      have hg5 := (hrow5.own g5 rfl).1
      have R5 := Lib.hid hrow5
      clear hown hgrow hlie hglt hrow5 gq4
      go_wp2
      go_roundg (55 - n - (q + 1))
      case measure => omega
      case rel => exact ⟨q + 1, L + 1, g5, c5, by omega, by omega, rfl, by have := HL.out; omega, hg5, R5.out, K5⟩
    · obtain rfl : q = 55 - n := by omega
      obtain rfl : L = 56 := by omega
      have tm2 : Int.tmod 56 64 = 56 := by decide
      clear tm hL
      have wu : IntKind.u64.wrap (n : Int) = (n : Int) := by simp [IntKind.wrap, IntKind.bits, IntKind.signed]; omega
      obtain ⟨m8, hm8⟩ : ∃ m : Int, 8 * (n : Int) = m := ⟨_, rfl⟩
      have wm : IntKind.u64.wrap ((n : Int) * 8) = m8 := by simp [IntKind.wrap, IntKind.bits, IntKind.signed]; omega
      have m80 : 0 ≤ m8 := by omega
      have m81 : m8 < 1000 := by omega
      have HM8 := Lib.hid hm8; clear hm8
      go_wp2_with fail
      refine (rput_any m8 8 (by omega) (by omega) (by decide) (by decide) _).mono ?_
      rintro e w4 ⟨g5, rfl, hg5, hl5, hby, hb4⟩
      have K4 := kept_call hb4 HKR.out
      have HR4 := Lib.hid (HROW.out.below hb4); have HK4 := Lib.hid K4; have HBY := Lib.hid hby.sl; have Z4 := hb4.size
      clear HROW HKR K4 hby hb4
      go_wp2_with (at_builtin; refine wpList_append_lies _ rfl _ _ 22 rfl w1.heap.size 5 i0 (.int .u8 0) 1 1 Try.underlying22 hif hz0 hz1 hz2 rfl (by decide) (.slice (some ⟨g4, 0, none⟩) 56 c4) 56 (bcells (padQ bs (55 - n))) rfl (by have h := HR4.out; unfold ByRow at h; rwa [padQ_len, HN.out, show n + 1 + (55 - n) = 56 by omega] at h) ⟨g5, 0, none⟩ 8 8 (bcells (putB m8 8)) rfl (by rw [bcells_length, putB_length]) (news_bytes HBY.out) (one_bytes _) ?c2 ?c3 ?c4 ?c5 _ rfl ?_)
      case c2 => omega
      case c3 => unfold maxLen; omega
      case c4 => omega
      case c5 => omega
      intro g6 c6 w6 hown hgrow hlie hglt
      have K6 : Below w1.heap.size w1 w6 := (HK4.out.grown hgrow (by omega) (fun k hk => by have h : g4 = k := (by simpa [Value.ownBlock] using hk); omega))
      obtain ⟨P, hP⟩ : ∃ P, padS bs = P := ⟨_, rfl⟩
      have hPe : padQ bs (55 - n) ++ putB m8 8 = P := by rw [← hP, padS, HN.out, HM8.out]
      have hPl : P.length = 64 := by rw [← hP]; exact padS_len bs (by rw [HN.out]; exact n1)
      have hPi : InB P := hP ▸ padS_in HIB.out
      have hrow6 : ByRow w6 w1.heap.size (.slice (some ⟨g6, 0, none⟩) 64 c6) P := by
        unfold ByRow
        rw [hPl, ← hPe, bcells_app]; exact hown
      have hc6 := hrow6.cap
      rw [hPl] at hc6
      obtain ⟨gz, cz, ez, hg6, hl6, hat6⟩ := hrow6.form (by omega)
      obtain rfl : g6 = gz := by injection ez with ez; simpa using ez
      have HP6 := Lib.hid hat6.sl; have HK6 := Lib.hid K6; have Z6 := K6.size
      have HKS6 := Lib.hid (HKS.out.below K6); have HH6 := Lib.hid (HHs.out.below K6)
      have HPI := Lib.hid (And.intro hPl hPi)
      have HS2 := Lib.hid (show ∃ f, f = blkS ∧ f kS P s = S1 by rw [← hP]; exact HS1.out)
      have K06 := Lib.hid (kept_call K6 K1.out.b)
      clear hown hgrow hlie hglt hPe hP hPl hPi hrow6 ez hat6 K6 HR4 HK4 HBY HS1 HM8 HKS HHs HBs
      go_wp2
      go_loopg [0, 9] 1 (fun G v i wr => BkRel w6 s S1 G v i wr)
      case atStart => exact ⟨0, gh, oh, ch, s, by omega, by omega, rfl, rfl, HH6.out, rfl, Below.refl _ _⟩
      case round =>
        obtain ⟨q, g, o, c, s2, hq, rfl, rfl, rfl, hw8, hs2, KR⟩ := hrel
        have ZR := KR.size
        have HW8 := Lib.hid hw8; have HKR := Lib.hid KR
        clear hw8 HH6
        by_cases hq0 : q = 0
        · subst hq0
          obtain rfl : s2 = s := by simpa using hs2
          rw [show ((64 * 0 : Nat) : Int) = 0 from rfl]
          have HP7 := Lib.hid (HP6.out.below KR); have HKS7 := Lib.hid (HKS6.out.below KR)
          clear KR hs2
          have hc7 : (64 : Int) ≤ (c6 : Int) := by omega
          go_wp2_with fail
          refine (rblock_any g o gk 0 g6 0 c _ _ s2 kS P kS_len HPI.out.1 HSO.out kS_ok HPI.out.2 _ HW8.out HKS7.out HP7.out).mono ?_
          rintro e w7 ⟨g7, rfl, hg7, hB7, hb7⟩
          have hbs : blkS kS P s2 = S1 := by obtain ⟨f, rfl, h⟩ := HS2.out; exact h
          rw [hbs] at hB7
          have hw7 := Wd8.blk hB7
          have HW7 := Lib.hid hw7; have HK7 := Lib.hid (kept_call hb7 HKR.out)
          clear hbs hB7 hw7 hb7
          go_wp2
          go_roundg 0
          case measure => omega
          case rel => exact ⟨1, g7, 0, 8, S1, by omega, by omega, rfl, rfl, HW7.out, rfl, HK7.out⟩
        · obtain rfl : q = 1 := by omega
          obtain rfl : s2 = S1 := by simpa using hs2
          rw [show ((64 * 1 : Nat) : Int) = 64 from rfl]
          have K07 := Lib.hid (kept_call KR K06.out)
          clear KR hs2 HP6 HKS6 HPI HS2 HKR HK6
          have Z7 := K07.out.size
          go_upto_region 10 with fail
          go_cut [10] (fun v wx => (∃ A n c, v = .slice A n c) ∧ ByRow wx wr.heap.size v [] ∧ Below wr.heap.size wr wx)
          case first =>
            go_wp2_with fail
            go_meet
            exact ⟨⟨_, _, _, rfl⟩, (by first | exact World.ownsRow_made wr #[] 0 (Nat.le_refl _) (by decide) (by rfl) | exact World.ownsRow_nil _ _ _ _), (by (repeat' (first | (with_reducible exact Below.refl _ _) | (with_reducible refine Below.setCell ?_ ?_ _) | (with_reducible refine Below.alloc ?_ ?_ _) | (with_reducible refine Below.drew ?_) | (with_reducible refine below_drewN ?_ _))) <;> (first | omega | (simp <;> omega)))⟩
          case rest =>
            obtain ⟨⟨A0, m0, d0, rfl⟩, hrow, KC⟩ := hcut
            have HR := Lib.hid hrow; have HC := Lib.hid KC; have ZC := KC.size
            clear hrow KC
            obtain ⟨w8, rfl⟩ : ∃ x : World, x = wr := ⟨_, rfl⟩
            go_wp2
            go_loopg [10, 11] 8 (fun G v i wy => OtRel w8 s2 G v i wy)
            case atStart => exact ⟨0, by omega, by omega, rfl, HR.out, ⟨_, _, _, rfl⟩, HC.out⟩
            case round =>
              obtain ⟨q, hq, rfl, rfl, hrow, ⟨A, m, d, rfl⟩, KR⟩ := hrel
              have ZY := KR.size
              clear HR HC
              have HROW := Lib.hid hrow; have HKR := Lib.hid KR
              have HWY := Lib.hid (HW8.out.below KR)
              clear hrow KR
              by_cases hlt : q < 8
              · have gq : decide ((q : Int) < 8) = true := decide_eq_true (by omega)
                have gqn : decide (q < 8) = true := decide_eq_true hlt
                have pq : (q : Int) < 8 := by omega
                have wq : IntKind.i64.wrap ((q : Int) + 1) = ((q + 1 : Nat) : Int) := by rw [IntWalk.i64_in _ (by omega)]; omega
                have hcell := HWY.out.get q hlt
                have hgl := HWY.out.1
                have hx := at8_in H1O.out q
                have hol := outQ_len s2 q
                have hst : outQ s2 (q + 1) = outQ s2 q ++ putB (s2.at8 q) 4 := rfl
                generalize s2.at8 q = x at *
                have wx : IntKind.u64.wrap x = x := by simp [IntKind.wrap, IntKind.bits, IntKind.signed]; omega
                have HST := Lib.hid hst; have HOL := Lib.hid hol; clear hst hol
                go_wp2_with fail
                refine (rput_any x 4 hx.1 (by omega) (by decide) (by decide) _).mono ?_
                rintro e w9 ⟨g9, rfl, hg9, hl9, hby, hb9⟩
                have K9 := kept_call hb9 HKR.out
                have hr9 := HROW.out.below hb9
                have hlt0 := hr9.own
                have HR9 := Lib.hid hr9; have HK9 := Lib.hid K9; have HBY := Lib.hid hby.sl; have Z9 := hb9.size
                clear HROW HKR K9 hby hb9 hr9
                generalize hv : (Value.slice A m d) = v at *
                have HV := Lib.hid hv; clear hv
                go_wp2_with (at_builtin; refine wpList_append_lies _ rfl _ _ 22 rfl w8.heap.size 5 i0 (.int .u8 0) 1 1 Try.underlying22 hif hz0 hz1 hz2 rfl (by decide) v (outQ s2 q).length (bcells (outQ s2 q)) rfl HR9.out ⟨g9, 0, none⟩ 4 4 (bcells (putB x 4)) rfl (by rw [bcells_length, putB_length]) (news_bytes HBY.out) (one_bytes _) ?c2 ?c3 ?c4 ?c5 _ rfl ?_)
                case c2 => omega
                case c3 => have := HOL.out; unfold maxLen; omega
                case c4 => have := HOL.out; omega
                case c5 => omega
                intro g7 c7 w7 hown hgrow hlie hglt
                have K7 : Below w8.heap.size w8 w7 := HK9.out.grown hgrow (by omega) (fun k hk => (hlt0 k hk).1)
                have hr7 : ByRow w7 w8.heap.size (.slice (some ⟨g7, 0, none⟩) ((outQ s2 q).length + 4) c7) (outQ s2 (q + 1)) := by
                  unfold ByRow
                  rw [HST.out, List.length_append, putB_length, bcells_app]; exact hown
                have R7 := Lib.hid hr7
                clear hown hgrow hlie hglt hr7
                go_wp2
                go_roundg (8 - (q + 1))
                case measure => omega
                case rel => exact ⟨q + 1, by omega, by omega, by go_num, R7.out, ⟨_, _, _, rfl⟩, K7⟩
              · obtain rfl : q = 8 := by omega
                have gq : decide (((8 : Nat) : Int) < 8) = false := by decide
                have gq2 : decide ((8 : Int) < 8) = false := by decide
                have hrow := HROW.out
                have hRl : R.length = 32 := by obtain ⟨k, rfl, h⟩ := HRR.out; rw [← h, outQ_len]
                rw [show outQ s2 8 = R from by obtain ⟨k, rfl, h⟩ := HRR.out; exact h] at hrow
                obtain ⟨g9, cp9, e9, hg9, hl9, hat9⟩ := hrow.form (by omega)
                rw [hRl] at e9
                obtain ⟨rfl, rfl, rfl⟩ : A = some ⟨g9, 0, none⟩ ∧ m = 32 ∧ d = cp9 := by injection e9 with a b c; exact ⟨a, b, c⟩
                have HAT := Lib.hid hat9
                have hcp := hrow.cap
                rw [hRl] at hcp
                clear hrow HROW hat9 e9
                go_wp2
                go_ret
                exact ⟨g9, d, rfl, hcp, by omega, hl9, HAT.out, kept_call HKR.out K07.out⟩
end Go.Proofs.Ytlnboheahbfgfaa
