/- What a script does, in plain words: the state of the bench behind each line, and what is reported. -/
import Derived.Lib.Atoi
import Derived.Test.YtiinmhfolfgobaaGreatDoorJ23
import Derived.Test.YtiinmhfolfgobaaGreatDoorJ25
import Derived.Test.YtiinmhfolfgobaaGreatDoorJ27
set_option linter.unusedVariables false
set_option linter.unusedSimpArgs false
namespace Go.Proofs.YtiinmhfolfgobaaGreatDoor
open Go.RowKit Go.Lib
noncomputable def mgO (ks : List K6) (u f : Int) : Int × Int × Int := ⟨Classical.choose (MG_ex ks u f), Classical.choose (Classical.choose_spec (MG_ex ks u f)), Classical.choose (Classical.choose_spec (Classical.choose_spec (MG_ex ks u f)))⟩
theorem mgO_spec (ks : List K6) (u f : Int) : MG ks u f (mgO ks u f).1 (mgO ks u f).2.1 (mgO ks u f).2.2 := Classical.choose_spec (Classical.choose_spec (Classical.choose_spec (MG_ex ks u f)))
structure Bn where
 (begun : Bool) (srcs : List Kw) (li p : Int) (ck : Clk) (out : List UInt8)
def Bn.zero : Bn := ⟨false, [], 0, 0, .zero, []⟩
def sayL (word : List UInt8) (ns : List Int) : List UInt8 := word ++ (ns.flatMap fun n => 32 :: itoa n) ++ [10]
def Bn.say (b : Bn) (word : List UInt8) (ns : List Int) : Bn := { b with out := b.out ++ sayL word ns }
def wSources : List UInt8 := [115, 111, 117, 114, 99, 101, 115]
def wDrift : List UInt8 := [100, 114, 105, 102, 116]
def wSample : List UInt8 := [115, 97, 109, 112, 108, 101]
def wNow : List UInt8 := [110, 111, 119]
def wRead : List UInt8 := [114, 101, 97, 100]
def wUtc : List UInt8 := [117, 116, 99]
def wSave : List UInt8 := [115, 97, 118, 101]
def wError : List UInt8 := [101, 114, 114, 111, 114]
def wLearnt : List UInt8 := [108, 101, 97, 114, 110, 116]
def wRefused : List UInt8 := [114, 101, 102, 117, 115, 101, 100]
def wSpan : List UInt8 := [115, 112, 97, 110]
def wWake : List UInt8 := [119, 97, 107, 101]
def wClock : List UInt8 := [99, 108, 111, 99, 107, 32]
def wFree : List UInt8 := [32, 102, 114, 101, 101]
def wHeld : List UInt8 := [32, 104, 101, 108, 100]
def Bn.tell (b : Bn) (e : Int) : Bn × Int := (b.say wError [e], 0)
def Bn.sources (b : Bn) (n f : Int) : Bn × Int :=
 if 1 ≤ n ∧ n ≤ 8 ∧ 0 ≤ f ∧ f ≤ n ∧ 2 * f < n then (Bn.say ⟨true, List.replicate n.toNat (false, .zero), f, 0, .zero, b.out⟩ wSources [n, f], 0) else (b, 4)
def Bn.drift (b : Bn) (p : Int) : Bn × Int :=
 if b.srcs.any (·.1) then (b, 7) else if 0 ≤ p ∧ p ≤ 1000000 then (Bn.say { b with p := p } wDrift [p], 0) else (b, 4)
def learnK (k : Kw) (u lo hi p : Int) : Int × Bool × K6 := if k.1 then ((lrnK k.2 u lo hi).e, (lrnK k.2 u lo hi).ok, kOf (lrnK k.2 u lo hi)) else (kE u lo hi p 0 0, true, begK u lo hi p)
def Bn.took (b : Bn) (i lo hi : Int) (r : Int × Bool × K6) : Bn × Int :=
 if r.1 = 0 then (Bn.say { b with srcs := b.srcs.set i.toNat (true, r.2.2) } (if r.2.1 then wLearnt else wRefused) [i, lo, hi], 0) else b.tell r.1
def Bn.heard (b : Bn) (i u : Int) (a : Int × Int × Int) : Bn × Int :=
 if a.2.2 = 0 then b.took i a.1 a.2.1 (learnK (b.srcs.getD i.toNat (false, .zero)) u a.1 a.2.1 b.p) else b.tell a.2.2
def Bn.sample (b : Bn) (i t1 t2 t3 t4 er : Int) : Bn × Int :=
 if 0 ≤ i ∧ i < b.srcs.length then b.heard i t4 (atT t1 t2 t3 t4 er b.p) else (b, 4)
def Bn.nowT (b : Bn) (m : Int × Int × Int) : Bn × Int := if m.2.2 = 0 then (b.say wSpan [m.1, m.2.1], 0) else b.tell m.2.2
noncomputable def Bn.now (b : Bn) (u : Int) : Bn × Int := b.nowT (mgO (knowns b.srcs) u b.li)
def Bn.aimed (b : Bn) (aim : Int) : Clk := ⟨aim, 1000000, b.ck.set, b.ck.held, b.ck.at_, b.ck.shown⟩
def rdK (c : Clk) (u lo hi : Int) : Int := rdE c.aim c.rate c.set c.at_ c.shown u lo hi
def Bn.shows (b : Bn) (c : Clk) : Bn := Bn.say { b with ck := c } (wClock ++ itoa c.shown ++ if c.held then wHeld else wFree) []
def Bn.readT (b : Bn) (aim u : Int) (m : Int × Int × Int) : Bn × Int :=
 if m.2.2 = 0 then (if rdK (b.aimed aim) u m.1 m.2.1 = 0 then (b.shows (readK (b.aimed aim) u m.1 m.2.1), 0) else b.tell (rdK (b.aimed aim) u m.1 m.2.1)) else b.tell m.2.2
noncomputable def Bn.read (b : Bn) (aim u : Int) : Bn × Int := b.readT aim u (mgO (knowns b.srcs) u b.li)
def Bn.utc (b : Bn) (t : Int) : Bn × Int := (b.say (wUtc ++ 32 :: fmtS t) [], 0)
inductive Cmd
 | sources | drift | sample | now | read | utc | save
def Cmd.word : Cmd → List UInt8
 | .sources => wSources | .drift => wDrift | .sample => wSample | .now => wNow | .read => wRead | .utc => wUtc | .save => wSave
def Cmd.count : Cmd → Nat
 | .sources => 2 | .drift => 1 | .sample => 6 | .now => 1 | .read => 2 | .utc => 1 | .save => 3
def cmdOf (w : List UInt8) : Option Cmd :=
 if w = wSources then some .sources else if w = wDrift then some .drift else if w = wSample then some .sample else if w = wNow then some .now else if w = wRead then some .read else if w = wUtc then some .utc else if w = wSave then some .save else none
def intW (w : List UInt8) : Option Int := match atoi w with
 | some n => if itoa n = w ∧ vT n = true then some n else none
 | none => none
def intsW : List (List UInt8) → Option (List Int)
 | [] => some []
 | w :: ws => match intW w with
  | none => none
  | some n => match intsW ws with
   | none => none
   | some ns => some (n :: ns)
abbrev Sv := Bn → Int → Int → Int → Bn × Int
noncomputable def Bn.run (sv : Sv) (b : Bn) : Cmd → List Int → Bn × Int
 | .sources, ns => b.sources (ns.getD 0 0) (ns.getD 1 0)
 | .drift, ns => b.drift (ns.getD 0 0)
 | .utc, ns => b.utc (ns.getD 0 0)
 | c, ns => if b.begun then (match c with
  | .sample => b.sample (ns.getD 0 0) (ns.getD 1 0) (ns.getD 2 0) (ns.getD 3 0) (ns.getD 4 0) (ns.getD 5 0)
  | .now => b.now (ns.getD 0 0)
  | .read => b.read (ns.getD 0 0) (ns.getD 1 0)
  | _ => sv b (ns.getD 0 0) (ns.getD 1 0) (ns.getD 2 0)) else (b, 7)
noncomputable def Bn.nums (sv : Sv) (b : Bn) (c : Cmd) (n : Nat) : Option (List Int) → Bn × Int
 | none => (b, 29)
 | some ns => b.run sv c ns
noncomputable def Bn.exec (sv : Sv) (b : Bn) (ws : List (List UInt8)) : Bn × Int := match cmdOf (ws.getD 0 []) with
 | none => (b, 29)
 | some c => if ws.length = 1 + c.count then b.nums sv c c.count (intsW ws.tail) else (b, 29)
def noteW (ws : List (List UInt8)) : Bool := match ws with
 | [] => true
 | w :: _ => w.getD 0 0 == 35
noncomputable def Bn.lines (sv : Sv) : Bn → Nat → List (List UInt8) → List UInt8 × Int × Int
 | b, _, [] => (b.out, 0, 0)
 | b, i, l :: ls => if noteW (wordsGo [] l) then Bn.lines sv b (i + 1) ls else
  if (b.exec sv (wordsGo [] l)).2 = 0 then Bn.lines sv (b.exec sv (wordsGo [] l)).1 (i + 1) ls else ([], (i : Int) + 1, (b.exec sv (wordsGo [] l)).2)
noncomputable def scriptV (sv : Sv) (s : List UInt8) : List UInt8 × Int × Int :=
 if 4096 < s.length then ([], 0, 2) else if 100 < (cutAt 10 (trimSuffix s [10])).length then ([], 0, 8) else Bn.lines sv .zero 0 (cutAt 10 (trimSuffix s [10]))
end Go.Proofs.YtiinmhfolfgobaaGreatDoor
