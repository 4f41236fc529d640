/- The reference's Least and Most. -/
import Derived.Test.YtlfkkfdolnkjfaaRSwF
namespace Go.Proofs.Ytlfkkfdolnkjfaa
open Go.RowKit Go.Shelf Go.Sort
set_option linter.unusedSimpArgs false
set_option linter.unusedVariables false

theorem rpf_all {A : Option Addr} {len cap : Nat} {zs : List (Int × Int)} {w : World} (h : SpansAt w A len zs) : RPf A len cap zs w := fun W hW => rprofile_any A len cap zs W (h.below hW)
theorem rLeast_any (A : Option Addr) (len cap : Nat) (zs : List (Int × Int)) (n : Int) (w : World) (h : SpansAt w A len zs) : Calls Try.prog 39 #[.slice A len cap, .int .i64 n] w (LsR w zs n) := rLeast_of A len cap zs n w (rpf_all h)
theorem rMost_any (A : Option Addr) (len cap : Nat) (zs : List (Int × Int)) (w : World) (h : SpansAt w A len zs) : Calls Try.prog 40 #[.slice A len cap] w (MsR w zs) := rMost_of A len cap zs w (rpf_all h)
end Go.Proofs.Ytlfkkfdolnkjfaa
