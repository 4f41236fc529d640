/- Texts joined: SteerD, SteerE, SteerR -/
import Derived.Test.YtlnboheahbfgfaaGreatJ35
namespace Go.Proofs.YtlnboheahbfgfaaGreat
open Go.RowKit

end Go.Proofs.YtlnboheahbfgfaaGreat
namespace Go.Proofs.YtlnboheahbfgfaaGreat
open Go.RowKit

end Go.Proofs.YtlnboheahbfgfaaGreat
namespace Go.Proofs.YtlnboheahbfgfaaGreat
open Go.RowKit

theorem read_any (aim rate : Int) (set held : Bool) (at_ shown t lo hi : Int) (w : World) :
    Calls Tryz.prog 95 #[.agg #[.int .i64 aim, .int .i64 rate, .bool set, .bool held, .int .i64 at_, .int .i64 shown], .int .i64 t, .agg #[.int .i64 lo, .int .i64 hi]] w (ReadPost w (rdV aim rate set at_ shown t lo hi) (rdE aim rate set at_ shown t lo hi)) := by
  rcases chk_cases aim rate at_ shown with h | h
  · rcases h2 : vS lo hi
    · exact read_e2 aim rate set held at_ shown t lo hi w h h2
    · rcases h3 : vT t
      · exact read_e3 aim rate set held at_ shown t lo hi w h h2 h3
      · cases set
        · exact read_unset aim rate held at_ shown t lo hi w h h2 h3
        · by_cases h4 : t < at_
          · exact read_e4 aim rate held at_ shown t lo hi w h h2 h3 h4
          · exact read_set aim rate held at_ shown t lo hi w h h2 h3 (by omega)
  · exact read_e1 aim rate set held at_ shown t lo hi w h
end Go.Proofs.YtlnboheahbfgfaaGreat
