/- Reference 26.Of. -/
import Derived.Test.YtnhangmcnciffaaGreatDoorSp21
import Derived.Test.YtnhangmcnciffaaGreatDoorSp19
namespace Go.Proofs.YtnhangmcnciffaaGreatDoor
open Go.RowKit
def oneI (num size L : Int) : Value := .agg #[.int .i64 num, .int .i64 size, .int .i64 L, .int .i64 (size - L), .int .i64 (shareI (size - L) size)]
end Go.Proofs.YtnhangmcnciffaaGreatDoor
