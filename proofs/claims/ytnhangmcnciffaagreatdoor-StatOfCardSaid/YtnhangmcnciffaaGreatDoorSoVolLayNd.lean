/- Package vol: Lay. (Written by wip/genvollaynd.py.) -/
import Derived.Test.YtnhangmcnciffaaGreatDoorSo17
import Derived.Test.YtnhangmcnciffaaGreatDoorSo16
namespace Go.Proofs.YtnhangmcnciffaaGreatDoor
open Go.RowKit
end Go.Proofs.YtnhangmcnciffaaGreatDoor
