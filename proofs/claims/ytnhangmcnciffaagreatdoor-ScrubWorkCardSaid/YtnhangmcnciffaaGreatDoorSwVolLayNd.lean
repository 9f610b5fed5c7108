/- Package vol: Lay. (Written by wip/genvollaynd.py.) -/
import Derived.Test.YtnhangmcnciffaaGreatDoorSw17
import Derived.Test.YtnhangmcnciffaaGreatDoorSw16
namespace Go.Proofs.YtnhangmcnciffaaGreatDoor
open Go.RowKit
end Go.Proofs.YtnhangmcnciffaaGreatDoor
