/- Package vol: Lay. (Written by wip/genvollaynd.py.) -/
import Derived.Test.YtnhangmcnciffaaGreatDoorSp17
import Derived.Test.YtnhangmcnciffaaGreatDoorSp16
namespace Go.Proofs.YtnhangmcnciffaaGreatDoor
open Go.RowKit
end Go.Proofs.YtnhangmcnciffaaGreatDoor
