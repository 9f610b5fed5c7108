/- Package vol: Lay. (Written by wip/genvollaynd.py.) -/
import Derived.Test.YtmaalbbclldnpaaGreatDoorPg16
import Derived.Test.YtmaalbbclldnpaaGreatDoorPg15
namespace Go.Proofs.YtmaalbbclldnpaaGreatDoor
open Go.RowKit
end Go.Proofs.YtmaalbbclldnpaaGreatDoor
