/- Package vol: Lay. (Written by wip/genvollaynd.py.) -/
import Derived.Test.YtmaalbbclldnpaaGreatDoorTk16
import Derived.Test.YtmaalbbclldnpaaGreatDoorTk15
namespace Go.Proofs.YtmaalbbclldnpaaGreatDoor
open Go.RowKit
end Go.Proofs.YtmaalbbclldnpaaGreatDoor
