/- Package vol: Lay. (Written by wip/genvollaynd.py.) -/
import Derived.Test.YtmkhacgdejkimaaGreatDoorCn16
import Derived.Test.YtmkhacgdejkimaaGreatDoorCn15
namespace Go.Proofs.YtmkhacgdejkimaaGreatDoor
open Go.RowKit
end Go.Proofs.YtmkhacgdejkimaaGreatDoor
