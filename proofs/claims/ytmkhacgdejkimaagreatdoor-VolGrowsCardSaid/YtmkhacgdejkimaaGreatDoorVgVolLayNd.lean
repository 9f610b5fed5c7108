/- Package vol: Lay. (Written by wip/genvollaynd.py.) -/
import Derived.Test.YtmkhacgdejkimaaGreatDoorVg16
import Derived.Test.YtmkhacgdejkimaaGreatDoorVg15
namespace Go.Proofs.YtmkhacgdejkimaaGreatDoor
open Go.RowKit
end Go.Proofs.YtmkhacgdejkimaaGreatDoor
