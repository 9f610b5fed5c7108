/- Law ShipPages: the walk. -/
import Derived.Test.YtmaalbbclldnpaaGreatDoorAlShipMadeL
import Derived.Test.YtmaalbbclldnpaaGreatDoorAlShipBad
namespace Go.Proofs.YtmaalbbclldnpaaGreatDoor
open Go.RowKit
end Go.Proofs.YtmaalbbclldnpaaGreatDoor
