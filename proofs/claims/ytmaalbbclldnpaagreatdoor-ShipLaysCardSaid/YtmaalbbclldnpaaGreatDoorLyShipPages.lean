/- Law ShipPages: the walk. -/
import Derived.Test.YtmaalbbclldnpaaGreatDoorLyShipMadeL
import Derived.Test.YtmaalbbclldnpaaGreatDoorLyShipBad
namespace Go.Proofs.YtmaalbbclldnpaaGreatDoor
open Go.RowKit
end Go.Proofs.YtmaalbbclldnpaaGreatDoor
