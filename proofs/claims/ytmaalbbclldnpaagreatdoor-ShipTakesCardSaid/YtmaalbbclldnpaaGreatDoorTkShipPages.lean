/- Law ShipPages: the walk. -/
import Derived.Test.YtmaalbbclldnpaaGreatDoorTkShipMadeL
import Derived.Test.YtmaalbbclldnpaaGreatDoorTkShipBad
namespace Go.Proofs.YtmaalbbclldnpaaGreatDoor
open Go.RowKit
end Go.Proofs.YtmaalbbclldnpaaGreatDoor
