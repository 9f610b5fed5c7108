/- Law ShipBad: the walk. -/
import Derived.Test.YtmaalbbclldnpaaGreatDoorLy17
import Derived.Test.YtmaalbbclldnpaaGreatDoorLyOpenNd
namespace Go.Proofs.YtmaalbbclldnpaaGreatDoor
open Go.RowKit
end Go.Proofs.YtmaalbbclldnpaaGreatDoor
