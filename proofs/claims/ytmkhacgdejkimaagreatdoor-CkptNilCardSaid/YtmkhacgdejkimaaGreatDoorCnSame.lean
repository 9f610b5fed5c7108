/- Bytes read from memory, and corncribref01.Same at any two lists of bytes. No condition but that they are read. -/
import Derived.Test.YtmkhacgdejkimaaGreatDoorCn2
import Derived.Test.YtmkhacgdejkimaaGreatDoorRows
namespace Go.Proofs.YtmkhacgdejkimaaGreatDoor
open Go.RowKit
end Go.Proofs.YtmkhacgdejkimaaGreatDoor
