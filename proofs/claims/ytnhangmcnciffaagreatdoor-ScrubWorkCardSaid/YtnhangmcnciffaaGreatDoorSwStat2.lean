/- stat.Of; reference 26.Of. -/
import Derived.Test.YtnhangmcnciffaaGreatDoorSw19
import Derived.Test.YtnhangmcnciffaaGreatDoorSw3
namespace Go.Proofs.YtnhangmcnciffaaGreatDoor
open Go.RowKit
theorem free5 {w : World} {b : Nat} {c0 c1 c2 c3 c4 : Value} {t : TypeId} (h : w.heap[b]? = some (.cells #[c0, c1, c2, c3, c4] t (0, 0))) :
    w.frozen? ⟨b, 0, none⟩ = false ∧ w.frozen? ⟨b, 1, none⟩ = false ∧ w.frozen? ⟨b, 2, none⟩ = false ∧ w.frozen? ⟨b, 3, none⟩ = false ∧ w.frozen? ⟨b, 4, none⟩ = false :=
  ⟨frozen_of_row w b 0 _ _ h, frozen_of_row w b 1 _ _ h, frozen_of_row w b 2 _ _ h, frozen_of_row w b 3 _ _ h, frozen_of_row w b 4 _ _ h⟩
end Go.Proofs.YtnhangmcnciffaaGreatDoor
