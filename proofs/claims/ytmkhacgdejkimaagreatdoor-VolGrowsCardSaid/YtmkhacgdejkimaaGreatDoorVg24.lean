/- Joined texts: OpenU8, OpenU64. -/
import Derived.Test.YtmkhacgdejkimaaGreatDoorRows
import Derived.WalkKit
import Derived.ProofKit
import Derived.OpenShut
import Derived.ShutString
import Derived.ChangeOld
/- An argument that is a byte: its bounds; an argument that is an int: its bounds. -/
namespace Go.Proofs.YtmkhacgdejkimaaGreatDoor
open Go.ChangeShapes Go.WideShapes Go.ChangeAt Go.RowKit
end Go.Proofs.YtmkhacgdejkimaaGreatDoor

/- An argument that is a uint64 or a uint16: its bounds. -/
namespace Go.Proofs.YtmkhacgdejkimaaGreatDoor
open Go.ChangeShapes Go.WideShapes Go.ChangeAt Go.RowKit
theorem u16_of {H : Type} {enc : TypeId × Value → H} {W : World} {base : Nat} {spare : Nat → Bool} {held : Bool} {v : Value} {d : DataW H} {p : List MemPlace} (h : DataW.Trod enc Tryz.prog W base spare held 100 v d p) (n : Int) (hv : v = .int .u16 n) :
    0 ≤ n ∧ n ≤ 65535 := by
  obtain ⟨fuel, hf⟩ := h
  obtain ⟨k, hk, _, hw⟩ := DataW.trod_int Tryz.underlying100 hf
  subst hv
  simp [Value.cells] at hk
  subst hk
  simp [Lit.wf] at hw
  have e1 : IntKind.u16.min = 0 := by decide
  have e2 : IntKind.u16.max = 65535 := by decide
  exact ⟨by omega, by omega⟩
end Go.Proofs.YtmkhacgdejkimaaGreatDoor
