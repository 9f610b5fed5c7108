/- Joined texts: OpenU8, OpenU64. -/
import Derived.Test.YtmaalbbclldnpaaGreatDoorRows
import Derived.WalkKit
import Derived.ProofKit
import Derived.OpenShut
import Derived.ShutString
import Derived.ChangeOld
/- An argument that is a byte: its bounds; an argument that is an int: its bounds. -/
namespace Go.Proofs.YtmaalbbclldnpaaGreatDoor
open Go.ChangeShapes Go.WideShapes Go.ChangeAt Go.RowKit
end Go.Proofs.YtmaalbbclldnpaaGreatDoor

/- An argument that is a uint64 or a uint16: its bounds. -/
namespace Go.Proofs.YtmaalbbclldnpaaGreatDoor
open Go.ChangeShapes Go.WideShapes Go.ChangeAt Go.RowKit
theorem u64_of {H : Type} {enc : TypeId × Value → H} {W : World} {base : Nat} {spare : Nat → Bool} {held : Bool} {v : Value} {d : DataW H} {p : List MemPlace} (h : DataW.Trod enc Tryz.prog W base spare held 23 v d p) (n : Int) (hv : v = .int .u64 n) :
    0 ≤ n ∧ n ≤ 18446744073709551615 := by
  obtain ⟨fuel, hf⟩ := h
  obtain ⟨k, hk, _, hw⟩ := DataW.trod_int Tryz.underlying23 hf
  subst hv
  simp [Value.cells] at hk
  subst hk
  simp [Lit.wf] at hw
  have e1 : IntKind.u64.min = 0 := by decide
  have e2 : IntKind.u64.max = 18446744073709551615 := by decide
  exact ⟨by omega, by omega⟩
end Go.Proofs.YtmaalbbclldnpaaGreatDoor
