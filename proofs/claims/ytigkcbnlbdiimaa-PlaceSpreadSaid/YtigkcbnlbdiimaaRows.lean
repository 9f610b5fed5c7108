/-
  No cell of these rows narrows 'for every input' (looked for: loops, veiled, ifaces, maps, wideKeys, modest, calm, conditions, laid).
  DERIVED. THE GIVEN ROWS OF THIS SEAT. 11 by the template 'for every input the law returns true; each argument reads behind the call as it read before'; 0 by the template 'total and deterministic' (their statements: YtigkcbnlbdiimaaTotals.lean).
  GIVEN WITH THE SEED: the statements are not yours to turn. If you find one false, say at which input.
  Laid BY PROGRAM, IN A SANDBOX (cutbox-rows.mjs): the forced cells as the released guide's own fill.sh prints them over the translation fb872c6c7a2e07ff… (all of the seat's roots in one cut). By AI agents, Wed Nov 11 2026. No macro, syntax, notation, axiom, sorry.
-/
import Derived.Test.YtigkcbnlbdiimaaChecked
import GoSem.Claim
import GoSem.ClaimJoined
import GoSem.ClaimMapViews
import Derived.JoinedTies
import Derived.KernelRfl
namespace Go.Proofs.Ytigkcbnlbdiimaa
/- THE CELL 'sum', in the pinned program and in every row, IS THE sha256 OF THE DUMP (.gsa) THAT YtigkcbnlbdiimaaProg.lean LOADS. Nothing in Lean hashes anything: it is a label: what it is worth is what the hold of that sum in a sandbox is worth. -/
noncomputable def Try.pinned : Pinned := { name := "ytigkcbnlbdiimaa", sum := "fb872c6c7a2e07ff1b2035a0a847066cf7b705f01f57e2ac38cf4cf078014c8c", checked := Try.checked }
namespace Rows
def none {H : Type} : Left H := { results := [], args := [] }

/-- 'corncriblaw19.DirsApart': WHATEVER THE INPUT: true; the input reads as it did. -/
def dirsApartSpec : ChangeSpec := { name := "dirsApart", fn := fun _ => fun
  | [d] => { results := [.lit (.bool true)], args := [d] }
  | _ => none }
def dirsApartRow : OpenClaim := { program := "ytigkcbnlbdiimaa", sum := "fb872c6c7a2e07ff1b2035a0a847066cf7b705f01f57e2ac38cf4cf078014c8c", func := "corncrib/corncriblaw19.DirsApart", spec := "dirsApart", inPlace := ["internal/reflectlite.TypeOf"], unfollowed := true, recurses := true, apart := false }
def DirsApartSaid : Prop := dirsApartRow.holds Try.pinned (OpenSpec.ofChange dirsApartSpec)

/-- ITS FALSE NEIGHBOUR: 'it returns false'. Refute it at one input. -/
def dirsApartWrong : ChangeSpec := { name := "dirsApart", fn := fun _ => fun
  | [d] => { results := [.lit (.bool false)], args := [d] }
  | _ => none }
def DirsApartWrongFalsely : Prop := dirsApartRow.holds Try.pinned (OpenSpec.ofChange dirsApartWrong)

/-- 'corncriblaw19.DirsEpochs': WHATEVER THE INPUT: true; the input reads as it did. -/
def dirsEpochsSpec : ChangeSpec := { name := "dirsEpochs", fn := fun _ => fun
  | [d] => { results := [.lit (.bool true)], args := [d] }
  | _ => none }
def dirsEpochsRow : OpenClaim := { program := "ytigkcbnlbdiimaa", sum := "fb872c6c7a2e07ff1b2035a0a847066cf7b705f01f57e2ac38cf4cf078014c8c", func := "corncrib/corncriblaw19.DirsEpochs", spec := "dirsEpochs", inPlace := ["internal/reflectlite.TypeOf"], unfollowed := true, recurses := true, apart := false }
def DirsEpochsSaid : Prop := dirsEpochsRow.holds Try.pinned (OpenSpec.ofChange dirsEpochsSpec)

/-- ITS FALSE NEIGHBOUR: 'it returns false'. Refute it at one input. -/
def dirsEpochsWrong : ChangeSpec := { name := "dirsEpochs", fn := fun _ => fun
  | [d] => { results := [.lit (.bool false)], args := [d] }
  | _ => none }
def DirsEpochsWrongFalsely : Prop := dirsEpochsRow.holds Try.pinned (OpenSpec.ofChange dirsEpochsWrong)

/-- 'corncriblaw19.DirsParts': WHATEVER THE INPUT: true; the input reads as it did. -/
def dirsPartsSpec : ChangeSpec := { name := "dirsParts", fn := fun _ => fun
  | [d1, d2] => { results := [.lit (.bool true)], args := [d1, d2] }
  | _ => none }
def dirsPartsRow : OpenClaim := { program := "ytigkcbnlbdiimaa", sum := "fb872c6c7a2e07ff1b2035a0a847066cf7b705f01f57e2ac38cf4cf078014c8c", func := "corncrib/corncriblaw19.DirsParts", spec := "dirsParts", inPlace := ["internal/reflectlite.TypeOf"], unfollowed := true, recurses := true, apart := false }
def DirsPartsSaid : Prop := dirsPartsRow.holds Try.pinned (OpenSpec.ofChange dirsPartsSpec)

/-- ITS FALSE NEIGHBOUR: 'it returns false'. Refute it at one input. -/
def dirsPartsWrong : ChangeSpec := { name := "dirsParts", fn := fun _ => fun
  | [d1, d2] => { results := [.lit (.bool false)], args := [d1, d2] }
  | _ => none }
def DirsPartsWrongFalsely : Prop := dirsPartsRow.holds Try.pinned (OpenSpec.ofChange dirsPartsWrong)

/-- 'corncriblaw20.TwinKeeps': WHATEVER THE INPUT: true; the input reads as it did. -/
def twinKeepsSpec : ChangeSpec := { name := "twinKeeps", fn := fun _ => fun
  | [d] => { results := [.lit (.bool true)], args := [d] }
  | _ => none }
def twinKeepsRow : OpenClaim := { program := "ytigkcbnlbdiimaa", sum := "fb872c6c7a2e07ff1b2035a0a847066cf7b705f01f57e2ac38cf4cf078014c8c", func := "corncrib/corncriblaw20.TwinKeeps", spec := "twinKeeps", inPlace := ["internal/reflectlite.TypeOf"], unfollowed := true, recurses := true, apart := false }
def TwinKeepsSaid : Prop := twinKeepsRow.holds Try.pinned (OpenSpec.ofChange twinKeepsSpec)

/-- ITS FALSE NEIGHBOUR: 'it returns false'. Refute it at one input. -/
def twinKeepsWrong : ChangeSpec := { name := "twinKeeps", fn := fun _ => fun
  | [d] => { results := [.lit (.bool false)], args := [d] }
  | _ => none }
def TwinKeepsWrongFalsely : Prop := twinKeepsRow.holds Try.pinned (OpenSpec.ofChange twinKeepsWrong)

/-- 'corncriblaw20.TwinShips': WHATEVER THE INPUT: true; the input reads as it did. -/
def twinShipsSpec : ChangeSpec := { name := "twinShips", fn := fun _ => fun
  | [d] => { results := [.lit (.bool true)], args := [d] }
  | _ => none }
def twinShipsRow : OpenClaim := { program := "ytigkcbnlbdiimaa", sum := "fb872c6c7a2e07ff1b2035a0a847066cf7b705f01f57e2ac38cf4cf078014c8c", func := "corncrib/corncriblaw20.TwinShips", spec := "twinShips", inPlace := ["internal/reflectlite.TypeOf"], unfollowed := true, recurses := true, apart := false }
def TwinShipsSaid : Prop := twinShipsRow.holds Try.pinned (OpenSpec.ofChange twinShipsSpec)

/-- ITS FALSE NEIGHBOUR: 'it returns false'. Refute it at one input. -/
def twinShipsWrong : ChangeSpec := { name := "twinShips", fn := fun _ => fun
  | [d] => { results := [.lit (.bool false)], args := [d] }
  | _ => none }
def TwinShipsWrongFalsely : Prop := twinShipsRow.holds Try.pinned (OpenSpec.ofChange twinShipsWrong)

/-- 'corncriblaw20.TwinPlays': WHATEVER THE INPUT: true; the input reads as it did. -/
def twinPlaysSpec : ChangeSpec := { name := "twinPlays", fn := fun _ => fun
  | [d] => { results := [.lit (.bool true)], args := [d] }
  | _ => none }
def twinPlaysRow : OpenClaim := { program := "ytigkcbnlbdiimaa", sum := "fb872c6c7a2e07ff1b2035a0a847066cf7b705f01f57e2ac38cf4cf078014c8c", func := "corncrib/corncriblaw20.TwinPlays", spec := "twinPlays", inPlace := ["internal/reflectlite.TypeOf"], unfollowed := true, recurses := true, apart := false }
def TwinPlaysSaid : Prop := twinPlaysRow.holds Try.pinned (OpenSpec.ofChange twinPlaysSpec)

/-- ITS FALSE NEIGHBOUR: 'it returns false'. Refute it at one input. -/
def twinPlaysWrong : ChangeSpec := { name := "twinPlays", fn := fun _ => fun
  | [d] => { results := [.lit (.bool false)], args := [d] }
  | _ => none }
def TwinPlaysWrongFalsely : Prop := twinPlaysRow.holds Try.pinned (OpenSpec.ofChange twinPlaysWrong)

/-- 'corncriblaw20.TwinAlone': WHATEVER THE INPUT: true; the input reads as it did. -/
def twinAloneSpec : ChangeSpec := { name := "twinAlone", fn := fun _ => fun
  | [d1, d2] => { results := [.lit (.bool true)], args := [d1, d2] }
  | _ => none }
def twinAloneRow : OpenClaim := { program := "ytigkcbnlbdiimaa", sum := "fb872c6c7a2e07ff1b2035a0a847066cf7b705f01f57e2ac38cf4cf078014c8c", func := "corncrib/corncriblaw20.TwinAlone", spec := "twinAlone", inPlace := ["internal/reflectlite.TypeOf"], unfollowed := true, recurses := true, apart := false }
def TwinAloneSaid : Prop := twinAloneRow.holds Try.pinned (OpenSpec.ofChange twinAloneSpec)

/-- ITS FALSE NEIGHBOUR: 'it returns false'. Refute it at one input. -/
def twinAloneWrong : ChangeSpec := { name := "twinAlone", fn := fun _ => fun
  | [d1, d2] => { results := [.lit (.bool false)], args := [d1, d2] }
  | _ => none }
def TwinAloneWrongFalsely : Prop := twinAloneRow.holds Try.pinned (OpenSpec.ofChange twinAloneWrong)

/-- 'corncriblaw27.PlaceOrders': WHATEVER THE INPUT: true; the input reads as it did. -/
def placeOrdersSpec : ChangeSpec := { name := "placeOrders", fn := fun _ => fun
  | [d1, d2, d3] => { results := [.lit (.bool true)], args := [d1, d2, d3] }
  | _ => none }
def placeOrdersRow : OpenClaim := { program := "ytigkcbnlbdiimaa", sum := "fb872c6c7a2e07ff1b2035a0a847066cf7b705f01f57e2ac38cf4cf078014c8c", func := "corncrib/corncriblaw27.PlaceOrders", spec := "placeOrders", inPlace := ["internal/reflectlite.TypeOf"], unfollowed := true, recurses := true, apart := false }
def PlaceOrdersSaid : Prop := placeOrdersRow.holds Try.pinned (OpenSpec.ofChange placeOrdersSpec)

/-- ITS FALSE NEIGHBOUR: 'it returns false'. Refute it at one input. -/
def placeOrdersWrong : ChangeSpec := { name := "placeOrders", fn := fun _ => fun
  | [d1, d2, d3] => { results := [.lit (.bool false)], args := [d1, d2, d3] }
  | _ => none }
def PlaceOrdersWrongFalsely : Prop := placeOrdersRow.holds Try.pinned (OpenSpec.ofChange placeOrdersWrong)

/-- 'corncriblaw27.PlaceMoves': WHATEVER THE INPUT: true; the input reads as it did. -/
def placeMovesSpec : ChangeSpec := { name := "placeMoves", fn := fun _ => fun
  | [d1, d2, d3] => { results := [.lit (.bool true)], args := [d1, d2, d3] }
  | _ => none }
def placeMovesRow : OpenClaim := { program := "ytigkcbnlbdiimaa", sum := "fb872c6c7a2e07ff1b2035a0a847066cf7b705f01f57e2ac38cf4cf078014c8c", func := "corncrib/corncriblaw27.PlaceMoves", spec := "placeMoves", inPlace := ["internal/reflectlite.TypeOf"], unfollowed := true, recurses := true, apart := false }
def PlaceMovesSaid : Prop := placeMovesRow.holds Try.pinned (OpenSpec.ofChange placeMovesSpec)

/-- ITS FALSE NEIGHBOUR: 'it returns false'. Refute it at one input. -/
def placeMovesWrong : ChangeSpec := { name := "placeMoves", fn := fun _ => fun
  | [d1, d2, d3] => { results := [.lit (.bool false)], args := [d1, d2, d3] }
  | _ => none }
def PlaceMovesWrongFalsely : Prop := placeMovesRow.holds Try.pinned (OpenSpec.ofChange placeMovesWrong)

/-- 'corncriblaw27.PlaceEvens': WHATEVER THE INPUT: true; the input reads as it did. -/
def placeEvensSpec : ChangeSpec := { name := "placeEvens", fn := fun _ => fun
  | [d1, d2, d3] => { results := [.lit (.bool true)], args := [d1, d2, d3] }
  | _ => none }
def placeEvensRow : OpenClaim := { program := "ytigkcbnlbdiimaa", sum := "fb872c6c7a2e07ff1b2035a0a847066cf7b705f01f57e2ac38cf4cf078014c8c", func := "corncrib/corncriblaw27.PlaceEvens", spec := "placeEvens", inPlace := ["internal/reflectlite.TypeOf"], unfollowed := true, recurses := true, apart := false }
def PlaceEvensSaid : Prop := placeEvensRow.holds Try.pinned (OpenSpec.ofChange placeEvensSpec)

/-- ITS FALSE NEIGHBOUR: 'it returns false'. Refute it at one input. -/
def placeEvensWrong : ChangeSpec := { name := "placeEvens", fn := fun _ => fun
  | [d1, d2, d3] => { results := [.lit (.bool false)], args := [d1, d2, d3] }
  | _ => none }
def PlaceEvensWrongFalsely : Prop := placeEvensRow.holds Try.pinned (OpenSpec.ofChange placeEvensWrong)

/-- 'corncriblaw27.PlaceSpread': WHATEVER THE INPUT: true; the input reads as it did. -/
def placeSpreadSpec : ChangeSpec := { name := "placeSpread", fn := fun _ => fun
  | [d1, d2, d3] => { results := [.lit (.bool true)], args := [d1, d2, d3] }
  | _ => none }
def placeSpreadRow : OpenClaim := { program := "ytigkcbnlbdiimaa", sum := "fb872c6c7a2e07ff1b2035a0a847066cf7b705f01f57e2ac38cf4cf078014c8c", func := "corncrib/corncriblaw27.PlaceSpread", spec := "placeSpread", inPlace := ["internal/reflectlite.TypeOf"], unfollowed := true, recurses := true, apart := false }
def PlaceSpreadSaid : Prop := placeSpreadRow.holds Try.pinned (OpenSpec.ofChange placeSpreadSpec)

/-- ITS FALSE NEIGHBOUR: 'it returns false'. Refute it at one input. -/
def placeSpreadWrong : ChangeSpec := { name := "placeSpread", fn := fun _ => fun
  | [d1, d2, d3] => { results := [.lit (.bool false)], args := [d1, d2, d3] }
  | _ => none }
def PlaceSpreadWrongFalsely : Prop := placeSpreadRow.holds Try.pinned (OpenSpec.ofChange placeSpreadWrong)

/- THE SECOND FORM. 'bulk': how many values and letters a reading holds, each counted each time it is reached (what is shared counts as often as it is met; a slice's spare places count too). A statement '..UptoSaid' is the law's where the arguments, and the package variables that the reading takes, are together of bulk at most 1048576: NARROWER than '..Said'. Prove '..Said' where nothing that the law and all that it calls make is longer than what came in: it says more and counts as full. Else prove '..UptoSaid'. A law counts once. -/
mutual
def uptoBulk {H : Type} : DataW H → Nat
  | .lit (.string bytes) => bytes.length + 1
  | .lit _ => 1
  | .nil => 1
  | .ptr d => uptoBulk d + 1
  | .slice elems spare => uptoBulkAll elems + uptoBulkAll spare + 1
  | .agg parts => uptoBulkAll parts + 1
  | .iface _ d => uptoBulk d + 1
  | .map entries => uptoBulkEntries entries + 1
  | .held _ => 1
def uptoBulkAll {H : Type} : List (DataW H) → Nat
  | [] => 0
  | d :: r => uptoBulk d + uptoBulkAll r
def uptoBulkEntries {H : Type} : List (Lit × DataW H) → Nat
  | [] => 0
  | x :: r => uptoBulkEntry x + uptoBulkEntries r
def uptoBulkEntry {H : Type} : Lit × DataW H → Nat
  | (.string bytes, d) => bytes.length + uptoBulk d + 1
  | (_, d) => uptoBulk d + 1
 end
def uptoSmall : (H : Type) → List (DataW H) → Bool := fun _ ds => decide (uptoBulkAll ds ≤ 1048576)
def OpenSpec.upto (s : _root_.Go.ChangeSpec) : _root_.Go.OpenSpec := { _root_.Go.OpenSpec.ofChange s with cond := some uptoSmall }

/-- 'corncriblaw19.DirsApart', WHERE WHAT IT READS IS OF BULK AT MOST 1048576: true; the input reads as it did. -/
def dirsApartUptoRow : OpenClaim := { program := "ytigkcbnlbdiimaa", sum := "fb872c6c7a2e07ff1b2035a0a847066cf7b705f01f57e2ac38cf4cf078014c8c", func := "corncrib/corncriblaw19.DirsApart", spec := "dirsApart", inPlace := ["internal/reflectlite.TypeOf"], unfollowed := true, recurses := true, apart := false, narrowed := true }
def DirsApartUptoSaid : Prop := dirsApartUptoRow.holds Try.pinned (OpenSpec.upto dirsApartSpec)

/-- 'corncriblaw19.DirsEpochs', WHERE WHAT IT READS IS OF BULK AT MOST 1048576: true; the input reads as it did. -/
def dirsEpochsUptoRow : OpenClaim := { program := "ytigkcbnlbdiimaa", sum := "fb872c6c7a2e07ff1b2035a0a847066cf7b705f01f57e2ac38cf4cf078014c8c", func := "corncrib/corncriblaw19.DirsEpochs", spec := "dirsEpochs", inPlace := ["internal/reflectlite.TypeOf"], unfollowed := true, recurses := true, apart := false, narrowed := true }
def DirsEpochsUptoSaid : Prop := dirsEpochsUptoRow.holds Try.pinned (OpenSpec.upto dirsEpochsSpec)

/-- 'corncriblaw19.DirsParts', WHERE WHAT IT READS IS OF BULK AT MOST 1048576: true; the input reads as it did. -/
def dirsPartsUptoRow : OpenClaim := { program := "ytigkcbnlbdiimaa", sum := "fb872c6c7a2e07ff1b2035a0a847066cf7b705f01f57e2ac38cf4cf078014c8c", func := "corncrib/corncriblaw19.DirsParts", spec := "dirsParts", inPlace := ["internal/reflectlite.TypeOf"], unfollowed := true, recurses := true, apart := false, narrowed := true }
def DirsPartsUptoSaid : Prop := dirsPartsUptoRow.holds Try.pinned (OpenSpec.upto dirsPartsSpec)

/-- 'corncriblaw20.TwinKeeps', WHERE WHAT IT READS IS OF BULK AT MOST 1048576: true; the input reads as it did. -/
def twinKeepsUptoRow : OpenClaim := { program := "ytigkcbnlbdiimaa", sum := "fb872c6c7a2e07ff1b2035a0a847066cf7b705f01f57e2ac38cf4cf078014c8c", func := "corncrib/corncriblaw20.TwinKeeps", spec := "twinKeeps", inPlace := ["internal/reflectlite.TypeOf"], unfollowed := true, recurses := true, apart := false, narrowed := true }
def TwinKeepsUptoSaid : Prop := twinKeepsUptoRow.holds Try.pinned (OpenSpec.upto twinKeepsSpec)

/-- 'corncriblaw20.TwinShips', WHERE WHAT IT READS IS OF BULK AT MOST 1048576: true; the input reads as it did. -/
def twinShipsUptoRow : OpenClaim := { program := "ytigkcbnlbdiimaa", sum := "fb872c6c7a2e07ff1b2035a0a847066cf7b705f01f57e2ac38cf4cf078014c8c", func := "corncrib/corncriblaw20.TwinShips", spec := "twinShips", inPlace := ["internal/reflectlite.TypeOf"], unfollowed := true, recurses := true, apart := false, narrowed := true }
def TwinShipsUptoSaid : Prop := twinShipsUptoRow.holds Try.pinned (OpenSpec.upto twinShipsSpec)

/-- 'corncriblaw20.TwinPlays', WHERE WHAT IT READS IS OF BULK AT MOST 1048576: true; the input reads as it did. -/
def twinPlaysUptoRow : OpenClaim := { program := "ytigkcbnlbdiimaa", sum := "fb872c6c7a2e07ff1b2035a0a847066cf7b705f01f57e2ac38cf4cf078014c8c", func := "corncrib/corncriblaw20.TwinPlays", spec := "twinPlays", inPlace := ["internal/reflectlite.TypeOf"], unfollowed := true, recurses := true, apart := false, narrowed := true }
def TwinPlaysUptoSaid : Prop := twinPlaysUptoRow.holds Try.pinned (OpenSpec.upto twinPlaysSpec)

/-- 'corncriblaw20.TwinAlone', WHERE WHAT IT READS IS OF BULK AT MOST 1048576: true; the input reads as it did. -/
def twinAloneUptoRow : OpenClaim := { program := "ytigkcbnlbdiimaa", sum := "fb872c6c7a2e07ff1b2035a0a847066cf7b705f01f57e2ac38cf4cf078014c8c", func := "corncrib/corncriblaw20.TwinAlone", spec := "twinAlone", inPlace := ["internal/reflectlite.TypeOf"], unfollowed := true, recurses := true, apart := false, narrowed := true }
def TwinAloneUptoSaid : Prop := twinAloneUptoRow.holds Try.pinned (OpenSpec.upto twinAloneSpec)

/-- 'corncriblaw27.PlaceOrders', WHERE WHAT IT READS IS OF BULK AT MOST 1048576: true; the input reads as it did. -/
def placeOrdersUptoRow : OpenClaim := { program := "ytigkcbnlbdiimaa", sum := "fb872c6c7a2e07ff1b2035a0a847066cf7b705f01f57e2ac38cf4cf078014c8c", func := "corncrib/corncriblaw27.PlaceOrders", spec := "placeOrders", inPlace := ["internal/reflectlite.TypeOf"], unfollowed := true, recurses := true, apart := false, narrowed := true }
def PlaceOrdersUptoSaid : Prop := placeOrdersUptoRow.holds Try.pinned (OpenSpec.upto placeOrdersSpec)

/-- 'corncriblaw27.PlaceMoves', WHERE WHAT IT READS IS OF BULK AT MOST 1048576: true; the input reads as it did. -/
def placeMovesUptoRow : OpenClaim := { program := "ytigkcbnlbdiimaa", sum := "fb872c6c7a2e07ff1b2035a0a847066cf7b705f01f57e2ac38cf4cf078014c8c", func := "corncrib/corncriblaw27.PlaceMoves", spec := "placeMoves", inPlace := ["internal/reflectlite.TypeOf"], unfollowed := true, recurses := true, apart := false, narrowed := true }
def PlaceMovesUptoSaid : Prop := placeMovesUptoRow.holds Try.pinned (OpenSpec.upto placeMovesSpec)

/-- 'corncriblaw27.PlaceEvens', WHERE WHAT IT READS IS OF BULK AT MOST 1048576: true; the input reads as it did. -/
def placeEvensUptoRow : OpenClaim := { program := "ytigkcbnlbdiimaa", sum := "fb872c6c7a2e07ff1b2035a0a847066cf7b705f01f57e2ac38cf4cf078014c8c", func := "corncrib/corncriblaw27.PlaceEvens", spec := "placeEvens", inPlace := ["internal/reflectlite.TypeOf"], unfollowed := true, recurses := true, apart := false, narrowed := true }
def PlaceEvensUptoSaid : Prop := placeEvensUptoRow.holds Try.pinned (OpenSpec.upto placeEvensSpec)

/-- 'corncriblaw27.PlaceSpread', WHERE WHAT IT READS IS OF BULK AT MOST 1048576: true; the input reads as it did. -/
def placeSpreadUptoRow : OpenClaim := { program := "ytigkcbnlbdiimaa", sum := "fb872c6c7a2e07ff1b2035a0a847066cf7b705f01f57e2ac38cf4cf078014c8c", func := "corncrib/corncriblaw27.PlaceSpread", spec := "placeSpread", inPlace := ["internal/reflectlite.TypeOf"], unfollowed := true, recurses := true, apart := false, narrowed := true }
def PlaceSpreadUptoSaid : Prop := placeSpreadUptoRow.holds Try.pinned (OpenSpec.upto placeSpreadSpec)

end Rows
end Go.Proofs.Ytigkcbnlbdiimaa
