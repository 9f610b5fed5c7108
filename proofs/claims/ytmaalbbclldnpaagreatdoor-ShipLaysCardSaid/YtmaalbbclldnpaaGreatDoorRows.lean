/-
  NARROWER THAN 'FOR EVERY INPUT', by the rows' own cells (each row's printed sentence says how): ShipTakes: laid · ShipPages: laid · ShipBad: laid · ShipLays: laid · ShipAll: laid · ShipBoth: laid.
  DERIVED. THE GIVEN ROWS OF THIS SEAT. 6 by the template 'for every input the law returns true; each argument reads behind the call as it read before'; 0 by the template 'total and deterministic' (their statements: YtmaalbbclldnpaaGreatDoorTotals.lean).
  GIVEN WITH THE SEED: the statements are not yours to turn. If you find one false, say at which input.
  Laid BY PROGRAM, IN A SANDBOX (cutbox-rows.mjs): the forced cells as the released guide's own fill.sh prints them over the translation 0710b96efd258ec8… (all of the seat's roots in one cut). By AI agents, Wed Nov 11 2026. No macro, syntax, notation, axiom, sorry.
-/
import Derived.Test.YtmaalbbclldnpaaGreatDoorChecked
import GoSem.Claim
import GoSem.ClaimJoined
import GoSem.ClaimMapViews
import Derived.JoinedTies
import Derived.KernelRfl
namespace Go.Proofs.YtmaalbbclldnpaaGreatDoor
/- THE CELL 'sum', in the pinned program and in every row, IS THE sha256 OF THE DUMP (.gsa) THAT YtmaalbbclldnpaaGreatDoorProg.lean LOADS. Nothing in Lean hashes anything: it is a label: what it is worth is what the hold of that sum in a sandbox is worth. -/
noncomputable def Tryz.pinned : Pinned := { name := "ytmaalbbclldnpaagreatdoor", sum := "0710b96efd258ec88dd3acf791aeea35b3d6a4db4660eec97af2ff7560c4784e", checked := Tryz.checked }
namespace Rows
def none {H : Type} : Left H := { results := [], args := [] }

/- WHAT THE LISTED PACKAGE-LEVEL VARIABLES READ AS WHEN THE CALL BEGINS. Each datum BY PROGRAM (the guide's laid-datum.mjs) off the statement by which the dump's own 'gosem.cut.vars' lays the variable. In a bare row this is a premise. The card (YtmaalbbclldnpaaGreatDoorCards.lean) ties it to the program's text. -/
def laid_math_bits_deBruijn32tab {H : Type} : DataW H := .agg [.lit (.int .u8 0), .lit (.int .u8 1), .lit (.int .u8 28), .lit (.int .u8 2), .lit (.int .u8 29), .lit (.int .u8 14), .lit (.int .u8 24), .lit (.int .u8 3), .lit (.int .u8 30), .lit (.int .u8 22), .lit (.int .u8 20), .lit (.int .u8 15), .lit (.int .u8 25), .lit (.int .u8 17), .lit (.int .u8 4), .lit (.int .u8 8), .lit (.int .u8 31), .lit (.int .u8 27), .lit (.int .u8 13), .lit (.int .u8 23), .lit (.int .u8 21), .lit (.int .u8 19), .lit (.int .u8 16), .lit (.int .u8 7), .lit (.int .u8 26), .lit (.int .u8 12), .lit (.int .u8 18), .lit (.int .u8 6), .lit (.int .u8 11), .lit (.int .u8 5), .lit (.int .u8 10), .lit (.int .u8 9)]
def laid_math_bits_deBruijn64tab {H : Type} : DataW H := .agg [.lit (.int .u8 0), .lit (.int .u8 1), .lit (.int .u8 56), .lit (.int .u8 2), .lit (.int .u8 57), .lit (.int .u8 49), .lit (.int .u8 28), .lit (.int .u8 3), .lit (.int .u8 61), .lit (.int .u8 58), .lit (.int .u8 42), .lit (.int .u8 50), .lit (.int .u8 38), .lit (.int .u8 29), .lit (.int .u8 17), .lit (.int .u8 4), .lit (.int .u8 62), .lit (.int .u8 47), .lit (.int .u8 59), .lit (.int .u8 36), .lit (.int .u8 45), .lit (.int .u8 43), .lit (.int .u8 51), .lit (.int .u8 22), .lit (.int .u8 53), .lit (.int .u8 39), .lit (.int .u8 33), .lit (.int .u8 30), .lit (.int .u8 24), .lit (.int .u8 18), .lit (.int .u8 12), .lit (.int .u8 5), .lit (.int .u8 63), .lit (.int .u8 55), .lit (.int .u8 48), .lit (.int .u8 27), .lit (.int .u8 60), .lit (.int .u8 41), .lit (.int .u8 37), .lit (.int .u8 16), .lit (.int .u8 46), .lit (.int .u8 35), .lit (.int .u8 44), .lit (.int .u8 21), .lit (.int .u8 52), .lit (.int .u8 32), .lit (.int .u8 23), .lit (.int .u8 11), .lit (.int .u8 54), .lit (.int .u8 26), .lit (.int .u8 40), .lit (.int .u8 15), .lit (.int .u8 34), .lit (.int .u8 20), .lit (.int .u8 31), .lit (.int .u8 10), .lit (.int .u8 25), .lit (.int .u8 14), .lit (.int .u8 19), .lit (.int .u8 9), .lit (.int .u8 13), .lit (.int .u8 8), .lit (.int .u8 7), .lit (.int .u8 6)]
def laid_internal_strconv_uint64pow10 {H : Type} : DataW H := .agg [.lit (.int .u64 1), .lit (.int .u64 10), .lit (.int .u64 100), .lit (.int .u64 1000), .lit (.int .u64 10000), .lit (.int .u64 100000), .lit (.int .u64 1000000), .lit (.int .u64 10000000), .lit (.int .u64 100000000), .lit (.int .u64 1000000000), .lit (.int .u64 10000000000), .lit (.int .u64 100000000000), .lit (.int .u64 1000000000000), .lit (.int .u64 10000000000000), .lit (.int .u64 100000000000000), .lit (.int .u64 1000000000000000), .lit (.int .u64 10000000000000000), .lit (.int .u64 100000000000000000), .lit (.int .u64 1000000000000000000), .lit (.int .u64 10000000000000000000)]

/-- 'corncriblaw13.ShipTakes': WHATEVER THE INPUT: true; the input reads as it did. -/
def shipTakesSpec : ChangeSpec := { name := "shipTakes", fn := fun _ => fun
  | [d1, d2, d3] => { results := [.lit (.bool true)], args := [d1, d2, d3] }
  | _ => none }
def shipTakesRow : OpenClaim := { program := "ytmaalbbclldnpaagreatdoor", sum := "0710b96efd258ec88dd3acf791aeea35b3d6a4db4660eec97af2ff7560c4784e", func := "corncrib/corncriblaw13.ShipTakes", spec := "shipTakes", inPlace := ["maps.clone", "slices.overlaps[corncrib/api.Pos]", "internal/reflectlite.TypeOf"], unfollowed := true, recurses := true, named := ["internal/strconv.uint64pow10", "math/bits.deBruijn32tab", "math/bits.deBruijn64tab"], apart := false, laid := [("math/bits.deBruijn32tab", laid_math_bits_deBruijn32tab), ("math/bits.deBruijn64tab", laid_math_bits_deBruijn64tab), ("internal/strconv.uint64pow10", laid_internal_strconv_uint64pow10)] }
def ShipTakesSaid : Prop := shipTakesRow.holds Tryz.pinned (OpenSpec.ofChange shipTakesSpec)

/-- ITS FALSE NEIGHBOUR: 'it returns false'. Refute it at one input. -/
def shipTakesWrong : ChangeSpec := { name := "shipTakes", fn := fun _ => fun
  | [d1, d2, d3] => { results := [.lit (.bool false)], args := [d1, d2, d3] }
  | _ => none }
def ShipTakesWrongFalsely : Prop := shipTakesRow.holds Tryz.pinned (OpenSpec.ofChange shipTakesWrong)

/-- 'corncriblaw13.ShipPages': WHATEVER THE INPUT: true; the input reads as it did. -/
def shipPagesSpec : ChangeSpec := { name := "shipPages", fn := fun _ => fun
  | [d1, d2, d3] => { results := [.lit (.bool true)], args := [d1, d2, d3] }
  | _ => none }
def shipPagesRow : OpenClaim := { program := "ytmaalbbclldnpaagreatdoor", sum := "0710b96efd258ec88dd3acf791aeea35b3d6a4db4660eec97af2ff7560c4784e", func := "corncrib/corncriblaw13.ShipPages", spec := "shipPages", inPlace := ["maps.clone", "slices.overlaps[corncrib/api.Pos]", "internal/reflectlite.TypeOf"], unfollowed := true, recurses := true, named := ["internal/strconv.uint64pow10", "math/bits.deBruijn32tab", "math/bits.deBruijn64tab"], apart := false, laid := [("math/bits.deBruijn32tab", laid_math_bits_deBruijn32tab), ("math/bits.deBruijn64tab", laid_math_bits_deBruijn64tab), ("internal/strconv.uint64pow10", laid_internal_strconv_uint64pow10)] }
def ShipPagesSaid : Prop := shipPagesRow.holds Tryz.pinned (OpenSpec.ofChange shipPagesSpec)

/-- ITS FALSE NEIGHBOUR: 'it returns false'. Refute it at one input. -/
def shipPagesWrong : ChangeSpec := { name := "shipPages", fn := fun _ => fun
  | [d1, d2, d3] => { results := [.lit (.bool false)], args := [d1, d2, d3] }
  | _ => none }
def ShipPagesWrongFalsely : Prop := shipPagesRow.holds Tryz.pinned (OpenSpec.ofChange shipPagesWrong)

/-- 'corncriblaw13.ShipBad': WHATEVER THE INPUT: true; the input reads as it did. -/
def shipBadSpec : ChangeSpec := { name := "shipBad", fn := fun _ => fun
  | [d1, d2, d3] => { results := [.lit (.bool true)], args := [d1, d2, d3] }
  | _ => none }
def shipBadRow : OpenClaim := { program := "ytmaalbbclldnpaagreatdoor", sum := "0710b96efd258ec88dd3acf791aeea35b3d6a4db4660eec97af2ff7560c4784e", func := "corncrib/corncriblaw13.ShipBad", spec := "shipBad", inPlace := ["maps.clone", "slices.overlaps[corncrib/api.Pos]", "internal/reflectlite.TypeOf"], unfollowed := true, recurses := true, named := ["internal/strconv.uint64pow10", "math/bits.deBruijn32tab", "math/bits.deBruijn64tab"], apart := false, laid := [("math/bits.deBruijn32tab", laid_math_bits_deBruijn32tab), ("math/bits.deBruijn64tab", laid_math_bits_deBruijn64tab), ("internal/strconv.uint64pow10", laid_internal_strconv_uint64pow10)] }
def ShipBadSaid : Prop := shipBadRow.holds Tryz.pinned (OpenSpec.ofChange shipBadSpec)

/-- ITS FALSE NEIGHBOUR: 'it returns false'. Refute it at one input. -/
def shipBadWrong : ChangeSpec := { name := "shipBad", fn := fun _ => fun
  | [d1, d2, d3] => { results := [.lit (.bool false)], args := [d1, d2, d3] }
  | _ => none }
def ShipBadWrongFalsely : Prop := shipBadRow.holds Tryz.pinned (OpenSpec.ofChange shipBadWrong)

/-- 'corncriblaw13.ShipLays': WHATEVER THE INPUT: true; the input reads as it did. -/
def shipLaysSpec : ChangeSpec := { name := "shipLays", fn := fun _ => fun
  | [d1, d2, d3] => { results := [.lit (.bool true)], args := [d1, d2, d3] }
  | _ => none }
def shipLaysRow : OpenClaim := { program := "ytmaalbbclldnpaagreatdoor", sum := "0710b96efd258ec88dd3acf791aeea35b3d6a4db4660eec97af2ff7560c4784e", func := "corncrib/corncriblaw13.ShipLays", spec := "shipLays", inPlace := ["maps.clone", "slices.overlaps[corncrib/api.Pos]", "internal/reflectlite.TypeOf"], unfollowed := true, recurses := true, named := ["internal/strconv.uint64pow10", "math/bits.deBruijn32tab", "math/bits.deBruijn64tab"], apart := false, laid := [("math/bits.deBruijn32tab", laid_math_bits_deBruijn32tab), ("math/bits.deBruijn64tab", laid_math_bits_deBruijn64tab), ("internal/strconv.uint64pow10", laid_internal_strconv_uint64pow10)] }
def ShipLaysSaid : Prop := shipLaysRow.holds Tryz.pinned (OpenSpec.ofChange shipLaysSpec)

/-- ITS FALSE NEIGHBOUR: 'it returns false'. Refute it at one input. -/
def shipLaysWrong : ChangeSpec := { name := "shipLays", fn := fun _ => fun
  | [d1, d2, d3] => { results := [.lit (.bool false)], args := [d1, d2, d3] }
  | _ => none }
def ShipLaysWrongFalsely : Prop := shipLaysRow.holds Tryz.pinned (OpenSpec.ofChange shipLaysWrong)

/-- 'corncriblaw13.ShipAll': WHATEVER THE INPUT: true; the input reads as it did. -/
def shipAllSpec : ChangeSpec := { name := "shipAll", fn := fun _ => fun
  | [d1, d2] => { results := [.lit (.bool true)], args := [d1, d2] }
  | _ => none }
def shipAllRow : OpenClaim := { program := "ytmaalbbclldnpaagreatdoor", sum := "0710b96efd258ec88dd3acf791aeea35b3d6a4db4660eec97af2ff7560c4784e", func := "corncrib/corncriblaw13.ShipAll", spec := "shipAll", inPlace := ["maps.clone", "slices.overlaps[corncrib/api.Pos]", "internal/reflectlite.TypeOf"], unfollowed := true, recurses := true, named := ["internal/strconv.uint64pow10", "math/bits.deBruijn32tab", "math/bits.deBruijn64tab"], apart := false, laid := [("math/bits.deBruijn32tab", laid_math_bits_deBruijn32tab), ("math/bits.deBruijn64tab", laid_math_bits_deBruijn64tab), ("internal/strconv.uint64pow10", laid_internal_strconv_uint64pow10)] }
def ShipAllSaid : Prop := shipAllRow.holds Tryz.pinned (OpenSpec.ofChange shipAllSpec)

/-- ITS FALSE NEIGHBOUR: 'it returns false'. Refute it at one input. -/
def shipAllWrong : ChangeSpec := { name := "shipAll", fn := fun _ => fun
  | [d1, d2] => { results := [.lit (.bool false)], args := [d1, d2] }
  | _ => none }
def ShipAllWrongFalsely : Prop := shipAllRow.holds Tryz.pinned (OpenSpec.ofChange shipAllWrong)

/-- 'corncriblaw13.ShipBoth': WHATEVER THE INPUT: true; the input reads as it did. -/
def shipBothSpec : ChangeSpec := { name := "shipBoth", fn := fun _ => fun
  | [d1, d2] => { results := [.lit (.bool true)], args := [d1, d2] }
  | _ => none }
def shipBothRow : OpenClaim := { program := "ytmaalbbclldnpaagreatdoor", sum := "0710b96efd258ec88dd3acf791aeea35b3d6a4db4660eec97af2ff7560c4784e", func := "corncrib/corncriblaw13.ShipBoth", spec := "shipBoth", inPlace := ["maps.clone", "slices.overlaps[corncrib/api.Pos]", "internal/reflectlite.TypeOf"], unfollowed := true, recurses := true, named := ["internal/strconv.uint64pow10", "math/bits.deBruijn32tab", "math/bits.deBruijn64tab"], apart := false, laid := [("math/bits.deBruijn32tab", laid_math_bits_deBruijn32tab), ("math/bits.deBruijn64tab", laid_math_bits_deBruijn64tab), ("internal/strconv.uint64pow10", laid_internal_strconv_uint64pow10)] }
def ShipBothSaid : Prop := shipBothRow.holds Tryz.pinned (OpenSpec.ofChange shipBothSpec)

/-- ITS FALSE NEIGHBOUR: 'it returns false'. Refute it at one input. -/
def shipBothWrong : ChangeSpec := { name := "shipBoth", fn := fun _ => fun
  | [d1, d2] => { results := [.lit (.bool false)], args := [d1, d2] }
  | _ => none }
def ShipBothWrongFalsely : Prop := shipBothRow.holds Tryz.pinned (OpenSpec.ofChange shipBothWrong)

/- THE SECOND FORM. 'bulk': how many values and letters a reading holds, each counted each time it is reached (what is shared counts as often as it is met; a slice's spare places count too). A statement '..UptoSaid' is the law's where the arguments, and the package variables that the reading takes, are together of bulk at most 1048576: NARROWER than '..Said'. Prove '..Said' where nothing that the law and all that it calls make is longer than what came in: it says more and counts as full. Else prove '..UptoSaid'. A law counts once. -/
mutual
def uptoBulk {H : Type} : DataW H → Nat
  | .lit (.string bytes) => bytes.length + 1
  | .lit _ => 1
  | .nil => 1
  | .ptr d => uptoBulk d + 1
  | .slice elems spare => uptoBulkAll elems + uptoBulkAll spare + 1
  | .agg parts => uptoBulkAll parts + 1
  | .iface _ d => uptoBulk d + 1
  | .map entries => uptoBulkEntries entries + 1
  | .held _ => 1
def uptoBulkAll {H : Type} : List (DataW H) → Nat
  | [] => 0
  | d :: r => uptoBulk d + uptoBulkAll r
def uptoBulkEntries {H : Type} : List (Lit × DataW H) → Nat
  | [] => 0
  | x :: r => uptoBulkEntry x + uptoBulkEntries r
def uptoBulkEntry {H : Type} : Lit × DataW H → Nat
  | (.string bytes, d) => bytes.length + uptoBulk d + 1
  | (_, d) => uptoBulk d + 1
 end
def uptoSmall : (H : Type) → List (DataW H) → Bool := fun _ ds => decide (uptoBulkAll ds ≤ 1048576)
def OpenSpec.upto (s : _root_.Go.ChangeSpec) : _root_.Go.OpenSpec := { _root_.Go.OpenSpec.ofChange s with cond := some uptoSmall }

/-- 'corncriblaw13.ShipTakes', WHERE WHAT IT READS IS OF BULK AT MOST 1048576: true; the input reads as it did. -/
def shipTakesUptoRow : OpenClaim := { program := "ytmaalbbclldnpaagreatdoor", sum := "0710b96efd258ec88dd3acf791aeea35b3d6a4db4660eec97af2ff7560c4784e", func := "corncrib/corncriblaw13.ShipTakes", spec := "shipTakes", inPlace := ["maps.clone", "slices.overlaps[corncrib/api.Pos]", "internal/reflectlite.TypeOf"], unfollowed := true, recurses := true, named := ["internal/strconv.uint64pow10", "math/bits.deBruijn32tab", "math/bits.deBruijn64tab"], apart := false, laid := [("math/bits.deBruijn32tab", laid_math_bits_deBruijn32tab), ("math/bits.deBruijn64tab", laid_math_bits_deBruijn64tab), ("internal/strconv.uint64pow10", laid_internal_strconv_uint64pow10)], narrowed := true }
def ShipTakesUptoSaid : Prop := shipTakesUptoRow.holds Tryz.pinned (OpenSpec.upto shipTakesSpec)

/-- 'corncriblaw13.ShipPages', WHERE WHAT IT READS IS OF BULK AT MOST 1048576: true; the input reads as it did. -/
def shipPagesUptoRow : OpenClaim := { program := "ytmaalbbclldnpaagreatdoor", sum := "0710b96efd258ec88dd3acf791aeea35b3d6a4db4660eec97af2ff7560c4784e", func := "corncrib/corncriblaw13.ShipPages", spec := "shipPages", inPlace := ["maps.clone", "slices.overlaps[corncrib/api.Pos]", "internal/reflectlite.TypeOf"], unfollowed := true, recurses := true, named := ["internal/strconv.uint64pow10", "math/bits.deBruijn32tab", "math/bits.deBruijn64tab"], apart := false, laid := [("math/bits.deBruijn32tab", laid_math_bits_deBruijn32tab), ("math/bits.deBruijn64tab", laid_math_bits_deBruijn64tab), ("internal/strconv.uint64pow10", laid_internal_strconv_uint64pow10)], narrowed := true }
def ShipPagesUptoSaid : Prop := shipPagesUptoRow.holds Tryz.pinned (OpenSpec.upto shipPagesSpec)

/-- 'corncriblaw13.ShipBad', WHERE WHAT IT READS IS OF BULK AT MOST 1048576: true; the input reads as it did. -/
def shipBadUptoRow : OpenClaim := { program := "ytmaalbbclldnpaagreatdoor", sum := "0710b96efd258ec88dd3acf791aeea35b3d6a4db4660eec97af2ff7560c4784e", func := "corncrib/corncriblaw13.ShipBad", spec := "shipBad", inPlace := ["maps.clone", "slices.overlaps[corncrib/api.Pos]", "internal/reflectlite.TypeOf"], unfollowed := true, recurses := true, named := ["internal/strconv.uint64pow10", "math/bits.deBruijn32tab", "math/bits.deBruijn64tab"], apart := false, laid := [("math/bits.deBruijn32tab", laid_math_bits_deBruijn32tab), ("math/bits.deBruijn64tab", laid_math_bits_deBruijn64tab), ("internal/strconv.uint64pow10", laid_internal_strconv_uint64pow10)], narrowed := true }
def ShipBadUptoSaid : Prop := shipBadUptoRow.holds Tryz.pinned (OpenSpec.upto shipBadSpec)

/-- 'corncriblaw13.ShipLays', WHERE WHAT IT READS IS OF BULK AT MOST 1048576: true; the input reads as it did. -/
def shipLaysUptoRow : OpenClaim := { program := "ytmaalbbclldnpaagreatdoor", sum := "0710b96efd258ec88dd3acf791aeea35b3d6a4db4660eec97af2ff7560c4784e", func := "corncrib/corncriblaw13.ShipLays", spec := "shipLays", inPlace := ["maps.clone", "slices.overlaps[corncrib/api.Pos]", "internal/reflectlite.TypeOf"], unfollowed := true, recurses := true, named := ["internal/strconv.uint64pow10", "math/bits.deBruijn32tab", "math/bits.deBruijn64tab"], apart := false, laid := [("math/bits.deBruijn32tab", laid_math_bits_deBruijn32tab), ("math/bits.deBruijn64tab", laid_math_bits_deBruijn64tab), ("internal/strconv.uint64pow10", laid_internal_strconv_uint64pow10)], narrowed := true }
def ShipLaysUptoSaid : Prop := shipLaysUptoRow.holds Tryz.pinned (OpenSpec.upto shipLaysSpec)

/-- 'corncriblaw13.ShipAll', WHERE WHAT IT READS IS OF BULK AT MOST 1048576: true; the input reads as it did. -/
def shipAllUptoRow : OpenClaim := { program := "ytmaalbbclldnpaagreatdoor", sum := "0710b96efd258ec88dd3acf791aeea35b3d6a4db4660eec97af2ff7560c4784e", func := "corncrib/corncriblaw13.ShipAll", spec := "shipAll", inPlace := ["maps.clone", "slices.overlaps[corncrib/api.Pos]", "internal/reflectlite.TypeOf"], unfollowed := true, recurses := true, named := ["internal/strconv.uint64pow10", "math/bits.deBruijn32tab", "math/bits.deBruijn64tab"], apart := false, laid := [("math/bits.deBruijn32tab", laid_math_bits_deBruijn32tab), ("math/bits.deBruijn64tab", laid_math_bits_deBruijn64tab), ("internal/strconv.uint64pow10", laid_internal_strconv_uint64pow10)], narrowed := true }
def ShipAllUptoSaid : Prop := shipAllUptoRow.holds Tryz.pinned (OpenSpec.upto shipAllSpec)

/-- 'corncriblaw13.ShipBoth', WHERE WHAT IT READS IS OF BULK AT MOST 1048576: true; the input reads as it did. -/
def shipBothUptoRow : OpenClaim := { program := "ytmaalbbclldnpaagreatdoor", sum := "0710b96efd258ec88dd3acf791aeea35b3d6a4db4660eec97af2ff7560c4784e", func := "corncrib/corncriblaw13.ShipBoth", spec := "shipBoth", inPlace := ["maps.clone", "slices.overlaps[corncrib/api.Pos]", "internal/reflectlite.TypeOf"], unfollowed := true, recurses := true, named := ["internal/strconv.uint64pow10", "math/bits.deBruijn32tab", "math/bits.deBruijn64tab"], apart := false, laid := [("math/bits.deBruijn32tab", laid_math_bits_deBruijn32tab), ("math/bits.deBruijn64tab", laid_math_bits_deBruijn64tab), ("internal/strconv.uint64pow10", laid_internal_strconv_uint64pow10)], narrowed := true }
def ShipBothUptoSaid : Prop := shipBothUptoRow.holds Tryz.pinned (OpenSpec.upto shipBothSpec)

end Rows
end Go.Proofs.YtmaalbbclldnpaaGreatDoor
