/-
  NARROWER THAN 'FOR EVERY INPUT', by the rows' own cells (each row's printed sentence says how): VolPlays: laid · CkptAgain: laid · CkptSteps: laid · CkptWrites: laid · CkptCrashes: laid · CkptHelps: laid.
  DERIVED. THE GIVEN ROWS OF THIS SEAT. 6 by the template 'for every input the law returns true; each argument reads behind the call as it read before'; 0 by the template 'total and deterministic' (their statements: YtfpjfoajonbndaaGreatDoorTotals.lean).
  GIVEN WITH THE SEED: the statements are not yours to turn. If you find one false, say at which input.
  Laid BY PROGRAM, IN A SANDBOX (cutbox-rows.mjs): the forced cells as the released guide's own fill.sh prints them over the translation 1a66126013211702… (all of the seat's roots in one cut). By AI agents, Wed Nov 11 2026. No macro, syntax, notation, axiom, sorry.
-/
import Derived.Test.YtfpjfoajonbndaaGreatDoorChecked
import GoSem.Claim
import GoSem.ClaimJoined
import GoSem.ClaimMapViews
import Derived.JoinedTies
import Derived.KernelRfl
namespace Go.Proofs.YtfpjfoajonbndaaGreatDoor
/- THE CELL 'sum', in the pinned program and in every row, IS THE sha256 OF THE DUMP (.gsa) THAT YtfpjfoajonbndaaGreatDoorProg.lean LOADS. Nothing in Lean hashes anything: it is a label: what it is worth is what the hold of that sum in a sandbox is worth. -/
noncomputable def Tryz.pinned : Pinned := { name := "ytfpjfoajonbndaagreatdoor", sum := "1a661260132117026faef5d8af3b2b2a592645bc286e589d1f186fc4b29224f6", checked := Tryz.checked }
namespace Rows
def none {H : Type} : Left H := { results := [], args := [] }

/- WHAT THE LISTED PACKAGE-LEVEL VARIABLES READ AS WHEN THE CALL BEGINS. Each datum BY PROGRAM (the guide's laid-datum.mjs) off the statement by which the dump's own 'gosem.cut.vars' lays the variable. In a bare row this is a premise. The card (YtfpjfoajonbndaaGreatDoorCards.lean) ties it to the program's text. -/
def laid_math_bits_deBruijn32tab {H : Type} : DataW H := .agg [.lit (.int .u8 0), .lit (.int .u8 1), .lit (.int .u8 28), .lit (.int .u8 2), .lit (.int .u8 29), .lit (.int .u8 14), .lit (.int .u8 24), .lit (.int .u8 3), .lit (.int .u8 30), .lit (.int .u8 22), .lit (.int .u8 20), .lit (.int .u8 15), .lit (.int .u8 25), .lit (.int .u8 17), .lit (.int .u8 4), .lit (.int .u8 8), .lit (.int .u8 31), .lit (.int .u8 27), .lit (.int .u8 13), .lit (.int .u8 23), .lit (.int .u8 21), .lit (.int .u8 19), .lit (.int .u8 16), .lit (.int .u8 7), .lit (.int .u8 26), .lit (.int .u8 12), .lit (.int .u8 18), .lit (.int .u8 6), .lit (.int .u8 11), .lit (.int .u8 5), .lit (.int .u8 10), .lit (.int .u8 9)]
def laid_math_bits_deBruijn64tab {H : Type} : DataW H := .agg [.lit (.int .u8 0), .lit (.int .u8 1), .lit (.int .u8 56), .lit (.int .u8 2), .lit (.int .u8 57), .lit (.int .u8 49), .lit (.int .u8 28), .lit (.int .u8 3), .lit (.int .u8 61), .lit (.int .u8 58), .lit (.int .u8 42), .lit (.int .u8 50), .lit (.int .u8 38), .lit (.int .u8 29), .lit (.int .u8 17), .lit (.int .u8 4), .lit (.int .u8 62), .lit (.int .u8 47), .lit (.int .u8 59), .lit (.int .u8 36), .lit (.int .u8 45), .lit (.int .u8 43), .lit (.int .u8 51), .lit (.int .u8 22), .lit (.int .u8 53), .lit (.int .u8 39), .lit (.int .u8 33), .lit (.int .u8 30), .lit (.int .u8 24), .lit (.int .u8 18), .lit (.int .u8 12), .lit (.int .u8 5), .lit (.int .u8 63), .lit (.int .u8 55), .lit (.int .u8 48), .lit (.int .u8 27), .lit (.int .u8 60), .lit (.int .u8 41), .lit (.int .u8 37), .lit (.int .u8 16), .lit (.int .u8 46), .lit (.int .u8 35), .lit (.int .u8 44), .lit (.int .u8 21), .lit (.int .u8 52), .lit (.int .u8 32), .lit (.int .u8 23), .lit (.int .u8 11), .lit (.int .u8 54), .lit (.int .u8 26), .lit (.int .u8 40), .lit (.int .u8 15), .lit (.int .u8 34), .lit (.int .u8 20), .lit (.int .u8 31), .lit (.int .u8 10), .lit (.int .u8 25), .lit (.int .u8 14), .lit (.int .u8 19), .lit (.int .u8 9), .lit (.int .u8 13), .lit (.int .u8 8), .lit (.int .u8 7), .lit (.int .u8 6)]
def laid_internal_strconv_uint64pow10 {H : Type} : DataW H := .agg [.lit (.int .u64 1), .lit (.int .u64 10), .lit (.int .u64 100), .lit (.int .u64 1000), .lit (.int .u64 10000), .lit (.int .u64 100000), .lit (.int .u64 1000000), .lit (.int .u64 10000000), .lit (.int .u64 100000000), .lit (.int .u64 1000000000), .lit (.int .u64 10000000000), .lit (.int .u64 100000000000), .lit (.int .u64 1000000000000), .lit (.int .u64 10000000000000), .lit (.int .u64 100000000000000), .lit (.int .u64 1000000000000000), .lit (.int .u64 10000000000000000), .lit (.int .u64 100000000000000000), .lit (.int .u64 1000000000000000000), .lit (.int .u64 10000000000000000000)]

/-- 'corncriblaw09.VolPlays': WHATEVER THE INPUT: true; the input reads as it did. -/
def volPlaysSpec : ChangeSpec := { name := "volPlays", fn := fun _ => fun
  | [d1, d2, d3, d4, d5] => { results := [.lit (.bool true)], args := [d1, d2, d3, d4, d5] }
  | _ => none }
def volPlaysRow : OpenClaim := { program := "ytfpjfoajonbndaagreatdoor", sum := "1a661260132117026faef5d8af3b2b2a592645bc286e589d1f186fc4b29224f6", func := "corncrib/corncriblaw09.VolPlays", spec := "volPlays", inPlace := ["maps.clone", "slices.overlaps[corncrib/api.Pos]", "internal/reflectlite.TypeOf", "internal/bytealg.IndexByteString", "internal/bytealg.IndexString"], unfollowed := true, recurses := true, named := ["internal/strconv.uint64pow10", "math/bits.deBruijn32tab", "math/bits.deBruijn64tab", "internal/bytealg.MaxLen"], apart := false, laid := [("math/bits.deBruijn32tab", laid_math_bits_deBruijn32tab), ("math/bits.deBruijn64tab", laid_math_bits_deBruijn64tab), ("internal/strconv.uint64pow10", laid_internal_strconv_uint64pow10)] }
def VolPlaysSaid : Prop := volPlaysRow.holds Tryz.pinned (OpenSpec.ofChange volPlaysSpec)

/-- ITS FALSE NEIGHBOUR: 'it returns false'. Refute it at one input. -/
def volPlaysWrong : ChangeSpec := { name := "volPlays", fn := fun _ => fun
  | [d1, d2, d3, d4, d5] => { results := [.lit (.bool false)], args := [d1, d2, d3, d4, d5] }
  | _ => none }
def VolPlaysWrongFalsely : Prop := volPlaysRow.holds Tryz.pinned (OpenSpec.ofChange volPlaysWrong)

/-- 'corncriblaw10.CkptAgain': WHATEVER THE INPUT: true; the input reads as it did. -/
def ckptAgainSpec : ChangeSpec := { name := "ckptAgain", fn := fun _ => fun
  | [d1, d2] => { results := [.lit (.bool true)], args := [d1, d2] }
  | _ => none }
def ckptAgainRow : OpenClaim := { program := "ytfpjfoajonbndaagreatdoor", sum := "1a661260132117026faef5d8af3b2b2a592645bc286e589d1f186fc4b29224f6", func := "corncrib/corncriblaw10.CkptAgain", spec := "ckptAgain", inPlace := ["maps.clone", "slices.overlaps[corncrib/api.Pos]", "internal/reflectlite.TypeOf", "internal/bytealg.IndexByteString", "internal/bytealg.IndexString"], unfollowed := true, recurses := true, named := ["internal/strconv.uint64pow10", "math/bits.deBruijn32tab", "math/bits.deBruijn64tab", "internal/bytealg.MaxLen"], apart := false, laid := [("math/bits.deBruijn32tab", laid_math_bits_deBruijn32tab), ("math/bits.deBruijn64tab", laid_math_bits_deBruijn64tab), ("internal/strconv.uint64pow10", laid_internal_strconv_uint64pow10)] }
def CkptAgainSaid : Prop := ckptAgainRow.holds Tryz.pinned (OpenSpec.ofChange ckptAgainSpec)

/-- ITS FALSE NEIGHBOUR: 'it returns false'. Refute it at one input. -/
def ckptAgainWrong : ChangeSpec := { name := "ckptAgain", fn := fun _ => fun
  | [d1, d2] => { results := [.lit (.bool false)], args := [d1, d2] }
  | _ => none }
def CkptAgainWrongFalsely : Prop := ckptAgainRow.holds Tryz.pinned (OpenSpec.ofChange ckptAgainWrong)

/-- 'corncriblaw10.CkptSteps': WHATEVER THE INPUT: true; the input reads as it did. -/
def ckptStepsSpec : ChangeSpec := { name := "ckptSteps", fn := fun _ => fun
  | [d1, d2] => { results := [.lit (.bool true)], args := [d1, d2] }
  | _ => none }
def ckptStepsRow : OpenClaim := { program := "ytfpjfoajonbndaagreatdoor", sum := "1a661260132117026faef5d8af3b2b2a592645bc286e589d1f186fc4b29224f6", func := "corncrib/corncriblaw10.CkptSteps", spec := "ckptSteps", inPlace := ["maps.clone", "slices.overlaps[corncrib/api.Pos]", "internal/reflectlite.TypeOf", "internal/bytealg.IndexByteString", "internal/bytealg.IndexString"], unfollowed := true, recurses := true, named := ["internal/strconv.uint64pow10", "math/bits.deBruijn32tab", "math/bits.deBruijn64tab", "internal/bytealg.MaxLen"], apart := false, laid := [("math/bits.deBruijn32tab", laid_math_bits_deBruijn32tab), ("math/bits.deBruijn64tab", laid_math_bits_deBruijn64tab), ("internal/strconv.uint64pow10", laid_internal_strconv_uint64pow10)] }
def CkptStepsSaid : Prop := ckptStepsRow.holds Tryz.pinned (OpenSpec.ofChange ckptStepsSpec)

/-- ITS FALSE NEIGHBOUR: 'it returns false'. Refute it at one input. -/
def ckptStepsWrong : ChangeSpec := { name := "ckptSteps", fn := fun _ => fun
  | [d1, d2] => { results := [.lit (.bool false)], args := [d1, d2] }
  | _ => none }
def CkptStepsWrongFalsely : Prop := ckptStepsRow.holds Tryz.pinned (OpenSpec.ofChange ckptStepsWrong)

/-- 'corncriblaw10.CkptWrites': WHATEVER THE INPUT: true; the input reads as it did. -/
def ckptWritesSpec : ChangeSpec := { name := "ckptWrites", fn := fun _ => fun
  | [d1, d2, d3] => { results := [.lit (.bool true)], args := [d1, d2, d3] }
  | _ => none }
def ckptWritesRow : OpenClaim := { program := "ytfpjfoajonbndaagreatdoor", sum := "1a661260132117026faef5d8af3b2b2a592645bc286e589d1f186fc4b29224f6", func := "corncrib/corncriblaw10.CkptWrites", spec := "ckptWrites", inPlace := ["maps.clone", "slices.overlaps[corncrib/api.Pos]", "internal/reflectlite.TypeOf", "internal/bytealg.IndexByteString", "internal/bytealg.IndexString"], unfollowed := true, recurses := true, named := ["internal/strconv.uint64pow10", "math/bits.deBruijn32tab", "math/bits.deBruijn64tab", "internal/bytealg.MaxLen"], apart := false, laid := [("math/bits.deBruijn32tab", laid_math_bits_deBruijn32tab), ("math/bits.deBruijn64tab", laid_math_bits_deBruijn64tab), ("internal/strconv.uint64pow10", laid_internal_strconv_uint64pow10)] }
def CkptWritesSaid : Prop := ckptWritesRow.holds Tryz.pinned (OpenSpec.ofChange ckptWritesSpec)

/-- ITS FALSE NEIGHBOUR: 'it returns false'. Refute it at one input. -/
def ckptWritesWrong : ChangeSpec := { name := "ckptWrites", fn := fun _ => fun
  | [d1, d2, d3] => { results := [.lit (.bool false)], args := [d1, d2, d3] }
  | _ => none }
def CkptWritesWrongFalsely : Prop := ckptWritesRow.holds Tryz.pinned (OpenSpec.ofChange ckptWritesWrong)

/-- 'corncriblaw10.CkptCrashes': WHATEVER THE INPUT: true; the input reads as it did. -/
def ckptCrashesSpec : ChangeSpec := { name := "ckptCrashes", fn := fun _ => fun
  | [d1, d2, d3] => { results := [.lit (.bool true)], args := [d1, d2, d3] }
  | _ => none }
def ckptCrashesRow : OpenClaim := { program := "ytfpjfoajonbndaagreatdoor", sum := "1a661260132117026faef5d8af3b2b2a592645bc286e589d1f186fc4b29224f6", func := "corncrib/corncriblaw10.CkptCrashes", spec := "ckptCrashes", inPlace := ["maps.clone", "slices.overlaps[corncrib/api.Pos]", "internal/reflectlite.TypeOf", "internal/bytealg.IndexByteString", "internal/bytealg.IndexString"], unfollowed := true, recurses := true, named := ["internal/strconv.uint64pow10", "math/bits.deBruijn32tab", "math/bits.deBruijn64tab", "internal/bytealg.MaxLen"], apart := false, laid := [("math/bits.deBruijn32tab", laid_math_bits_deBruijn32tab), ("math/bits.deBruijn64tab", laid_math_bits_deBruijn64tab), ("internal/strconv.uint64pow10", laid_internal_strconv_uint64pow10)] }
def CkptCrashesSaid : Prop := ckptCrashesRow.holds Tryz.pinned (OpenSpec.ofChange ckptCrashesSpec)

/-- ITS FALSE NEIGHBOUR: 'it returns false'. Refute it at one input. -/
def ckptCrashesWrong : ChangeSpec := { name := "ckptCrashes", fn := fun _ => fun
  | [d1, d2, d3] => { results := [.lit (.bool false)], args := [d1, d2, d3] }
  | _ => none }
def CkptCrashesWrongFalsely : Prop := ckptCrashesRow.holds Tryz.pinned (OpenSpec.ofChange ckptCrashesWrong)

/-- 'corncriblaw10.CkptHelps': WHATEVER THE INPUT: true; the input reads as it did. -/
def ckptHelpsSpec : ChangeSpec := { name := "ckptHelps", fn := fun _ => fun
  | [d1, d2, d3, d4] => { results := [.lit (.bool true)], args := [d1, d2, d3, d4] }
  | _ => none }
def ckptHelpsRow : OpenClaim := { program := "ytfpjfoajonbndaagreatdoor", sum := "1a661260132117026faef5d8af3b2b2a592645bc286e589d1f186fc4b29224f6", func := "corncrib/corncriblaw10.CkptHelps", spec := "ckptHelps", inPlace := ["maps.clone", "slices.overlaps[corncrib/api.Pos]", "internal/reflectlite.TypeOf", "internal/bytealg.IndexByteString", "internal/bytealg.IndexString"], unfollowed := true, recurses := true, named := ["internal/strconv.uint64pow10", "math/bits.deBruijn32tab", "math/bits.deBruijn64tab", "internal/bytealg.MaxLen"], apart := false, laid := [("math/bits.deBruijn32tab", laid_math_bits_deBruijn32tab), ("math/bits.deBruijn64tab", laid_math_bits_deBruijn64tab), ("internal/strconv.uint64pow10", laid_internal_strconv_uint64pow10)] }
def CkptHelpsSaid : Prop := ckptHelpsRow.holds Tryz.pinned (OpenSpec.ofChange ckptHelpsSpec)

/-- ITS FALSE NEIGHBOUR: 'it returns false'. Refute it at one input. -/
def ckptHelpsWrong : ChangeSpec := { name := "ckptHelps", fn := fun _ => fun
  | [d1, d2, d3, d4] => { results := [.lit (.bool false)], args := [d1, d2, d3, d4] }
  | _ => none }
def CkptHelpsWrongFalsely : Prop := ckptHelpsRow.holds Tryz.pinned (OpenSpec.ofChange ckptHelpsWrong)

/- THE SECOND FORM. 'bulk': how many values and letters a reading holds, each counted each time it is reached (what is shared counts as often as it is met; a slice's spare places count too). A statement '..UptoSaid' is the law's where the arguments, and the package variables that the reading takes, are together of bulk at most 1048576: NARROWER than '..Said'. Prove '..Said' where nothing that the law and all that it calls make is longer than what came in: it says more and counts as full. Else prove '..UptoSaid'. A law counts once. -/
mutual
def uptoBulk {H : Type} : DataW H → Nat
  | .lit (.string bytes) => bytes.length + 1
  | .lit _ => 1
  | .nil => 1
  | .ptr d => uptoBulk d + 1
  | .slice elems spare => uptoBulkAll elems + uptoBulkAll spare + 1
  | .agg parts => uptoBulkAll parts + 1
  | .iface _ d => uptoBulk d + 1
  | .map entries => uptoBulkEntries entries + 1
  | .held _ => 1
def uptoBulkAll {H : Type} : List (DataW H) → Nat
  | [] => 0
  | d :: r => uptoBulk d + uptoBulkAll r
def uptoBulkEntries {H : Type} : List (Lit × DataW H) → Nat
  | [] => 0
  | x :: r => uptoBulkEntry x + uptoBulkEntries r
def uptoBulkEntry {H : Type} : Lit × DataW H → Nat
  | (.string bytes, d) => bytes.length + uptoBulk d + 1
  | (_, d) => uptoBulk d + 1
 end
def uptoSmall : (H : Type) → List (DataW H) → Bool := fun _ ds => decide (uptoBulkAll ds ≤ 1048576)
def OpenSpec.upto (s : _root_.Go.ChangeSpec) : _root_.Go.OpenSpec := { _root_.Go.OpenSpec.ofChange s with cond := some uptoSmall }

/-- 'corncriblaw09.VolPlays', WHERE WHAT IT READS IS OF BULK AT MOST 1048576: true; the input reads as it did. -/
def volPlaysUptoRow : OpenClaim := { program := "ytfpjfoajonbndaagreatdoor", sum := "1a661260132117026faef5d8af3b2b2a592645bc286e589d1f186fc4b29224f6", func := "corncrib/corncriblaw09.VolPlays", spec := "volPlays", inPlace := ["maps.clone", "slices.overlaps[corncrib/api.Pos]", "internal/reflectlite.TypeOf", "internal/bytealg.IndexByteString", "internal/bytealg.IndexString"], unfollowed := true, recurses := true, named := ["internal/strconv.uint64pow10", "math/bits.deBruijn32tab", "math/bits.deBruijn64tab", "internal/bytealg.MaxLen"], apart := false, laid := [("math/bits.deBruijn32tab", laid_math_bits_deBruijn32tab), ("math/bits.deBruijn64tab", laid_math_bits_deBruijn64tab), ("internal/strconv.uint64pow10", laid_internal_strconv_uint64pow10)], narrowed := true }
def VolPlaysUptoSaid : Prop := volPlaysUptoRow.holds Tryz.pinned (OpenSpec.upto volPlaysSpec)

/-- 'corncriblaw10.CkptAgain', WHERE WHAT IT READS IS OF BULK AT MOST 1048576: true; the input reads as it did. -/
def ckptAgainUptoRow : OpenClaim := { program := "ytfpjfoajonbndaagreatdoor", sum := "1a661260132117026faef5d8af3b2b2a592645bc286e589d1f186fc4b29224f6", func := "corncrib/corncriblaw10.CkptAgain", spec := "ckptAgain", inPlace := ["maps.clone", "slices.overlaps[corncrib/api.Pos]", "internal/reflectlite.TypeOf", "internal/bytealg.IndexByteString", "internal/bytealg.IndexString"], unfollowed := true, recurses := true, named := ["internal/strconv.uint64pow10", "math/bits.deBruijn32tab", "math/bits.deBruijn64tab", "internal/bytealg.MaxLen"], apart := false, laid := [("math/bits.deBruijn32tab", laid_math_bits_deBruijn32tab), ("math/bits.deBruijn64tab", laid_math_bits_deBruijn64tab), ("internal/strconv.uint64pow10", laid_internal_strconv_uint64pow10)], narrowed := true }
def CkptAgainUptoSaid : Prop := ckptAgainUptoRow.holds Tryz.pinned (OpenSpec.upto ckptAgainSpec)

/-- 'corncriblaw10.CkptSteps', WHERE WHAT IT READS IS OF BULK AT MOST 1048576: true; the input reads as it did. -/
def ckptStepsUptoRow : OpenClaim := { program := "ytfpjfoajonbndaagreatdoor", sum := "1a661260132117026faef5d8af3b2b2a592645bc286e589d1f186fc4b29224f6", func := "corncrib/corncriblaw10.CkptSteps", spec := "ckptSteps", inPlace := ["maps.clone", "slices.overlaps[corncrib/api.Pos]", "internal/reflectlite.TypeOf", "internal/bytealg.IndexByteString", "internal/bytealg.IndexString"], unfollowed := true, recurses := true, named := ["internal/strconv.uint64pow10", "math/bits.deBruijn32tab", "math/bits.deBruijn64tab", "internal/bytealg.MaxLen"], apart := false, laid := [("math/bits.deBruijn32tab", laid_math_bits_deBruijn32tab), ("math/bits.deBruijn64tab", laid_math_bits_deBruijn64tab), ("internal/strconv.uint64pow10", laid_internal_strconv_uint64pow10)], narrowed := true }
def CkptStepsUptoSaid : Prop := ckptStepsUptoRow.holds Tryz.pinned (OpenSpec.upto ckptStepsSpec)

/-- 'corncriblaw10.CkptWrites', WHERE WHAT IT READS IS OF BULK AT MOST 1048576: true; the input reads as it did. -/
def ckptWritesUptoRow : OpenClaim := { program := "ytfpjfoajonbndaagreatdoor", sum := "1a661260132117026faef5d8af3b2b2a592645bc286e589d1f186fc4b29224f6", func := "corncrib/corncriblaw10.CkptWrites", spec := "ckptWrites", inPlace := ["maps.clone", "slices.overlaps[corncrib/api.Pos]", "internal/reflectlite.TypeOf", "internal/bytealg.IndexByteString", "internal/bytealg.IndexString"], unfollowed := true, recurses := true, named := ["internal/strconv.uint64pow10", "math/bits.deBruijn32tab", "math/bits.deBruijn64tab", "internal/bytealg.MaxLen"], apart := false, laid := [("math/bits.deBruijn32tab", laid_math_bits_deBruijn32tab), ("math/bits.deBruijn64tab", laid_math_bits_deBruijn64tab), ("internal/strconv.uint64pow10", laid_internal_strconv_uint64pow10)], narrowed := true }
def CkptWritesUptoSaid : Prop := ckptWritesUptoRow.holds Tryz.pinned (OpenSpec.upto ckptWritesSpec)

/-- 'corncriblaw10.CkptCrashes', WHERE WHAT IT READS IS OF BULK AT MOST 1048576: true; the input reads as it did. -/
def ckptCrashesUptoRow : OpenClaim := { program := "ytfpjfoajonbndaagreatdoor", sum := "1a661260132117026faef5d8af3b2b2a592645bc286e589d1f186fc4b29224f6", func := "corncrib/corncriblaw10.CkptCrashes", spec := "ckptCrashes", inPlace := ["maps.clone", "slices.overlaps[corncrib/api.Pos]", "internal/reflectlite.TypeOf", "internal/bytealg.IndexByteString", "internal/bytealg.IndexString"], unfollowed := true, recurses := true, named := ["internal/strconv.uint64pow10", "math/bits.deBruijn32tab", "math/bits.deBruijn64tab", "internal/bytealg.MaxLen"], apart := false, laid := [("math/bits.deBruijn32tab", laid_math_bits_deBruijn32tab), ("math/bits.deBruijn64tab", laid_math_bits_deBruijn64tab), ("internal/strconv.uint64pow10", laid_internal_strconv_uint64pow10)], narrowed := true }
def CkptCrashesUptoSaid : Prop := ckptCrashesUptoRow.holds Tryz.pinned (OpenSpec.upto ckptCrashesSpec)

/-- 'corncriblaw10.CkptHelps', WHERE WHAT IT READS IS OF BULK AT MOST 1048576: true; the input reads as it did. -/
def ckptHelpsUptoRow : OpenClaim := { program := "ytfpjfoajonbndaagreatdoor", sum := "1a661260132117026faef5d8af3b2b2a592645bc286e589d1f186fc4b29224f6", func := "corncrib/corncriblaw10.CkptHelps", spec := "ckptHelps", inPlace := ["maps.clone", "slices.overlaps[corncrib/api.Pos]", "internal/reflectlite.TypeOf", "internal/bytealg.IndexByteString", "internal/bytealg.IndexString"], unfollowed := true, recurses := true, named := ["internal/strconv.uint64pow10", "math/bits.deBruijn32tab", "math/bits.deBruijn64tab", "internal/bytealg.MaxLen"], apart := false, laid := [("math/bits.deBruijn32tab", laid_math_bits_deBruijn32tab), ("math/bits.deBruijn64tab", laid_math_bits_deBruijn64tab), ("internal/strconv.uint64pow10", laid_internal_strconv_uint64pow10)], narrowed := true }
def CkptHelpsUptoSaid : Prop := ckptHelpsUptoRow.holds Tryz.pinned (OpenSpec.upto ckptHelpsSpec)

end Rows
end Go.Proofs.YtfpjfoajonbndaaGreatDoor
