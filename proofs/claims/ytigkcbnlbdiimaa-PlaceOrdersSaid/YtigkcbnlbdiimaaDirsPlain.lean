/- The directory's map as plain lists: what its commands do. No program. -/
import Derived.Test.YtigkcbnlbdiimaaBase
namespace Go.Proofs.Ytigkcbnlbdiimaa
open Go.RowKit
def placeB (n : Int) : Bool := decide (0 ≤ n) && decide (n ≤ 255)
def threeB (a b c : Int) : Bool := placeB a && placeB b && placeB c && a != b && b != c && a != c
structure Ent where
  vol : Int
  epoch : Int
  n0 : Int
  n1 : Int
  n2 : Int
  shut : Bool
def Ent.row (x : Ent) : List Value := [.int .i64 x.vol, .int .i64 x.epoch, .int .i64 x.n0, .int .i64 x.n1, .int .i64 x.n2, .bool x.shut]
def Ent.val (x : Ent) : Value := .agg #[.int .i64 x.vol, .int .i64 x.epoch, .int .i64 x.n0, .int .i64 x.n1, .int .i64 x.n2, .bool x.shut]
theorem Ent.row_len (x : Ent) : x.row.length = 6 := rfl
structure Cmd where
  kind : Int
  vol : Int
  epoch : Int
  spot : Int
  node : Int
  n0 : Int
  n1 : Int
  n2 : Int
def Cmd.row (x : Cmd) : List Value := [.int .i64 x.kind, .int .i64 x.vol, .int .i64 x.epoch, .int .i64 x.spot, .int .i64 x.node, .int .i64 x.n0, .int .i64 x.n1, .int .i64 x.n2]
def Cmd.val (x : Cmd) : Value := .agg #[.int .i64 x.kind, .int .i64 x.vol, .int .i64 x.epoch, .int .i64 x.spot, .int .i64 x.node, .int .i64 x.n0, .int .i64 x.n1, .int .i64 x.n2]
theorem Cmd.row_len (x : Cmd) : x.row.length = 8 := rfl
def wrapI (n : Int) : Int := wrap64 n
theorem wrapI_id (n : Int) (h1 : -9223372036854775808 ≤ n) (h2 : n ≤ 9223372036854775807) : wrapI n = n := by
  unfold wrapI wrap64; omega
def errNode (x : Ent) (c : Cmd) : Nat :=
  if c.spot < 0 ∨ 3 ≤ c.spot ∨ placeB c.node = false then 1
  else if x.n0 = c.node ∨ x.n1 = c.node ∨ x.n2 = c.node then 8 else 0
/-- What a command makes of a volume that is there, and the error. -/
def turnE (x : Ent) (c : Cmd) : Nat :=
  if c.kind = 2 then (if x.shut then 10 else 0)
  else if c.kind = 3 then (if x.shut then 0 else 8)
  else if c.kind = 4 then errNode x c else 0
def turnX (x : Ent) (c : Cmd) : Ent :=
  if c.kind = 2 then { x with shut := true, epoch := wrapI (x.epoch + 1) }
  else if c.kind = 3 then { x with shut := false, epoch := wrapI (x.epoch + 1) }
  else if c.kind = 4 then { x with n0 := if c.spot = 0 then c.node else x.n0, n1 := if c.spot = 1 then c.node else x.n1, n2 := if c.spot = 2 then c.node else x.n2, epoch := wrapI (x.epoch + 1) }
  else { x with epoch := wrapI (x.epoch + 1) }
def turnV (x : Ent) (c : Cmd) : Ent := if turnE x c = 0 then turnX x c else x
end Go.Proofs.Ytigkcbnlbdiimaa
