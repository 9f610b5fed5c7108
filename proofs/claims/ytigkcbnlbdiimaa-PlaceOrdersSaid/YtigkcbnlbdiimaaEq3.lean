/- '==' on arrays of three ints. -/
import Derived.Test.YtigkcbnlbdiimaaBase
import Derived.Test.YtigkcbnlbdiimaaRows
import Derived.ChangeKeysEq
namespace Go.Proofs.Ytigkcbnlbdiimaa
open Go.RowKit
theorem int_size3 : (Try.prog.info? 3).map (fun i => i.size) = some 1 := by kernel_rfl
theorem eq3 (d : Nat) (a b c x y z : Int) (w : World) :
    (Op.equalIn (d + 2) 30 (.agg #[.int .i64 a, .int .i64 b, .int .i64 c]) (.agg #[.int .i64 x, .int .i64 y, .int .i64 z])).run Try.prog w = .ok (a == x && (b == y && c == z)) w := by
  obtain ⟨i, hi, hs⟩ := Option.map_eq_some_iff.1 int_size3
  simp [Op.equalIn, run_underlying Try.underlying30, sizeOf, typeInfo, hi, hs, List.range', List.range, part, isAgg, run_underlying Try.underlying3, run_equalIn_int]
  by_cases h1 : a = x <;> by_cases h2 : b = y <;> by_cases h3 : c = z <;> simp [h1, h2, h3]
@[go_sem] theorem eq3_in (a b c x y z : Int) (w : World) :
    (Op.equalIn 9999 30 (.agg #[.int .i64 a, .int .i64 b, .int .i64 c]) (.agg #[.int .i64 x, .int .i64 y, .int .i64 z])).run Try.prog w = .ok (a == x && (b == y && c == z)) w := eq3 9997 a b c x y z w
end Go.Proofs.Ytigkcbnlbdiimaa
