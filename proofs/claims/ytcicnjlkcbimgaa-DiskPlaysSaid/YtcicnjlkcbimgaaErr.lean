/- errors.Is and corncriblaw01.Code at the codes of package api: what they answer. No condition. -/
import Derived.Test.YtcicnjlkcbimgaaBase
import Derived.Test.YtcicnjlkcbimgaaRows
import Derived.LaidEql
import Derived.Stop.Asserts
import Derived.RowKitTokens
namespace Go
section
variable {P : Program} (w : World)
theorem Ytcicnjlkcbimgaa_run_equalIn_iface_int (d : Nat) {ti tn : TypeId} {ms : Array (String × TypeId)} {i : TypeInfo} {k : IntKind} (a b : Int)
    (hi : P.underlying ti = some (.interface ms)) (hn : P.underlying tn = some (.int k)) (hinfo : P.info? tn = some i) (hcomp : i.comparable = true) :
    (Op.equalIn (d + 2) ti (.iface tn (.int k a)) (.iface tn (.int k b))).run P w = .ok (a == b) w := by
  simp [Op.equalIn, run_underlying hi, run_underlying hn, typeInfo, hinfo, hcomp]
theorem Ytcicnjlkcbimgaa_run_eql_iface_int {ti tn : TypeId} {ms : Array (String × TypeId)} {i : TypeInfo} {k : IntKind} (a b : Int)
    (hi : P.underlying ti = some (.interface ms)) (hn : P.underlying tn = some (.int k)) (hinfo : P.info? tn = some i) (hcomp : i.comparable = true) :
    (binOp .eql ti (.iface tn (.int k a)) (.iface tn (.int k b))).run P w = .ok (.bool (a == b)) w := by
  simp only [binOp]
  simp [Op.equal, Op.maxDepth, Ytcicnjlkcbimgaa_run_equalIn_iface_int w 9998 a b hi hn hinfo hcomp]
end
end Go
namespace Go.Proofs.Ytcicnjlkcbimgaa
open Go.RowKit Go.Extern.Stop Go.Stop Go.Extern
/-- A code as an error: 0 is nil. -/
def errV (k : Int) : Value := if k = 0 then .nilIface else .iface 77 (.int .i64 k)
theorem errV_zero : errV 0 = .nilIface := rfl
theorem errV_ne {k : Int} (h : k ≠ 0) : errV k = .iface 77 (.int .i64 k) := if_neg h
theorem Try.isTypeOf (v : Value) (w : World) : (Extern.ReflectliteType.typeOf #[.iface 77 v]).run Try.prog w = .ok (.iface 119 (.agg #[.pointer (some ⟨0, 77, none⟩)])) w := by kernel_rfl
/-- The model's entry for (reflectlite.rtype).Comparable, under a name. -/
def cmpEntry : Array Value → Sem Value := Extern.ReflectliteType.method fun t => do Go.Extern.Rtype.noPackHeld "Comparable" t; pure (.bool (← typeInfo t).comparable)
theorem Try.isComparable (w : World) : (cmpEntry #[.agg #[.pointer (some ⟨0, 77, none⟩)]]).run Try.prog w = .ok (.bool true) w := by kernel_rfl
theorem Try.isMethodComparable (v : Value) (w : World) : (Go.method 287 119 v "Comparable").run Try.prog w = .ok (104, v) w := by kernel_rfl
theorem Try.isComp : (Try.prog.info? 77).map (·.comparable) = some true := by kernel_rfl
theorem Try.noIsC (v : Value) (xT : TypeId) (w : World) : (Instr.typeAssert (.iface 77 v) xT 121 true).run Try.prog w = .ok (.tuple #[.nilIface, .bool false]) w := run_typeAssert_lacksB Try.underlying121 (by kernel_rfl) (by kernel_rfl) v xT w
theorem Try.noUnwrapC (v : Value) (xT : TypeId) (w : World) : (Instr.typeAssert (.iface 77 v) xT 124 true).run Try.prog w = .ok (.tuple #[.nilIface, .bool false]) w := run_typeAssert_lacksB Try.underlying124 (by kernel_rfl) (by kernel_rfl) v xT w
theorem Try.noUnwrapsC (v : Value) (xT : TypeId) (w : World) : (Instr.typeAssert (.iface 77 v) xT 125 true).run Try.prog w = .ok (.tuple #[.nilIface, .bool false]) w := run_typeAssert_lacksB Try.underlying125 (by kernel_rfl) (by kernel_rfl) v xT w

theorem is_same (k : Int) (w : World) :
    Calls Try.prog 37 #[.iface 77 (.int .i64 k), .iface 77 (.int .i64 k)] w fun e w' => e = .returned (.bool true) ∧ w = w' := by
  obtain ⟨i, hi, hcmp⟩ := Option.map_eq_some_iff.1 Try.isComp
  have h8 := @run_callFunc_extern Try.prog 51 _ Extern.ReflectliteType.typeOf Try.func51 (by kernel_rfl) (by kernel_rfl) (by kernel_rfl) (by kernel_rfl)
  have h32 := @run_callFunc_extern Try.prog 104 _ cmpEntry Try.func104 (by kernel_rfl) (by kernel_rfl) (by kernel_rfl) (by kernel_rfl)
  have tT := Try.isTypeOf
  have cT := Try.isComparable
  have mR := Try.isMethodComparable
  have heq := Ytcicnjlkcbimgaa_run_eql_iface_int (P := Try.prog) w k k Try.underlying29 Try.underlying77 hi hcmp
  rw [beq_self_eq_true] at heq
  clear hi hcmp
  go_enter Try.func37, Try.ntmps37
  go_wp2
  refine wp_loop_rounds 1 ?_
  rw [rounds_succ]
  go_wp2
  go_ret
  exact ⟨rfl, rfl⟩

theorem is_other (k c : Int) (hne : k ≠ c) (w : World) :
    Calls Try.prog 37 #[.iface 77 (.int .i64 k), .iface 77 (.int .i64 c)] w fun e w' => e = .returned (.bool false) ∧ w = w' := by
  obtain ⟨i, hi, hcmp⟩ := Option.map_eq_some_iff.1 Try.isComp
  have h8 := @run_callFunc_extern Try.prog 51 _ Extern.ReflectliteType.typeOf Try.func51 (by kernel_rfl) (by kernel_rfl) (by kernel_rfl) (by kernel_rfl)
  have h32 := @run_callFunc_extern Try.prog 104 _ cmpEntry Try.func104 (by kernel_rfl) (by kernel_rfl) (by kernel_rfl) (by kernel_rfl)
  have tT := Try.isTypeOf
  have cT := Try.isComparable
  have mR := Try.isMethodComparable
  have nE := Try.noIsC
  have uE := Try.noUnwrapC
  have vE := Try.noUnwrapsC
  have heq := Ytcicnjlkcbimgaa_run_eql_iface_int (P := Try.prog) w k c Try.underlying29 Try.underlying77 hi hcmp
  rw [show (k == c) = false from beq_eq_false_iff_ne.2 hne] at heq
  clear hi hcmp hne
  go_enter Try.func37, Try.ntmps37
  go_wp2
  refine wp_loop_rounds 1 ?_
  rw [rounds_succ]
  go_wp2
  go_ret
  exact ⟨rfl, rfl⟩
theorem is_any (k c : Int) (w : World) :
    Calls Try.prog 37 #[.iface 77 (.int .i64 k), .iface 77 (.int .i64 c)] w fun e w' => e = .returned (.bool (k == c)) ∧ w = w' := by
  by_cases h : k = c
  · subst h; rw [beq_self_eq_true]; exact is_same k w
  · rw [show (k == c) = false from beq_eq_false_iff_ne.2 h]; exact is_other k c h w

set_option maxHeartbeats 400000 in
theorem code_nil (w : World) : Calls Try.prog 14 #[.nilIface] w fun e w' => e = .returned (.int .i64 0) ∧ w = w' := by
  go_enter Try.func14, Try.ntmps14
  go_wp2
  go_ret
  exact ⟨rfl, rfl⟩
set_option maxRecDepth 100000 in
set_option maxHeartbeats 400000 in
theorem code_some (k : Int) (h1 : 1 ≤ k) (h2 : k ≤ 17) (w : World) :
    Calls Try.prog 14 #[.iface 77 (.int .i64 k)] w fun e w' => e = .returned (.int .i64 k) ∧ w = w' := by
  have hn := run_eql_iface_nil_left (P := Try.prog) w 77 (.int .i64 k) Try.underlying29
  go_enter Try.func14, Try.ntmps14
  go_wp2
  go_loop [3] (fun c => ∃ j : Nat, 1 ≤ j ∧ (j : Int) ≤ k ∧ c = .int .i64 j) (fun c => 18 - (intOf c).toNat)
  case atStart => exact ⟨1, by omega, by omega, rfl⟩
  case round =>
    obtain ⟨j, hj1, hj2, rfl⟩ := hrel
    by_cases he : k = (j : Int)
    · subst he
      clear hj2 hn
      go_wp2_with (go_at_call 37; refine (is_same _ _).mono ?_; rintro e w' ⟨rfl, rfl⟩)
      go_ret
      exact ⟨rfl, rfl⟩
    · go_wp2_with (go_at_call 37; refine (is_other _ _ (by omega) _).mono ?_; rintro e w' ⟨rfl, rfl⟩)
      go_round
      case rel => exact ⟨j + 1, by omega, by omega, by go_num⟩
      case measure => simp [intOf]; omega
theorem code_any (k : Int) (h1 : 0 ≤ k) (h2 : k ≤ 17) (w : World) :
    Calls Try.prog 14 #[errV k] w fun e w' => e = .returned (.int .i64 k) ∧ w = w' := by
  by_cases h : k = 0
  · subst h; exact code_nil w
  · rw [errV_ne h]; exact code_some k (by omega) h2 w
end Go.Proofs.Ytcicnjlkcbimgaa
