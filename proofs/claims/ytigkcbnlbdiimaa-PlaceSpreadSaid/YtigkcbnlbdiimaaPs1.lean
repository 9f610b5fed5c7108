/- Joined texts: Base, Err, DirsPlain, Dirs, Dirs2, Base2, Order, Dirs3, Dirs4, DirsApart, DirsLaw, Eq3, DirsApart2, Ref19, AppReads. -/
import Derived.WalkKit
import Derived.WalkSpells
import Derived.WalkLawsBesides
import Derived.Lib.Hide
import Derived.BigQuiet
import Derived.Deep.QuietTactic
import Derived.Test.YtigkcbnlbdiimaaRows
import Derived.LaidEql
import Derived.Stop.Asserts
import Derived.RowKitTokens
import Derived.Deep.RegionLaw
import Derived.Orders
import Derived.Deep.AppendLies
import Derived.ChangeKeysEq
import Derived.OwnWalk
import Derived.Maps.AppendAt
import Derived.Laws.AppendOwnNone
/- Small laws on worlds, rows of structs and frames: whatever the program. No condition. -/
namespace Go.Proofs.Ytigkcbnlbdiimaa
open Go.RowKit

/-- Only blocks of F (and new ones) may have turned. -/
structure Keeps (F : Nat → Prop) (w w' : World) : Prop where
  os : w'.os = w.os
  tape : w'.tape = w.tape
  output : w'.output = w.output
  size : w.heap.size ≤ w'.heap.size
  block : ∀ k, k < w.heap.size → ¬ F k → w'.heap[k]? = w.heap[k]?

theorem Keeps.refl (F : Nat → Prop) (w : World) : Keeps F w w := ⟨rfl, rfl, rfl, Nat.le_refl _, fun _ _ _ => rfl⟩
theorem Keeps.mono {F G : Nat → Prop} {w w' : World} (h : Keeps F w w') (hs : ∀ k, k < w.heap.size → F k → G k) : Keeps G w w' :=
  ⟨h.os, h.tape, h.output, h.size, fun k hk hn => h.block k hk (fun hf => hn (hs k hk hf))⟩
theorem Keeps.trans {F G : Nat → Prop} {a b c : World} (h : Keeps F a b) (k : Keeps G b c) (hs : ∀ i, i < a.heap.size → G i → F i) : Keeps F a c :=
  ⟨k.os.trans h.os, k.tape.trans h.tape, k.output.trans h.output, Nat.le_trans h.size k.size,
   fun i hi hn => (k.block i (Nat.lt_of_lt_of_le hi h.size) (fun hg => hn (hs i hi hg))).trans (h.block i hi hn)⟩
theorem Keeps.of_below {F : Nat → Prop} {B : Nat} {w w' : World} (h : Below B w w') (hB : ∀ k, k < w.heap.size → ¬ F k → k < B) : Keeps F w w' :=
  ⟨h.os, h.tape, h.output, h.size, fun k hk hn => h.block k (hB k hk hn)⟩
theorem Keeps.below {F : Nat → Prop} {B : Nat} {w w' : World} (h : Keeps F w w') (hB : B ≤ w.heap.size) (hF : ∀ k, F k → B ≤ k) : Below B w w' :=
  ⟨h.os, h.tape, h.output, h.size, fun k hk => h.block k (by omega) (fun hf => by have := hF k hf; omega)⟩
theorem Keeps.drew {F : Nat → Prop} {a w : World} (h : Keeps F a w) : Keeps F a w.drew := ⟨h.os, h.tape, h.output, h.size, h.block⟩
theorem Keeps.drewN {F : Nat → Prop} {a w : World} (h : Keeps F a w) (n : Nat) : Keeps F a (w.drewN n) := ⟨h.os, h.tape, h.output, h.size, h.block⟩
theorem Keeps.alloc {F : Nat → Prop} {a w : World} (h : Keeps F a w) (o : Obj) : Keeps F a (w.alloc o) :=
  ⟨h.os, h.tape, h.output, Nat.le_trans h.size (by simp), fun k hk hn => by
    rw [Below.heap_alloc w o k (Nat.lt_of_lt_of_le hk h.size)]; exact h.block k hk hn⟩
theorem Keeps.setCell {F : Nat → Prop} {a w : World} (h : Keeps F a w) (p : Addr) (u : Value) (hp : p.block < a.heap.size → F p.block) : Keeps F a (w.setCell p u) :=
  ⟨h.os, h.tape, h.output, by have := h.size; simpa [World.setCell] using this, fun k hk hn => by
    rw [Below.heap_setCell w p u k (fun e => hn (e ▸ hp (e ▸ hk)))]; exact h.block k hk hn⟩
theorem Keeps.grown {F : Nat → Prop} {a w w' : World} {row : Option Nat} (h : Keeps F a w) (hg : w.grownBy w' row) (hr : ∀ k, row = some k → k < a.heap.size → F k) : Keeps F a w' :=
  ⟨hg.os.trans h.os, hg.tape.trans h.tape, hg.output.trans h.output, Nat.le_trans h.size hg.size, fun k hk hn =>
    (hg.block k (Nat.lt_of_lt_of_le hk h.size) (fun e => hn (hr k e.symm hk))).trans (h.block k hk hn)⟩
theorem Keeps.cell {F : Nat → Prop} {w w' : World} (h : Keeps F w w') {b : Nat} (hb : b < w.heap.size) (hn : ¬ F b) (o : Nat) : w'.cell? ⟨b, o, none⟩ = w.cell? ⟨b, o, none⟩ :=
  World.cell?_of_block (w := w) (h.block b hb hn)
theorem Keeps.frozen {F : Nat → Prop} {w w' : World} (h : Keeps F w w') {b : Nat} (hb : b < w.heap.size) (hn : ¬ F b) (o : Nat) : w'.frozen? ⟨b, o, none⟩ = w.frozen? ⟨b, o, none⟩ :=
  World.frozen?_of_block (w := w) (h.block b hb hn)

/-- An owned row in a world in which its block has not turned. -/
theorem ownsRow_at {w w' : World} {base : Nat} {e : TypeId} {size : Nat} {v : Value} {n : Nat} {xs : List Value} (h : w.ownsRow base e size v n xs)
    (hk : ∀ k, v.ownBlock = some k → w'.heap[k]? = w.heap[k]?) : w'.ownsRow base e size v n xs := by
  obtain ⟨h1, h2⟩ := h
  refine ⟨h1, ?_⟩
  rcases h2 with h2 | ⟨g, cap, cur, rfl, hg, hh, r⟩
  · exact .inl h2
  · exact .inr ⟨g, cap, cur, rfl, hg, by rw [hk g rfl]; exact hh, r⟩
theorem ownsRow_mono {w : World} {base base' : Nat} {e : TypeId} {size : Nat} {v : Value} {n : Nat} {xs : List Value} (h : w.ownsRow base e size v n xs) (hb : base' ≤ base) :
    w.ownsRow base' e size v n xs := by
  obtain ⟨h1, h2⟩ := h
  refine ⟨h1, ?_⟩
  rcases h2 with h2 | ⟨g, cap, cur, rfl, hg, r⟩
  · exact .inl h2
  · exact .inr ⟨g, cap, cur, rfl, Nat.le_trans hb hg, r⟩
theorem ownsRow_keeps {F : Nat → Prop} {w w' : World} {base : Nat} {e : TypeId} {size : Nat} {v : Value} {n : Nat} {xs : List Value} (h : w.ownsRow base e size v n xs)
    (hk : Keeps F w w') (hn : ∀ k, v.ownBlock = some k → ¬ F k) : w'.ownsRow base e size v n xs :=
  ownsRow_at h fun k hv => hk.block k (h.lt k hv).2 (hn k hv)
theorem ownsRow_len {w : World} {base : Nat} {e : TypeId} {size : Nat} {v : Value} {n : Nat} {xs : List Value} (h : w.ownsRow base e size v n xs) :
    ∃ a c, v = .slice a n c := by
  rcases h.2 with ⟨rfl, rfl⟩ | ⟨g, cap, cur, rfl, _⟩
  · exact ⟨_, _, rfl⟩
  · exact ⟨_, _, rfl⟩

/-- The cells of a row of structs. -/
theorem getElem?_flatMap_row {α : Type} (f : α → List Value) (s : Nat) (hf : ∀ x, (f x).length = s) (l : List α) (i j : Nat) (hj : j < s) :
    (l.flatMap f)[i * s + j]? = l[i]?.bind fun x => (f x)[j]? := by
  induction l generalizing i with
  | nil => simp
  | cons x l ih =>
    rw [List.flatMap_cons]
    cases i with
    | zero => rw [List.getElem?_append_left (by rw [hf]; omega)]; simp
    | succ i =>
      rw [List.getElem?_append_right (by rw [hf, Nat.succ_mul]; omega), hf, show (i + 1) * s + j - s = i * s + j by rw [Nat.succ_mul]; omega, ih]
      simp
theorem length_flatMap_row {α : Type} (f : α → List Value) (s : Nat) (hf : ∀ x, (f x).length = s) (l : List α) : (l.flatMap f).length = l.length * s := by
  induction l with
  | nil => simp
  | cons x l ih => rw [List.flatMap_cons, List.length_append, hf, ih, List.length_cons, Nat.succ_mul]; omega
/-- One cell of one struct of an owned row. -/
theorem ownsRow_cell {α : Type} {w : World} {base : Nat} {e : TypeId} {g n cap : Nat} (f : α → List Value) (s : Nat) (hf : ∀ x, (f x).length = s) (l : List α)
    (h : w.ownsRow base e s (.slice (some ⟨g, 0, none⟩) n cap) n (l.flatMap f)) (i j : Nat) (x : α) (hx : l[i]? = some x) (hj : j < s) :
    w.cell? ⟨g, i * s + j, none⟩ = (f x)[j]? := by
  have hl : n = l.length := by
    have h1 := h.1
    rw [length_flatMap_row f s hf] at h1
    exact (Nat.eq_of_mul_eq_mul_right (by omega) h1).symm
  have hi : i < l.length := (List.getElem?_eq_some_iff.1 hx).1
  have hlt : i * s + j < n * s := by
    have : (i + 1) * s ≤ l.length * s := Nat.mul_le_mul_right s hi
    rw [Nat.succ_mul] at this
    rw [hl]; omega
  rw [h.cellAt (i * s + j) hlt, getElem?_flatMap_row f s hf l i j hj, hx]
  rfl
/-- A row of structs as cells of one block. -/
theorem flatMap_set {α : Type} (f : α → List Value) (s : Nat) (hf : ∀ x, (f x).length = s) (l : List α) (i : Nat) (x : α) (hi : i < l.length) :
    (l.set i x).flatMap f = (l.flatMap f).take (i * s) ++ f x ++ (l.flatMap f).drop (i * s + s) := by
  induction l generalizing i with
  | nil => simp at hi
  | cons y l ih =>
    cases i with
    | zero => simp [List.flatMap_cons, List.drop_append, hf]
    | succ i =>
      have hi' : i < l.length := by simpa using hi
      have e1 : (i + 1) * s - s = i * s := by rw [Nat.succ_mul]; omega
      have e2 : (i + 1) * s + s - s = i * s + s := by rw [Nat.succ_mul]; omega
      have t1 : List.take ((i + 1) * s) (f y) = f y := List.take_of_length_le (by rw [hf, Nat.succ_mul]; omega)
      have t2 : List.drop ((i + 1) * s + s) (f y) = [] := List.drop_eq_nil_of_le (by rw [hf, Nat.succ_mul]; omega)
      rw [List.set_cons_succ, List.flatMap_cons, List.flatMap_cons, ih i hi', List.take_append, List.drop_append, hf, e1, e2, t1, t2]
      simp
theorem ret_int {k : IntKind} {a b : Int} (h : a = b) : Ending.returned (.int k a) = .returned (.int k b) := by rw [h]
theorem ret_bool {a b : Bool} (h : a = b) : Ending.returned (.bool a) = .returned (.bool b) := by rw [h]
theorem quiet_of_eq {P : Program} {f : FuncId} {args : Array Value} {w : World} {n : Nat} {v : Value}
    (h : Calls P f args (w.drewN n) fun e w' => e = .returned v ∧ w.drewN n = w') : Calls P f args (w.drewN n) fun e w'' => e = .returned v ∧ ∃ m, w'' = w.drewN m :=
  Calls.quiet_of_same (h.mono fun _ _ ⟨he, hm⟩ => ⟨he, hm.symm⟩)
theorem _root_.Go.RowKit.Below.drewN {B : Nat} {a w : World} (h : Below B a w) (n : Nat) : Below B a (w.drewN n) := ⟨h.os, h.tape, h.output, h.size, h.block⟩
@[go_sem] theorem setCell_drewN (w : World) (n : Nat) (a : Addr) (v : Value) : (w.drewN n).setCell a v = (w.setCell a v).drewN n := rfl
@[go_sem] theorem alloc_drewN (w : World) (n : Nat) (o : Obj) : (w.drewN n).alloc o = (w.alloc o).drewN n := rfl
theorem ownsRow_cast {w : World} {base : Nat} {e : TypeId} {size : Nat} {v : Value} {n m : Nat} {xs ys : List Value} (h : w.ownsRow base e size v n xs) (hn : n = m) (hx : xs = ys) : w.ownsRow base e size v m ys := by
  subst hn hx; exact h
theorem ownsRow_below {w w' : World} {base : Nat} {e : TypeId} {size : Nat} {v : Value} {n : Nat} {xs : List Value} (h : w.ownsRow base e size v n xs) (hb : Below w.heap.size w w') : w'.ownsRow base e size v n xs :=
  ownsRow_at h (fun k hk => hb.block k (h.lt k hk).2)
/-- A slice value of n elements of sz cells each, that reads as xs. -/
def Reads (w : World) (sz : Nat) (v : Value) (n : Nat) (xs : List Value) : Prop :=
  xs.length = n * sz ∧ ((v = .slice none 0 0 ∧ n = 0) ∨ ∃ a c, v = .slice (some a) n c ∧ n ≤ maxLen ∧ ∀ j u, xs[j]? = some u → w.cell? (a.add j) = some u)
theorem reads_of_owns {w : World} {base : Nat} {e : TypeId} {size : Nat} {v : Value} {n : Nat} {xs : List Value} (h : w.ownsRow base e size v n xs) : Reads w size v n xs := by
  refine ⟨h.1, ?_⟩
  rcases h.2 with h2 | ⟨g, cap, cur, rfl, _, _, hn, hc, _⟩
  · exact .inl h2
  · exact .inr ⟨_, _, rfl, Nat.le_trans hn hc, h.cells (g := g) rfl⟩
/-- What a clone leaves. -/
def CloneOut (w : World) (E sz : Nat) (v : Value) (n : Nat) (xs : List Value) (e : Ending) (w' : World) : Prop :=
  ∃ v', e = .returned v' ∧ w'.ownsRow w.heap.size E sz v' n xs ∧ (v' = .slice none 0 0 ↔ v = .slice none 0 0) ∧ Below w.heap.size w w'
end Go.Proofs.Ytigkcbnlbdiimaa

/- errors.Is and corncriblaw01.Code at the codes of package api: what they answer. No condition. -/
namespace Go
section
variable {P : Program} (w : World)
theorem Ytigkcbnlbdiimaa_run_equalIn_iface_int (d : Nat) {ti tn : TypeId} {ms : Array (String × TypeId)} {i : TypeInfo} {k : IntKind} (a b : Int)
    (hi : P.underlying ti = some (.interface ms)) (hn : P.underlying tn = some (.int k)) (hinfo : P.info? tn = some i) (hcomp : i.comparable = true) :
    (Op.equalIn (d + 2) ti (.iface tn (.int k a)) (.iface tn (.int k b))).run P w = .ok (a == b) w := by
  simp [Op.equalIn, run_underlying hi, run_underlying hn, typeInfo, hinfo, hcomp]
theorem Ytigkcbnlbdiimaa_run_eql_iface_int {ti tn : TypeId} {ms : Array (String × TypeId)} {i : TypeInfo} {k : IntKind} (a b : Int)
    (hi : P.underlying ti = some (.interface ms)) (hn : P.underlying tn = some (.int k)) (hinfo : P.info? tn = some i) (hcomp : i.comparable = true) :
    (binOp .eql ti (.iface tn (.int k a)) (.iface tn (.int k b))).run P w = .ok (.bool (a == b)) w := by
  simp only [binOp]
  simp [Op.equal, Op.maxDepth, Ytigkcbnlbdiimaa_run_equalIn_iface_int w 9998 a b hi hn hinfo hcomp]
end
end Go
namespace Go.Proofs.Ytigkcbnlbdiimaa
open Go.RowKit Go.Extern.Stop Go.Stop Go.Extern
/-- A code as an error: 0 is nil. -/
def errV (k : Int) : Value := if k = 0 then .nilIface else .iface 106 (.int .i64 k)
theorem errV_zero : errV 0 = .nilIface := rfl
theorem errV_ne {k : Int} (h : k ≠ 0) : errV k = .iface 106 (.int .i64 k) := if_neg h
theorem Try.isTypeOf (v : Value) (w : World) : (Extern.ReflectliteType.typeOf #[.iface 106 v]).run Try.prog w = .ok (.iface 153 (.agg #[.pointer (some ⟨0, 106, none⟩)])) w := by kernel_rfl
/-- The model's entry for (reflectlite.rtype).Comparable, under a name. -/
def cmpEntry : Array Value → Sem Value := Extern.ReflectliteType.method fun t => do Go.Extern.Rtype.noPackHeld "Comparable" t; pure (.bool (← typeInfo t).comparable)
theorem Try.isComparable (w : World) : (cmpEntry #[.agg #[.pointer (some ⟨0, 106, none⟩)]]).run Try.prog w = .ok (.bool true) w := by kernel_rfl
theorem Try.isMethodComparable (v : Value) (w : World) : (Go.method 318 153 v "Comparable").run Try.prog w = .ok (131, v) w := by kernel_rfl
theorem Try.isComp : (Try.prog.info? 106).map (·.comparable) = some true := by kernel_rfl
theorem Try.noIsC (v : Value) (xT : TypeId) (w : World) : (Instr.typeAssert (.iface 106 v) xT 155 true).run Try.prog w = .ok (.tuple #[.nilIface, .bool false]) w := run_typeAssert_lacksB Try.underlying155 (by kernel_rfl) (by kernel_rfl) v xT w
theorem Try.noUnwrapC (v : Value) (xT : TypeId) (w : World) : (Instr.typeAssert (.iface 106 v) xT 158 true).run Try.prog w = .ok (.tuple #[.nilIface, .bool false]) w := run_typeAssert_lacksB Try.underlying158 (by kernel_rfl) (by kernel_rfl) v xT w
theorem Try.noUnwrapsC (v : Value) (xT : TypeId) (w : World) : (Instr.typeAssert (.iface 106 v) xT 160 true).run Try.prog w = .ok (.tuple #[.nilIface, .bool false]) w := run_typeAssert_lacksB Try.underlying160 (by kernel_rfl) (by kernel_rfl) v xT w

theorem is_same (k : Int) (w : World) :
    Calls Try.prog 58 #[.iface 106 (.int .i64 k), .iface 106 (.int .i64 k)] w fun e w' => e = .returned (.bool true) ∧ w = w' := by
  obtain ⟨i, hi, hcmp⟩ := Option.map_eq_some_iff.1 Try.isComp
  have h8 := @run_callFunc_extern Try.prog 79 _ Extern.ReflectliteType.typeOf Try.func79 (by kernel_rfl) (by kernel_rfl) (by kernel_rfl) (by kernel_rfl)
  have h32 := @run_callFunc_extern Try.prog 131 _ cmpEntry Try.func131 (by kernel_rfl) (by kernel_rfl) (by kernel_rfl) (by kernel_rfl)
  have tT := Try.isTypeOf
  have cT := Try.isComparable
  have mR := Try.isMethodComparable
  have heq := Ytigkcbnlbdiimaa_run_eql_iface_int (P := Try.prog) w k k Try.underlying27 Try.underlying106 hi hcmp
  rw [beq_self_eq_true] at heq
  clear hi hcmp
  go_enter Try.func58, Try.ntmps58
  go_wp2
  refine wp_loop_rounds 1 ?_
  rw [rounds_succ]
  go_wp2
  go_ret
  exact ⟨rfl, rfl⟩

theorem is_other (k c : Int) (hne : k ≠ c) (w : World) :
    Calls Try.prog 58 #[.iface 106 (.int .i64 k), .iface 106 (.int .i64 c)] w fun e w' => e = .returned (.bool false) ∧ w = w' := by
  obtain ⟨i, hi, hcmp⟩ := Option.map_eq_some_iff.1 Try.isComp
  have h8 := @run_callFunc_extern Try.prog 79 _ Extern.ReflectliteType.typeOf Try.func79 (by kernel_rfl) (by kernel_rfl) (by kernel_rfl) (by kernel_rfl)
  have h32 := @run_callFunc_extern Try.prog 131 _ cmpEntry Try.func131 (by kernel_rfl) (by kernel_rfl) (by kernel_rfl) (by kernel_rfl)
  have tT := Try.isTypeOf
  have cT := Try.isComparable
  have mR := Try.isMethodComparable
  have nE := Try.noIsC
  have uE := Try.noUnwrapC
  have vE := Try.noUnwrapsC
  have heq := Ytigkcbnlbdiimaa_run_eql_iface_int (P := Try.prog) w k c Try.underlying27 Try.underlying106 hi hcmp
  rw [show (k == c) = false from beq_eq_false_iff_ne.2 hne] at heq
  clear hi hcmp hne
  go_enter Try.func58, Try.ntmps58
  go_wp2
  refine wp_loop_rounds 1 ?_
  rw [rounds_succ]
  go_wp2
  go_ret
  exact ⟨rfl, rfl⟩
theorem is_any (k c : Int) (w : World) :
    Calls Try.prog 58 #[.iface 106 (.int .i64 k), .iface 106 (.int .i64 c)] w fun e w' => e = .returned (.bool (k == c)) ∧ w = w' := by
  by_cases h : k = c
  · subst h; rw [beq_self_eq_true]; exact is_same k w
  · rw [show (k == c) = false from beq_eq_false_iff_ne.2 h]; exact is_other k c h w

set_option maxHeartbeats 400000 in
theorem code_nil (w : World) : Calls Try.prog 18 #[.nilIface] w fun e w' => e = .returned (.int .i64 0) ∧ w = w' := by
  go_enter Try.func18, Try.ntmps18
  go_wp2
  go_ret
  exact ⟨rfl, rfl⟩
set_option maxRecDepth 100000 in
set_option maxHeartbeats 400000 in
theorem code_some (k : Int) (h1 : 1 ≤ k) (h2 : k ≤ 17) (w : World) :
    Calls Try.prog 18 #[.iface 106 (.int .i64 k)] w fun e w' => e = .returned (.int .i64 k) ∧ w = w' := by
  have hn := run_eql_iface_nil_left (P := Try.prog) w 106 (.int .i64 k) Try.underlying27
  go_enter Try.func18, Try.ntmps18
  go_wp2
  go_loop [3] (fun c => ∃ j : Nat, 1 ≤ j ∧ (j : Int) ≤ k ∧ c = .int .i64 j) (fun c => 18 - (intOf c).toNat)
  case atStart => exact ⟨1, by omega, by omega, rfl⟩
  case round =>
    obtain ⟨j, hj1, hj2, rfl⟩ := hrel
    by_cases he : k = (j : Int)
    · subst he
      clear hj2 hn
      go_wp2_with (go_at_call 58; refine (is_same _ _).mono ?_; rintro e w' ⟨rfl, rfl⟩)
      go_ret
      exact ⟨rfl, rfl⟩
    · go_wp2_with (go_at_call 58; refine (is_other _ _ (by omega) _).mono ?_; rintro e w' ⟨rfl, rfl⟩)
      go_round
      case rel => exact ⟨j + 1, by omega, by omega, by go_num⟩
      case measure => simp [intOf]; omega
theorem code_any (k : Int) (h1 : 0 ≤ k) (h2 : k ≤ 17) (w : World) :
    Calls Try.prog 18 #[errV k] w fun e w' => e = .returned (.int .i64 k) ∧ w = w' := by
  by_cases h : k = 0
  · subst h; exact code_nil w
  · rw [errV_ne h]; exact code_some k (by omega) h2 w
end Go.Proofs.Ytigkcbnlbdiimaa

/- The directory's map as plain lists: what its commands do. No program. -/
namespace Go.Proofs.Ytigkcbnlbdiimaa
open Go.RowKit
def placeB (n : Int) : Bool := decide (0 ≤ n) && decide (n ≤ 255)
def threeB (a b c : Int) : Bool := placeB a && placeB b && placeB c && a != b && b != c && a != c
structure Ent where
  vol : Int
  epoch : Int
  n0 : Int
  n1 : Int
  n2 : Int
  shut : Bool
def Ent.row (x : Ent) : List Value := [.int .i64 x.vol, .int .i64 x.epoch, .int .i64 x.n0, .int .i64 x.n1, .int .i64 x.n2, .bool x.shut]
def Ent.val (x : Ent) : Value := .agg #[.int .i64 x.vol, .int .i64 x.epoch, .int .i64 x.n0, .int .i64 x.n1, .int .i64 x.n2, .bool x.shut]
theorem Ent.row_len (x : Ent) : x.row.length = 6 := rfl
structure Cmd where
  kind : Int
  vol : Int
  epoch : Int
  spot : Int
  node : Int
  n0 : Int
  n1 : Int
  n2 : Int
def Cmd.row (x : Cmd) : List Value := [.int .i64 x.kind, .int .i64 x.vol, .int .i64 x.epoch, .int .i64 x.spot, .int .i64 x.node, .int .i64 x.n0, .int .i64 x.n1, .int .i64 x.n2]
def Cmd.val (x : Cmd) : Value := .agg #[.int .i64 x.kind, .int .i64 x.vol, .int .i64 x.epoch, .int .i64 x.spot, .int .i64 x.node, .int .i64 x.n0, .int .i64 x.n1, .int .i64 x.n2]
theorem Cmd.row_len (x : Cmd) : x.row.length = 8 := rfl
def wrapI (n : Int) : Int := wrap64 n
theorem wrapI_id (n : Int) (h1 : -9223372036854775808 ≤ n) (h2 : n ≤ 9223372036854775807) : wrapI n = n := by
  unfold wrapI wrap64; omega
def errNode (x : Ent) (c : Cmd) : Nat :=
  if c.spot < 0 ∨ 3 ≤ c.spot ∨ placeB c.node = false then 1
  else if x.n0 = c.node ∨ x.n1 = c.node ∨ x.n2 = c.node then 8 else 0
/-- What a command makes of a volume that is there, and the error. -/
def turnE (x : Ent) (c : Cmd) : Nat :=
  if c.kind = 2 then (if x.shut then 10 else 0)
  else if c.kind = 3 then (if x.shut then 0 else 8)
  else if c.kind = 4 then errNode x c else 0
def turnX (x : Ent) (c : Cmd) : Ent :=
  if c.kind = 2 then { x with shut := true, epoch := wrapI (x.epoch + 1) }
  else if c.kind = 3 then { x with shut := false, epoch := wrapI (x.epoch + 1) }
  else if c.kind = 4 then { x with n0 := if c.spot = 0 then c.node else x.n0, n1 := if c.spot = 1 then c.node else x.n1, n2 := if c.spot = 2 then c.node else x.n2, epoch := wrapI (x.epoch + 1) }
  else { x with epoch := wrapI (x.epoch + 1) }
def turnV (x : Ent) (c : Cmd) : Ent := if turnE x c = 0 then turnX x c else x
end Go.Proofs.Ytigkcbnlbdiimaa

/- The functions of package dirs: what each computes, and what it does to memory. -/
namespace Go.Proofs.Ytigkcbnlbdiimaa
open Go.RowKit
set_option maxHeartbeats 400000 in
theorem place_any (n : Int) (w : World) :
    Calls Try.prog 78 #[.int .i64 n] w fun e w' => e = .returned (.bool (placeB n)) ∧ w = w' := by
  by_cases h : 0 ≤ n
  · go_enter Try.func78, Try.ntmps78
    go_wp2
    go_ret
    exact ⟨by simp [placeB, h], rfl⟩
  · go_enter Try.func78, Try.ntmps78
    go_wp2
    go_ret
    exact ⟨by simp [placeB]; omega, rfl⟩
set_option maxHeartbeats 400000 in
theorem three_any (a b c : Int) (w : World) :
    Calls Try.prog 55 #[.agg #[.int .i64 a, .int .i64 b, .int .i64 c]] w fun e w' => e = .returned (.bool (threeB a b c)) ∧ Below w.heap.size w w' := by
  go_enter Try.func55, Try.ntmps55
  go_wp2_with (go_at_call 78; refine (place_any _ _).mono ?_; rintro e w' ⟨rfl, rfl⟩)
  all_goals
    go_ret
    exact ⟨by simp [threeB, *], (Below.refl _ _).alloc (Nat.le_refl _) _⟩
def idxOf (zs : List Int) (x : Int) : Int := match zs.findIdx? (· == x) with | some i => i | none => -1
theorem idxOf_at (zs : List Int) (x : Int) (k : Nat) (hk : k < zs.length) (hb : ∀ j, j < k → zs.getD j 0 ≠ x) (h : zs.getD k 0 = x) : idxOf zs x = k := by
  have : zs.findIdx? (· == x) = some k := by
    rw [List.findIdx?_eq_some_iff_getElem]
    refine ⟨hk, by simpa [List.getD_eq_getElem?_getD, hk] using h, fun j hj => ?_⟩
    have h2 := hb j hj
    have hj' : j < zs.length := by omega
    simpa [List.getD_eq_getElem?_getD, hj'] using h2
  simp [idxOf, this]
theorem idxOf_none (zs : List Int) (x : Int) (h : ∀ j, j < zs.length → zs.getD j 0 ≠ x) : idxOf zs x = -1 := by
  have : zs.findIdx? (· == x) = none := by
    rw [List.findIdx?_eq_none_iff]
    intro y hy
    obtain ⟨j, hj, rfl⟩ := List.mem_iff_getElem.1 hy
    have h2 := h j hj
    simpa [List.getD_eq_getElem?_getD, hj] using h2
  simp [idxOf, this]
theorem idxOf_contains (zs : List Int) (x : Int) : decide (0 ≤ idxOf zs x) = zs.contains x := by
  unfold idxOf
  cases h : zs.findIdx? (· == x) with
  | some i =>
    obtain ⟨hk, hx, _⟩ := List.findIdx?_eq_some_iff_getElem.1 h
    have : x ∈ zs := by have := List.getElem_mem hk; simp at hx; rwa [← hx]
    simp [List.contains_iff_mem, this]
  | none =>
    rw [List.findIdx?_eq_none_iff] at h
    have : x ∉ zs := fun hm => by have := h x hm; simp at this
    simp [this]
set_option maxHeartbeats 400000 in
theorem index_any (b o n cap : Nat) (zs : List Int) (x : Int) (w : World) (hl : zs.length = n) (hc : ∀ i, i < n → w.cell? ⟨b, o + i, none⟩ = some (.int .i64 (zs.getD i 0))) (hm : n ≤ maxLen) :
    Calls Try.prog 75 #[.slice (some ⟨b, o, none⟩) n cap, .int .i64 x] w fun e w' => e = .returned (.int .i64 (idxOf zs x)) ∧ w = w' := by
  unfold maxLen at hm
  have HL := Lib.hid hl
  clear hl
  go_enter Try.func75, Try.ntmps75
  go_wp2
  go_loop [8] (fun i => ∃ k : Nat, k ≤ n ∧ (∀ j, j < k → zs.getD j 0 ≠ x) ∧ i = .int .i64 k) (fun i => n - (intOf i).toNat)
  case atStart => exact ⟨0, Nat.zero_le _, fun j hj => absurd hj (Nat.not_lt_zero j), rfl⟩
  case round =>
    obtain ⟨k, hk, hb, rfl⟩ := hrel
    have HB := Lib.hid hb
    clear hb
    by_cases hlt : k < n
    · have h0 := hc k hlt
      have HC := Lib.hid hc
      clear hc
      obtain ⟨y, hy⟩ : ∃ y, zs.getD k 0 = y := ⟨_, rfl⟩
      rw [hy] at h0
      have HY := Lib.hid hy
      clear hy
      by_cases he : x = y
      · have hq : (x == y) = true := by simpa using he
        have HE := Lib.hid he
        clear he
        go_wp2
        go_ret
        exact ⟨ret_int (idxOf_at zs x k (by rw [HL.out]; exact hlt) HB.out (HY.out.trans HE.out.symm)).symm, rfl⟩
      · have hq : (x == y) = false := by simpa using he
        have HE := Lib.hid he
        clear he
        go_wp2
        go_round
        case rel => exact ⟨k + 1, by omega, fun j hj => by
          by_cases hjk : j = k
          · rw [hjk, HY.out]; exact fun h => HE.out h.symm
          · exact HB.out j (by omega), by go_num⟩
        case measure => simp [intOf]; omega
    · have HC := Lib.hid hc
      clear hc
      go_wp2
      go_ret
      exact ⟨ret_int (idxOf_none zs x (fun j hj => HB.out j (by have := HL.out; omega))).symm, rfl⟩
set_option maxHeartbeats 400000 in
theorem contains_any (b o n cap : Nat) (zs : List Int) (x : Int) (w : World) (hl : zs.length = n) (hc : ∀ i, i < n → w.cell? ⟨b, o + i, none⟩ = some (.int .i64 (zs.getD i 0))) (hm : n ≤ maxLen) :
    Calls Try.prog 59 #[.slice (some ⟨b, o, none⟩) n cap, .int .i64 x] w fun e w' => e = .returned (.bool (zs.contains x)) ∧ w = w' := by
  have hi := index_any b o n cap zs x w hl hc hm
  have HD := Lib.hid (idxOf_contains zs x)
  have HI := Lib.hid hi
  clear hi hl hc hm
  generalize idxOf zs x = r at *
  go_enter Try.func59, Try.ntmps59
  go_wp2_with (go_at_call 75; refine HI.out.mono ?_; rintro e w' ⟨rfl, rfl⟩)
  go_ret
  exact ⟨ret_bool HD.out, rfl⟩
/-- Contains at an array of three. -/
theorem contains3 (b o cap : Nat) (x0 x1 x2 x : Int) (r : Bool) (w : World) (hr : [x0, x1, x2].contains x = r) (h0 : w.cell? ⟨b, o, none⟩ = some (.int .i64 x0)) (h1 : w.cell? ⟨b, o + 1, none⟩ = some (.int .i64 x1)) (h2 : w.cell? ⟨b, o + 2, none⟩ = some (.int .i64 x2)) :
    Calls Try.prog 59 #[.slice (some ⟨b, o, none⟩) 3 cap, .int .i64 x] w fun e w' => e = .returned (.bool r) ∧ w = w' := by
  subst hr
  refine contains_any b o 3 cap [x0, x1, x2] x w rfl (fun i hi => ?_) (by unfold maxLen; omega)
  match i, hi with
  | 0, _ => simpa using h0
  | 1, _ => simpa using h1
  | 2, _ => simpa using h2
set_option maxHeartbeats 4000000 in
theorem turn_any (x : Ent) (c : Cmd) (w : World) :
    Calls Try.prog 56 #[.agg #[.int .i64 x.vol, .int .i64 x.epoch, .int .i64 x.n0, .int .i64 x.n1, .int .i64 x.n2, .bool x.shut],
      .agg #[.int .i64 c.kind, .int .i64 c.vol, .int .i64 c.epoch, .int .i64 c.spot, .int .i64 c.node, .int .i64 c.n0, .int .i64 c.n1, .int .i64 c.n2]] w
      fun e w' => e = .returned (.tuple #[(turnV x c).val, errV (turnE x c)]) ∧ Below w.heap.size w w' := by
  obtain ⟨v, ep, n0, n1, n2, sh⟩ := x
  obtain ⟨k, cv, ce, cs, cn, c0, c1, c2⟩ := c
  by_cases h2 : k = 2
  · subst h2
    cases sh
    all_goals
      go_enter Try.func56, Try.ntmps56
      go_wp2
      refine bodyPost_ret (v := ?_) ?_ rfl ?_
      rotate_left
      focus (simp [results, Try.results56, go_sem]; exact rfl)
      exact ⟨by simp [turnV, turnE, turnX, Ent.val, errV, wrapI], (by repeat (first | (with_reducible exact Below.refl _ _) | (with_reducible refine Below.setCell ?_ ?_ _) | (with_reducible refine Below.alloc ?_ ?_ _) | (with_reducible refine Below.drewN ?_ _) | (with_reducible refine Below.drew ?_) | (with_reducible exact Nat.le_refl _) | (focus (simp only [World.size_alloc, World.size_setCell, World.size_drew, World.size_drewN]; omega)) | omega | exact Nat.le_refl _ | (focus (simp; done)) | (focus (simp; omega))))⟩
  by_cases h3 : k = 3
  · subst h3
    cases sh
    all_goals
      go_enter Try.func56, Try.ntmps56
      go_wp2
      refine bodyPost_ret (v := ?_) ?_ rfl ?_
      rotate_left
      focus (simp [results, Try.results56, go_sem]; exact rfl)
      exact ⟨by simp [turnV, turnE, turnX, Ent.val, errV, wrapI], (by repeat (first | (with_reducible exact Below.refl _ _) | (with_reducible refine Below.setCell ?_ ?_ _) | (with_reducible refine Below.alloc ?_ ?_ _) | (with_reducible refine Below.drewN ?_ _) | (with_reducible refine Below.drew ?_) | (with_reducible exact Nat.le_refl _) | (focus (simp only [World.size_alloc, World.size_setCell, World.size_drew, World.size_drewN]; omega)) | omega | exact Nat.le_refl _ | (focus (simp; done)) | (focus (simp; omega))))⟩
  by_cases h4 : k = 4
  · subst h4
    clear h2 h3
    by_cases hs : cs < 0 ∨ 3 ≤ cs
    · have hE : errNode ⟨v, ep, n0, n1, n2, sh⟩ ⟨4, cv, ce, cs, cn, c0, c1, c2⟩ = 1 := by
        unfold errNode; rw [if_pos]; rcases hs with h | h
        · exact .inl h
        · exact .inr (.inl h)
      rcases hs with hs | hs
      · go_enter Try.func56, Try.ntmps56
        go_wp2
        refine bodyPost_ret (v := ?_) ?_ rfl ?_
        rotate_left
        focus (simp [results, Try.results56, go_sem]; exact rfl)
        exact ⟨by simp [turnV, turnE, hE, Ent.val, errV, wrapI], (by repeat (first | (with_reducible exact Below.refl _ _) | (with_reducible refine Below.setCell ?_ ?_ _) | (with_reducible refine Below.alloc ?_ ?_ _) | (with_reducible refine Below.drewN ?_ _) | (with_reducible refine Below.drew ?_) | (with_reducible exact Nat.le_refl _) | (focus (simp only [World.size_alloc, World.size_setCell, World.size_drew, World.size_drewN]; omega)) | omega | exact Nat.le_refl _ | (focus (simp; done)) | (focus (simp; omega))))⟩
      · have hs' : ¬ cs < 0 := by omega
        go_enter Try.func56, Try.ntmps56
        go_wp2
        refine bodyPost_ret (v := ?_) ?_ rfl ?_
        rotate_left
        focus (simp [results, Try.results56, go_sem]; exact rfl)
        exact ⟨by simp [turnV, turnE, hE, Ent.val, errV, wrapI], (by repeat (first | (with_reducible exact Below.refl _ _) | (with_reducible refine Below.setCell ?_ ?_ _) | (with_reducible refine Below.alloc ?_ ?_ _) | (with_reducible refine Below.drewN ?_ _) | (with_reducible refine Below.drew ?_) | (with_reducible exact Nat.le_refl _) | (focus (simp only [World.size_alloc, World.size_setCell, World.size_drew, World.size_drewN]; omega)) | omega | exact Nat.le_refl _ | (focus (simp; done)) | (focus (simp; omega))))⟩
    · cases hp : placeB cn
      · have hE : errNode ⟨v, ep, n0, n1, n2, sh⟩ ⟨4, cv, ce, cs, cn, c0, c1, c2⟩ = 1 := by
          unfold errNode; rw [if_pos]; exact .inr (.inr hp)
        have hs1 : 0 ≤ cs := by omega
        have hs2 : cs < 3 := by omega
        clear hs
        go_enter Try.func56, Try.ntmps56
        go_wp2_with (go_at_call 78; refine (place_any _ _).mono ?_; rintro e w' ⟨rfl, rfl⟩)
        refine bodyPost_ret (v := ?_) ?_ rfl ?_
        rotate_left
        focus (simp [results, Try.results56, go_sem]; exact rfl)
        exact ⟨by simp [turnV, turnE, hE, Ent.val, errV, wrapI], (by repeat (first | (with_reducible exact Below.refl _ _) | (with_reducible refine Below.setCell ?_ ?_ _) | (with_reducible refine Below.alloc ?_ ?_ _) | (with_reducible refine Below.drewN ?_ _) | (with_reducible refine Below.drew ?_) | (with_reducible exact Nat.le_refl _) | (focus (simp only [World.size_alloc, World.size_setCell, World.size_drew, World.size_drewN]; omega)) | omega | exact Nat.le_refl _ | (focus (simp; done)) | (focus (simp; omega))))⟩
      · cases hc : [n0, n1, n2].contains cn
        · have hE : errNode ⟨v, ep, n0, n1, n2, sh⟩ ⟨4, cv, ce, cs, cn, c0, c1, c2⟩ = 0 := by
            unfold errNode
            rw [if_neg (by simp [hp]; omega), if_neg]
            show ¬ (n0 = cn ∨ n1 = cn ∨ n2 = cn)
            simp at hc
            omega
          have HC := Lib.hid hc
          clear hc
          have hs3 : cs = 0 ∨ cs = 1 ∨ cs = 2 := by omega
          clear hs
          rcases hs3 with rfl | rfl | rfl
          all_goals
            go_enter Try.func56, Try.ntmps56
            go_wp2_with (first
              | (go_at_call 78; refine (place_any _ _).mono ?_; rintro e w' ⟨rfl, rfl⟩)
              | (go_quiet ((go_at_call 59; exact quiet_of_eq (contains3 _ _ _ n0 n1 n2 _ _ _ HC.out (by go_simp) (by go_simp) (by go_simp))))))
            refine bodyPost_ret (v := ?_) ?_ rfl ?_
            rotate_left
            focus (simp [results, Try.results56, go_sem]; exact rfl)
            exact ⟨by simp [turnV, turnE, turnX, hE, Ent.val, errV, wrapI], (by repeat (first | (with_reducible exact Below.refl _ _) | (with_reducible refine Below.setCell ?_ ?_ _) | (with_reducible refine Below.alloc ?_ ?_ _) | (with_reducible refine Below.drewN ?_ _) | (with_reducible refine Below.drew ?_) | (with_reducible exact Nat.le_refl _) | (focus (simp only [World.size_alloc, World.size_setCell, World.size_drew, World.size_drewN]; omega)) | omega | exact Nat.le_refl _ | (focus (simp; done)) | (focus (simp; omega))))⟩
        · have hE : errNode ⟨v, ep, n0, n1, n2, sh⟩ ⟨4, cv, ce, cs, cn, c0, c1, c2⟩ = 8 := by
            unfold errNode
            rw [if_neg (by simp [hp]; omega), if_pos]
            show n0 = cn ∨ n1 = cn ∨ n2 = cn
            simp at hc
            omega
          have HC := Lib.hid hc
          clear hc
          have hs1 : 0 ≤ cs := by omega
          have hs2 : cs < 3 := by omega
          clear hs
          go_enter Try.func56, Try.ntmps56
          go_wp2_with (first
            | (go_at_call 78; refine (place_any _ _).mono ?_; rintro e w' ⟨rfl, rfl⟩)
            | (go_quiet ((go_at_call 59; exact quiet_of_eq (contains3 _ _ _ n0 n1 n2 _ _ _ HC.out (by go_simp) (by go_simp) (by go_simp))))))
          refine bodyPost_ret (v := ?_) ?_ rfl ?_
          rotate_left
          focus (simp [results, Try.results56, go_sem]; exact rfl)
          exact ⟨by simp [turnV, turnE, turnX, hE, Ent.val, errV, wrapI], (by repeat (first | (with_reducible exact Below.refl _ _) | (with_reducible refine Below.setCell ?_ ?_ _) | (with_reducible refine Below.alloc ?_ ?_ _) | (with_reducible refine Below.drewN ?_ _) | (with_reducible refine Below.drew ?_) | (with_reducible exact Nat.le_refl _) | (focus (simp only [World.size_alloc, World.size_setCell, World.size_drew, World.size_drewN]; omega)) | omega | exact Nat.le_refl _ | (focus (simp; done)) | (focus (simp; omega))))⟩
  · go_enter Try.func56, Try.ntmps56
    go_wp2
    refine bodyPost_ret (v := ?_) ?_ rfl ?_
    rotate_left
    focus (simp [results, Try.results56, go_sem]; exact rfl)
    exact ⟨by simp [turnV, turnE, turnX, h2, h3, h4, Ent.val, errV, wrapI], (by repeat (first | (with_reducible exact Below.refl _ _) | (with_reducible refine Below.setCell ?_ ?_ _) | (with_reducible refine Below.alloc ?_ ?_ _) | (with_reducible refine Below.drewN ?_ _) | (with_reducible refine Below.drew ?_) | (with_reducible exact Nat.le_refl _) | (focus (simp only [World.size_alloc, World.size_setCell, World.size_drew, World.size_drewN]; omega)) | omega | exact Nat.le_refl _ | (focus (simp; done)) | (focus (simp; omega))))⟩
end Go.Proofs.Ytigkcbnlbdiimaa

/- The directory's map in memory: Clone, New, All, Find. -/
namespace Go.Proofs.Ytigkcbnlbdiimaa
open Go.RowKit
/-- slices.Clone at []corncrib/dirs.Entry,corncrib/dirs.Entry. -/
theorem clone_info_Ent : (Try.prog.info? 37).map (fun i => (i.zero, i.size, i.bytes)) = some (some (.agg #[.int .i64 0, .int .i64 0, .int .i64 0, .int .i64 0, .int .i64 0, .bool false]), 6, 48) := by kernel_rfl
set_option maxRecDepth 100000 in
set_option maxHeartbeats 1000000 in
theorem clone_Ent (v : Value) (n : Nat) (xs : List Value) (w : World) (h : Reads w 6 v n xs) (h1 : ∀ u ∈ xs, u.oneCell' = true) (hb : n * 48 ≤ 140737488355328) :
    Calls Try.prog 57 #[v] w (CloneOut w 37 6 v n xs) := by
  obtain ⟨i0, hi, hz0, hz1, hz2⟩ := info_parts clone_info_Ent
  obtain ⟨hlen, ⟨rfl, rfl⟩ | ⟨a, c, rfl, hm, hcell⟩⟩ := h
  · have hx : xs = [] := List.eq_nil_of_length_eq_zero (by simpa using hlen)
    subst hx
    clear hi hz0 hz1 hz2 hlen h1 hb
    have hne := fun (wx : World) => Lib.run_eql_slice_nil (P := Try.prog) wx 33 37 none 0 0 0 0 Try.underlying33
    go_enter Try.func57, Try.ntmps57
    go_wp2
    go_ret
    exact ⟨_, rfl, World.ownsRow_nil _ _ _ _, Iff.rfl, Below.refl _ _⟩
  · have hne := fun (wx : World) => Lib.run_eql_slice_nil (P := Try.prog) wx 33 37 (some a) n c 0 0 Try.underlying33
    have HI := Lib.hid hi
    have HZ0 := Lib.hid hz0
    have HZ1 := Lib.hid hz1
    have HZ2 := Lib.hid hz2
    have HL := Lib.hid hlen
    have HC := Lib.hid hcell
    have H1 := Lib.hid h1
    clear hi hz0 hz1 hz2 hlen hcell h1
    go_enter Try.func57, Try.ntmps57
    go_wp2_with (at_builtin; refine wpList_append_own _ rfl _ _ 33 rfl w.heap.size 37 i0 (.agg #[.int .i64 0, .int .i64 0, .int .i64 0, .int .i64 0, .int .i64 0, .bool false]) 6 48 Try.underlying33 HI.out HZ0.out HZ1.out HZ2.out rfl (by decide) (.slice (some ⟨w.heap.size, 0, none⟩) 0 0) 0 [] rfl (World.ownsRow_lit w #[] 0 (Nat.le_refl _) (by unfold maxLen; omega) rfl) a n c xs rfl HL.out (fun j u hu => cell_later ((Below.refl _ _).alloc (Nat.le_refl _) _) (HC.out j u hu)) H1.out (by omega) (by omega) (by simp) ?_; intro v' w1 hown' hgrow hnil)
    go_ret
    exact ⟨_, rfl, by simpa using hown', by simpa using hnil, (((Below.refl _ _).alloc (Nat.le_refl _) _).grown hgrow (by simp) (by simp [Value.ownBlock]))⟩

theorem Ent.one (es : List Ent) : ∀ u ∈ es.flatMap Ent.row, u.oneCell' = true := by
  intro u hu
  obtain ⟨x, _, hx⟩ := List.mem_flatMap.1 hu
  simp only [Ent.row, List.mem_cons, List.not_mem_nil, or_false] at hx
  rcases hx with rfl | rfl | rfl | rfl | rfl | rfl <;> rfl

/-- A *dirs.Map at block bm; v: its slice value. -/
structure MapAt (w : World) (base bm : Nat) (v : Value) (es : List Ent) : Prop where
  blk : w.heap[bm]? = some (.cells #[v] 105 (0, 0))
  row : w.ownsRow base 37 6 v es.length (es.flatMap Ent.row)
  low : base ≤ bm
  ne : v.ownBlock ≠ some bm
  few : es.length ≤ 4096
theorem MapAt.lt {w : World} {base bm : Nat} {v : Value} {es : List Ent} (h : MapAt w base bm v es) : bm < w.heap.size := (Array.getElem?_eq_some_iff.1 h.blk).1
theorem MapAt.cell {w : World} {base bm : Nat} {v : Value} {es : List Ent} (h : MapAt w base bm v es) : w.cell? ⟨bm, 0, none⟩ = some v := by
  rw [cell_of_row w bm 0 _ _ _ h.blk]; rfl
theorem MapAt.free {w : World} {base bm : Nat} {v : Value} {es : List Ent} (h : MapAt w base bm v es) : w.frozen? ⟨bm, 0, none⟩ = false := frozen_of_row w bm 0 _ _ h.blk
theorem MapAt.keeps {w w' : World} {base bm : Nat} {v : Value} {es : List Ent} {F : Nat → Prop} (h : MapAt w base bm v es) (hk : Keeps F w w') (h1 : ¬ F bm) (h2 : ∀ k, v.ownBlock = some k → ¬ F k) : MapAt w' base bm v es :=
  ⟨by rw [hk.block bm h.lt h1]; exact h.blk, ownsRow_keeps h.row hk h2, h.low, h.ne, h.few⟩
theorem MapAt.below {w w' : World} {base bm : Nat} {v : Value} {es : List Ent} (h : MapAt w base bm v es) (hk : Below w.heap.size w w') : MapAt w' base bm v es :=
  h.keeps (F := fun _ => False) (Keeps.of_below hk fun k hk _ => hk) (fun h => h) (fun _ _ h => h)
theorem MapAt.mono {w : World} {base base' bm : Nat} {v : Value} {es : List Ent} (h : MapAt w base bm v es) (hb : base' ≤ base) : MapAt w base' bm v es :=
  ⟨h.blk, ownsRow_mono h.row hb, Nat.le_trans hb h.low, h.ne, h.few⟩

set_option maxRecDepth 100000 in
set_option maxHeartbeats 400000 in
theorem new_any (w : World) : Calls Try.prog 15 #[] w fun e w' => e = .returned (.pointer (some ⟨w.heap.size, 0, none⟩)) ∧ w.alloc (.cells #[.slice none 0 0] 105) = w' := by
  go_enter Try.func15, Try.ntmps15
  go_wp2
  go_ret
  exact ⟨rfl, rfl⟩
theorem MapAt.made (w : World) (base : Nat) (hb : base ≤ w.heap.size) : MapAt (w.alloc (.cells #[.slice none 0 0] 105)) base w.heap.size (.slice none 0 0) [] :=
  ⟨heap_alloc_new w _, World.ownsRow_nil _ _ _ _, hb, by simp [Value.ownBlock], by simp⟩

set_option maxRecDepth 100000 in
set_option maxHeartbeats 400000 in
theorem all_any (base bm : Nat) (v : Value) (es : List Ent) (w : World) (h : MapAt w base bm v es) :
    Calls Try.prog 17 #[.pointer (some ⟨bm, 0, none⟩)] w (CloneOut w 37 6 v es.length (es.flatMap Ent.row)) := by
  have hc := h.cell
  have HC := Lib.hid (clone_Ent v es.length (es.flatMap Ent.row) w (reads_of_owns h.row) (Ent.one es) (by have := h.few; omega))
  clear h
  go_enter Try.func17, Try.ntmps17
  go_wp2_with (go_at_call 57; refine HC.out.mono ?_; rintro e w' ⟨v', rfl, ho, hn, hb⟩)
  go_ret
  exact ⟨_, rfl, ho, hn, hb⟩

/-- The cells of one entry. -/
theorem MapAt.ent {w : World} {base bm : Nat} {v : Value} {es : List Ent} (h : MapAt w base bm v es) (k : Nat) (x : Ent) (hx : es[k]? = some x) :
    ∃ g c, v = .slice (some ⟨g, 0, none⟩) es.length c ∧ g < w.heap.size ∧ base ≤ g ∧ g ≠ bm ∧ k < es.length ∧
      w.cell? ⟨g, k * 6, none⟩ = some (.int .i64 x.vol) ∧ w.cell? ⟨g, k * 6 + 1, none⟩ = some (.int .i64 x.epoch) ∧ w.cell? ⟨g, k * 6 + 2, none⟩ = some (.int .i64 x.n0) ∧
      w.cell? ⟨g, k * 6 + 3, none⟩ = some (.int .i64 x.n1) ∧ w.cell? ⟨g, k * 6 + 4, none⟩ = some (.int .i64 x.n2) ∧ w.cell? ⟨g, k * 6 + 5, none⟩ = some (.bool x.shut) := by
  have hk : k < es.length := (List.getElem?_eq_some_iff.1 hx).1
  have hr := h.row
  have hlt := hr.lt
  have hne := h.ne
  rcases hr.2 with ⟨_, hz⟩ | ⟨g, cap, cur, rfl, hg, _⟩
  · omega
  · have hg1 := hlt g rfl
    have hc := fun j hj => ownsRow_cell Ent.row 6 Ent.row_len es hr k j x hx hj
    refine ⟨g, cap, rfl, hg1.2, hg1.1, fun e => hne (by rw [e]; rfl), hk, ?_, ?_, ?_, ?_, ?_, ?_⟩
    · simpa [Ent.row] using hc 0 (by omega)
    · simpa [Ent.row] using hc 1 (by omega)
    · simpa [Ent.row] using hc 2 (by omega)
    · simpa [Ent.row] using hc 3 (by omega)
    · simpa [Ent.row] using hc 4 (by omega)
    · simpa [Ent.row] using hc 5 (by omega)

set_option maxRecDepth 100000 in
set_option maxHeartbeats 1000000 in
theorem find_yes (base bm : Nat) (v : Value) (es : List Ent) (k : Nat) (x : Ent) (w : World) (h : MapAt w base bm v es) (hx : es[k]? = some x) :
    Calls Try.prog 19 #[.pointer (some ⟨bm, 0, none⟩), .int .i64 ((k : Int) + 1)] w
      fun e w' => e = .returned (.tuple #[.agg #[.int .i64 x.vol, .int .i64 x.epoch, .int .i64 x.n0, .int .i64 x.n1, .int .i64 x.n2, .bool x.shut], .nilIface]) ∧ Below w.heap.size w w' := by
  obtain ⟨g, c, rfl, hg, _, hne, hk, c0, c1, c2, c3, c4, c5⟩ := h.ent k x hx
  have hc := h.cell
  have hlt := h.lt
  have hfew := h.few
  obtain ⟨v0, e0, x0, x1, x2, s0⟩ := x
  clear h hx
  generalize es.length = n at *
  go_enter Try.func19, Try.ntmps19
  go_wp2
  refine bodyPost_ret (v := ?_) ?_ rfl ?_
  rotate_left
  focus (simp [results, Try.results19, go_sem]; exact rfl)
  exact ⟨rfl, (by repeat (first | (with_reducible exact Below.refl _ _) | (with_reducible refine Below.setCell ?_ ?_ _) | (with_reducible refine Below.alloc ?_ ?_ _) | (with_reducible refine Below.drewN ?_ _) | (with_reducible refine Below.drew ?_) | (with_reducible exact Nat.le_refl _) | (focus (simp only [World.size_alloc, World.size_setCell, World.size_drew, World.size_drewN]; omega)) | omega | exact Nat.le_refl _ | (focus (simp; done)) | (focus (simp; omega))))⟩
set_option maxRecDepth 100000 in
set_option maxHeartbeats 1000000 in
theorem find_no (base bm : Nat) (v : Value) (es : List Ent) (k : Int) (w : World) (h : MapAt w base bm v es) (hk : k < 1 ∨ es.length < k) :
    Calls Try.prog 19 #[.pointer (some ⟨bm, 0, none⟩), .int .i64 k] w
      fun e w' => e = .returned (.tuple #[.agg #[.int .i64 0, .int .i64 0, .int .i64 0, .int .i64 0, .int .i64 0, .bool false], .iface 106 (.int .i64 6)]) ∧ Below w.heap.size w w' := by
  have hc := h.cell
  have hlt := h.lt
  obtain ⟨a, c, rfl⟩ := ownsRow_len h.row
  clear h
  generalize es.length = n at *
  by_cases h1 : k < 1
  · clear hk
    go_enter Try.func19, Try.ntmps19
    go_wp2
    refine bodyPost_ret (v := ?_) ?_ rfl ?_
    rotate_left
    focus (simp [results, Try.results19, go_sem]; exact rfl)
    exact ⟨rfl, (by repeat (first | (with_reducible exact Below.refl _ _) | (with_reducible refine Below.setCell ?_ ?_ _) | (with_reducible refine Below.alloc ?_ ?_ _) | (with_reducible refine Below.drewN ?_ _) | (with_reducible refine Below.drew ?_) | (with_reducible exact Nat.le_refl _) | (focus (simp only [World.size_alloc, World.size_setCell, World.size_drew, World.size_drewN]; omega)) | omega | exact Nat.le_refl _ | (focus (simp; done)) | (focus (simp; omega))))⟩
  · have h2 : (n : Int) < k := by omega
    clear hk
    go_enter Try.func19, Try.ntmps19
    go_wp2
    refine bodyPost_ret (v := ?_) ?_ rfl ?_
    rotate_left
    focus (simp [results, Try.results19, go_sem]; exact rfl)
    exact ⟨rfl, (by repeat (first | (with_reducible exact Below.refl _ _) | (with_reducible refine Below.setCell ?_ ?_ _) | (with_reducible refine Below.alloc ?_ ?_ _) | (with_reducible refine Below.drewN ?_ _) | (with_reducible refine Below.drew ?_) | (with_reducible exact Nat.le_refl _) | (focus (simp only [World.size_alloc, World.size_setCell, World.size_drew, World.size_drewN]; omega)) | omega | exact Nat.le_refl _ | (focus (simp; done)) | (focus (simp; omega))))⟩
end Go.Proofs.Ytigkcbnlbdiimaa

/- More small laws: an append to an owned row inside a region that draws; facts behind a Below. -/
namespace Go.Proofs.Ytigkcbnlbdiimaa
open Go.RowKit
theorem step_append_own {P : Program} {ops : Array Oper} {o : Oper} {a : Act} {w : World} {K : Act → World → Prop} {Q : Exit → Act → World → Prop} {E : Prop}
    (hg : o.guard = none) (s x : Operand) (t : TypeId) (ho : o.op = Op.call { callee := Callee.builtin Builtin.append, args := #[s, x], argTypes := #[t, t] })
    (base : Nat) (e : TypeId) (i : TypeInfo) (z : Value) (size bytes : Nat) (ht : P.underlying t = some (.slice e)) (hi : P.info? e = some i) (hz : i.zero = some z)
    (hsize : i.size = size) (hby : i.bytes = bytes) (hzs : z.cells.size = size) (hsz : 0 < size)
    (v : Value) (n : Nat) (xs : List Value) (hs : a.eval s = v) (hown : w.ownsRow base e size v n xs)
    (ad : Addr) (m c : Nat) (news : List Value) (hx : a.eval x = .slice (some ad) m c) (hl : news.length = m * size) (hnews : ∀ j u, news[j]? = some u → w.cell? (ad.add j) = some u) (h1 : ∀ u ∈ news, u.oneCell' = true)
    (h63 : n + m ≤ maxLen) (hbytes : (n + m) * bytes ≤ 140737488355328) (hbase : base ≤ w.heap.size)
    (h : ∀ v' w', w'.ownsRow base e size v' (n + m) (xs ++ news) → w.grownBy w' v.ownBlock → K (a.put o.dst v') w') :
    if Region.wanted o (yielded ops a.tmps) = true then Oper.wp P o a w K Q else E := by
  have hw : Region.wanted o (yielded ops a.tmps) = true := by simp [Region.wanted, hg]
  rw [if_pos hw]
  exact wp_append_own w s x t ho base e i z size bytes ht hi hz hsize hby hzs hsz v n xs hs hown ad m c news hx hl hnews h1 h63 hbytes hbase (fun v' w' p q _ => h v' w' p q)
theorem bcell {W w1 : World} (hb : Below W.heap.size W w1) : (∀ b o, b < W.heap.size → w1.cell? ⟨b, o, none⟩ = W.cell? ⟨b, o, none⟩) ∧ (∀ b o, b < W.heap.size → w1.frozen? ⟨b, o, none⟩ = W.frozen? ⟨b, o, none⟩) :=
  ⟨fun b o h => hb.cell (p := ⟨b, o, none⟩) h, fun b o h => hb.frozen (p := ⟨b, o, none⟩) h⟩
theorem grown_cell {w w' : World} {row : Option Nat} (hg : w.grownBy w' row) {b o : Nat} (h : b < w.heap.size) (hne : row ≠ some b) : w'.cell? ⟨b, o, none⟩ = w.cell? ⟨b, o, none⟩ :=
  World.cell?_of_block (w := w) (hg.block b h (fun e => hne e.symm))
theorem grown_frozen {w w' : World} {row : Option Nat} (hg : w.grownBy w' row) {b o : Nat} (h : b < w.heap.size) (hne : row ≠ some b) : w'.frozen? ⟨b, o, none⟩ = w.frozen? ⟨b, o, none⟩ :=
  World.frozen?_of_block (w := w) (hg.block b h (fun e => hne e.symm))
/-- Values laid one behind the other from place p on. -/
def setAll : List Value → Nat → List Value → List Value
  | xs, _, [] => xs
  | xs, p, v :: vs => setAll (xs.set p v) (p + 1) vs
theorem setAll_eq : ∀ (vs xs : List Value) (p : Nat), p + vs.length ≤ xs.length → setAll xs p vs = xs.take p ++ vs ++ xs.drop (p + vs.length)
  | [], xs, p, _ => by simp [setAll]
  | v :: vs, xs, p, h => by
    have h' : p < xs.length := by simp at h; omega
    rw [setAll, setAll_eq vs (xs.set p v) (p + 1) (by simp at h ⊢; omega)]
    have e1 : (xs.set p v).take (p + 1) = xs.take p ++ [v] := by
      rw [List.take_succ_eq_append_getElem (by simpa using h'), List.take_set, List.set_eq_of_length_le (by simp; omega)]
      simp
    have e2 : (xs.set p v).drop (p + 1 + vs.length) = xs.drop (p + (v :: vs).length) := by
      rw [List.drop_set_of_lt (by omega)]
      congr 1
      simp; omega
    rw [e1, e2]
    simp
def setCellsAt (w : World) (g : Nat) : Nat → List Value → World
  | _, [] => w
  | p, v :: vs => setCellsAt (w.setCell ⟨g, p, none⟩ v) g (p + 1) vs
theorem ownsRow_setAll {base : Nat} {e : TypeId} {size g n cap : Nat} : ∀ (vs : List Value) (p : Nat) (w : World) (xs : List Value), w.ownsRow base e size (.slice (some ⟨g, 0, none⟩) n cap) n xs →
    (setCellsAt w g p vs).ownsRow base e size (.slice (some ⟨g, 0, none⟩) n cap) n (setAll xs p vs)
  | [], _, _, _, h => h
  | v :: vs, p, _, _, h => ownsRow_setAll vs (p + 1) _ _ (h.stored p v).1
/-- A struct stored whole into an owned row of structs. -/
theorem ownsRow_struct {α : Type} {w : World} {base : Nat} {e : TypeId} {g n cap : Nat} (f : α → List Value) (s : Nat) (hf : ∀ x, (f x).length = s) (l : List α) (i : Nat) (y : α) (hi : i < l.length)
    (h : w.ownsRow base e s (.slice (some ⟨g, 0, none⟩) n cap) n (l.flatMap f)) : (setCellsAt w g (i * s) (f y)).ownsRow base e s (.slice (some ⟨g, 0, none⟩) n cap) n ((l.set i y).flatMap f) := by
  have h1 := ownsRow_setAll (f y) (i * s) w _ h
  rw [setAll_eq (f y) (l.flatMap f) (i * s) (by
    rw [hf, length_flatMap_row f s hf]
    have : (i + 1) * s ≤ l.length * s := Nat.mul_le_mul_right s hi
    rw [Nat.succ_mul] at this; omega), hf] at h1
  rw [flatMap_set f s hf l i y hi]
  exact h1
end Go.Proofs.Ytigkcbnlbdiimaa

/- A region that draws its order, walked once: what only computes or reads is taken as soon as it may come up, what makes or writes memory in its forced order. S: what the reads lean on. The condition on the region is closed. Whatever the program. -/
namespace Go.Proofs.Ytigkcbnlbdiimaa
open Go.RowKit

/-- Does operation j wait for i, through however many? -/
def waitsFor (ops : Array Oper) : Nat → Nat → Nat → Bool
  | 0, _, _ => false
  | n + 1, j, i => match ops[j]? with
    | some o => o.after.any fun e => Region.binds .any e && (e.on == i || waitsFor ops n e.on i)
    | none => false
def unlisted (listed : Array Bool) (j : Nat) : Bool := !listed.getD j true
/-- Must S hold behind operation j? -/
def needs (ops : Array Oper) (rds : List Nat) (j : Nat) : Bool := rds.any fun r => r != j && !waitsFor ops ops.size j r
def freeOf (ops : Array Oper) (rds : List Nat) (rd : Bool) (listed : Array Bool) (i : Nat) (oi : Oper) : Bool :=
  (List.range ops.size).all fun j => j == i || !unlisted listed j || waitsFor ops ops.size j i || match ops[j]? with
    | some oj => oi.apart ops oj && (!rd || needs ops rds j)
    | none => true
/-- The closed condition: l lists the operations in the order of the walk, with their kinds: 0 computes, 1 makes or writes, 2 reads. -/
def okOrder (ops : Array Oper) (rds : List Nat) : Bool → Array Bool → List (Nat × Nat) → Bool
  | _, listed, [] => (Region.ready .any ops listed).isEmpty
  | has, listed, (i, k) :: rest => (match ops[i]? with
    | some oi => (Region.ready .any ops listed).contains i &&
      (match k with
       | 0 => freeOf ops rds false listed i oi && okOrder ops rds has (listed.setIfInBounds i true) rest
       | 1 => (Region.ready .any ops listed == [i]) && okOrder ops rds (has && needs ops rds i) (listed.setIfInBounds i true) rest
       | _ => has && freeOf ops rds true listed i oi && okOrder ops rds has (listed.setIfInBounds i true) rest)
    | none => false)

section
variable {P : Program} {ops : Array Oper} {Q : Exit → Act → World → Prop} {S : World → Prop} {rds : List Nat}
/-- As wpAny, and S is said behind each operation behind which it is needed. -/
def wpAnyN (P : Program) (ops : Array Oper) (rds : List Nat) (Q : Exit → Act → World → Prop) (S : World → Prop) : Nat → Array Bool → Act → World → Prop
  | 0, listed, a, w => Region.ready .any ops listed = [] ∧ Q .normal a w
  | fuel + 1, listed, a, w =>
    (Region.ready .any ops listed = [] → Q .normal a w) ∧
    ∀ i ∈ Region.ready .any ops listed, wpOp P ops Q i (fun a' w' => (needs ops rds i = true → S w → S w') ∧ wpAnyN P ops rds Q S fuel (listed.setIfInBounds i true) a' w') a w
theorem wpAny_of_N : ∀ (fuel : Nat) (listed : Array Bool) (a : Act) (w : World), wpAnyN P ops rds Q S fuel listed a w → wpAny P .any ops Q fuel listed a w
  | 0, _, _, _, h => h
  | fuel + 1, listed, a, w, h => ⟨h.1, fun i hi => wpOp_mono (fun a' w' h' => wpAny_of_N fuel _ a' w' h'.2) (h.2 i hi)⟩

/-- Operation o yields v, in whatever world that meets T, and leaves it. -/
def YieldsT (P : Program) (ops : Array Oper) (T : World → Prop) (o : Oper) (v : Value) (a : Act) : Prop :=
  (Region.wanted o (yielded ops a.tmps) = true ∧ ∀ w, T w → (execOp a.eval o).run P w = .ok (.value v) w) ∨
  (Region.wanted o (yielded ops a.tmps) = false ∧ v = undef)
theorem YieldsT.wpOp {T : World → Prop} {i : Nat} {o : Oper} {v : Value} {a : Act} (hi : ops[i]? = some o) (hy : YieldsT P ops T o v a)
    {K : Act → World → Prop} {w : World} (hT : T w) (h : K (a.put o.dst v) w) : wpOp P ops Q i K a w := by
  unfold Go.wpOp
  simp only [hi]
  rcases hy with ⟨hw, hv⟩ | ⟨hw, rfl⟩
  · simp only [hw, if_true, Oper.wp, hv w hT, Oper.upon]; exact .inl h
  · simp only [hw, Bool.false_eq_true, if_false]; exact h
theorem YieldsT.of_same {T : World → Prop} {o : Oper} {v : Value} {a a' : Act} (hy : YieldsT P ops T o v a) (he : execOp a'.eval o = execOp a.eval o)
    (hw : Region.wanted o (yielded ops a'.tmps) = Region.wanted o (yielded ops a.tmps)) : YieldsT P ops T o v a' := by
  unfold YieldsT at *
  rw [he, hw]
  exact hy
theorem wpOp_putT {T : World → Prop} {j : Nat} {oi oj : Oper} {v : Value} (hj : ops[j]? = some oj) (hap : oi.apart ops oj = true)
    (hsi : ∀ cs b, oi.op ≠ .select cs b) (hsj : ∀ cs b, oj.op ≠ .select cs b)
    (hQ : ∀ c a w, Q (.panic c) (a.put oi.dst v) w → Q (.panic c) a w) {K : Act → World → Prop} {a : Act} {w : World}
    (hy : YieldsT P ops T oi v a) (h : wpOp P ops Q j K (a.put oi.dst v) w) :
    wpOp P ops Q j (fun a' w' => YieldsT P ops T oi v a' ∧ K (a'.put oi.dst v) w') a w := by
  obtain ⟨h1, h2, h3⟩ := Oper.apart_spec hap
  have keep : ∀ (a : Act), YieldsT P ops T oi v a → ∀ u, YieldsT P ops T oi v (a.put oj.dst u) := fun a hy u =>
    hy.of_same (execOp_put oi hsi a oj.dst u h3) (wanted_put oi a oj.dst u h3)
  have keepD : ∀ d, YieldsT P ops T oi v { a with defers := d :: a.defers } := fun d => hy.of_same rfl rfl
  unfold wpOp at *
  simp only [hj] at *
  rw [wanted_put oj a oi.dst v h1] at h
  split
  · rename_i hw
    simp only [hw, if_true] at h
    rcases h with h | ⟨hasks, hlets⟩
    case inr => exact .inr ⟨by unfold Oper.asks at *; rw [execOp_put oj hsj a oi.dst v h1] at hasks; exact hasks, hlets⟩
    refine .inl ?_
    unfold Oper.wp at *
    rw [execOp_put oj hsj a oi.dst v h1] at h
    generalize (execOp a.eval oj).run P w = r at *
    cases r with
    | ok n w' =>
      cases n <;> simp only [Oper.upon] at h ⊢
      case value u => exact ⟨keep a hy u, by rw [← Act.put_comm a v u h2]; exact h⟩
      case skip => exact ⟨keep a hy _, by rw [← Act.put_comm a v undef h2]; exact h⟩
      case defer d =>
        refine ⟨keep _ (keepD d) _, ?_⟩
        rw [← Act.put_comm _ v undef h2, ← Act.put_defers]
        exact h
      case enter f args =>
        refine Calls.mono h fun e w'' he => ?_
        cases e with
        | returned u => exact ⟨keep a hy u, by rw [← Act.put_comm a v u h2]; exact he⟩
        | panicked c => exact hQ _ _ _ he
        | outgrown => exact he
      case row row args => exact Rows.mono h fun u w'' he => ⟨keep a hy u, by rw [← Act.put_comm a v u h2]; exact he⟩
    | halt x w' =>
      cases x <;> simp only [Oper.upon] at h ⊢
      case panic u => exact hQ _ _ _ h
  · rename_i hw
    simp only [hw] at h
    exact ⟨keep a hy _, by rw [← Act.put_comm a v undef h2]; exact h⟩

/-- Whatever is listed, what it waits for is listed. -/
def Closed (ops : Array Oper) (listed : Array Bool) : Prop :=
  ∀ j o, ops[j]? = some o → listed.getD j true = true → ∀ e ∈ o.after, Region.binds .any e = true → listed.getD e.on false = true
theorem getD_true_of_false {listed : Array Bool} {j : Nat} (h : listed.getD j false = true) : listed.getD j true = true := by
  rcases Nat.lt_or_ge j listed.size with h' | h'
  · simp [h'] at h ⊢; exact h
  · simp [Array.getElem?_eq_none h'] at h
theorem Closed.waits {listed : Array Bool} (hc : Closed ops listed) : ∀ (n j i : Nat) (o : Oper), ops[j]? = some o → (∀ e ∈ o.after, Region.binds .any e = true → listed.getD e.on false = true) →
    waitsFor ops n j i = true → listed.getD i false = true
  | 0, _, _, _, _, _, h => by simp [waitsFor] at h
  | n + 1, j, i, o, ho, hall, h => by
    simp only [waitsFor, ho] at h
    obtain ⟨e, he, hb⟩ := Array.any_eq_true'.1 h
    simp only [Bool.and_eq_true, Bool.or_eq_true, beq_iff_eq] at hb
    obtain ⟨hb1, hb2⟩ := hb
    rcases hb2 with rfl | hb2
    · exact hall e he hb1
    · have hon := hall e he hb1
      cases ho' : ops[e.on]? with
      | none => cases n <;> simp [waitsFor, ho'] at hb2
      | some o' => exact Closed.waits hc n e.on i o' ho' (hc e.on o' ho' (getD_true_of_false hon)) hb2
theorem Closed.ready {listed : Array Bool} (hc : Closed ops listed) {j : Nat} (hj : j ∈ Region.ready .any ops listed) : Closed ops (listed.setIfInBounds j true) := by
  obtain ⟨hun, oj, hoj, hall⟩ := mem_ready.1 hj
  intro k o ho hk e he hb
  by_cases hjk : j = k
  · subst hjk
    rw [hoj] at ho
    cases ho
    exact getD_set_true (hall e he hb)
  · rw [getD_set_ne true hjk] at hk
    exact getD_set_true (hc k o ho hk e he hb)

theorem wpAnyN_first {T : World → Prop} {i : Nat} {oi : Oper} {v : Value} {rd : Bool} (hi : ops[i]? = some oi) (hsel : ∀ (j : Nat) (o : Oper) cs b, ops[j]? = some o → o.op ≠ .select cs b)
    (hQ : ∀ c a w, Q (.panic c) (a.put oi.dst v) w → Q (.panic c) a w) (hTS : rd = true → ∀ w, S w → T w) (hST : rd = true → ∀ w, T w → S w) (hT0 : rd = false → ∀ w, T w) :
    ∀ (fuel : Nat) (listed : Array Bool) (a : Act) (w : World), Closed ops listed →
      (∀ j oj, ops[j]? = some oj → j ≠ i → listed.getD j true = false → waitsFor ops ops.size j i = true ∨ (oi.apart ops oj = true ∧ (rd = true → needs ops rds j = true))) →
      i ∈ Region.ready .any ops listed → T w → YieldsT P ops T oi v a →
      wpAnyN P ops rds Q S fuel (listed.setIfInBounds i true) (a.put oi.dst v) w → wpAnyN P ops rds Q S (fuel + 1) listed a w := by
  intro fuel
  induction fuel with
  | zero =>
    intro listed a w _ _ hr hT hy H
    refine ⟨fun h => (by rw [h] at hr; cases hr), fun j hj => ?_⟩
    by_cases hji : j = i
    · subst hji; exact hy.wpOp hi hT ⟨fun _ h => h, H⟩
    · have := ready_mono hj hji
      rw [H.1] at this
      cases this
  | succ fuel ih =>
    intro listed a w hcl hfree hr hT hy H
    refine ⟨fun h => (by rw [h] at hr; cases hr), fun j hj => ?_⟩
    by_cases hji : j = i
    · subst hji; exact hy.wpOp hi hT ⟨fun _ h => h, H⟩
    · have h1 := H.2 j (ready_mono hj hji)
      obtain ⟨hjun, oj, hoj, hall⟩ := mem_ready.1 hj
      have hiun := (mem_ready.1 hr).1
      have hnot : ¬ waitsFor ops ops.size j i = true := fun hw => by
        have h1 := hcl.waits _ j i oj hoj hall hw
        have h2 := getD_true_of_false h1
        rw [hiun] at h2
        cases h2
      obtain ⟨hap, hnd⟩ := (hfree j oj hoj hji hjun).resolve_left hnot
      have h2 := wpOp_putT hoj hap (fun cs b => hsel i oi cs b hi) (fun cs b => hsel j oj cs b hoj) hQ hy h1
      have hfree' : ∀ k ok, ops[k]? = some ok → k ≠ i → (listed.setIfInBounds j true).getD k true = false →
          waitsFor ops ops.size k i = true ∨ (oi.apart ops ok = true ∧ (rd = true → needs ops rds k = true)) := fun k ok hk hki hun => by
        refine hfree k ok hk hki ?_
        by_cases hjk : j = k
        · subst hjk; exact hjun
        · rw [getD_set_ne true hjk] at hun; exact hun
      refine wpOp_mono (fun a' w' h3 => ?_) h2
      obtain ⟨h4, h5, h6⟩ := h3
      refine ⟨h5, ?_⟩
      have hT' : T w' := by
        cases hrd : rd with
        | true => exact hTS hrd w' (h5 (hnd hrd) (hST hrd w hT))
        | false => exact hT0 hrd w'
      refine ih (listed.setIfInBounds j true) a' w' (hcl.ready hj) hfree' (ready_mono hr (Ne.symm hji)) hT' h4 ?_
      rw [Array.setIfInBounds_comm _ _ hji]
      exact h6

theorem unlisted_of {listed : Array Bool} {j : Nat} (h : listed.getD j true = false) : unlisted listed j = true := by simp [unlisted, h]
theorem free_spec {rd : Bool} {listed : Array Bool} {i : Nat} {oi : Oper} (h : freeOf ops rds rd listed i oi = true) (j : Nat) (oj : Oper) (hj : ops[j]? = some oj) (hne : j ≠ i) (hun : listed.getD j true = false) :
    waitsFor ops ops.size j i = true ∨ (oi.apart ops oj = true ∧ (rd = true → needs ops rds j = true)) := by
  simp only [freeOf, List.all_eq_true, List.mem_range] at h
  have h1 := h j (Array.getElem?_eq_some_iff.1 hj).1
  simp only [hj, Bool.or_eq_true, Bool.and_eq_true, beq_iff_eq, hne, false_or, unlisted_of hun, Bool.not_true, Bool.false_eq_true, Bool.not_eq_true'] at h1
  rcases h1 with h1 | ⟨h1, h2⟩
  · exact .inl h1
  · exact .inr ⟨h1, fun hr => h2.resolve_left (by simp [hr])⟩

/-- The walk: each operation once. -/
def wpE (P : Program) (ops : Array Oper) (rds : List Nat) (Q : Exit → Act → World → Prop) (S : World → Prop) : List (Nat × Nat) → Act → World → Prop
  | [], a, w => Q .normal a w
  | (i, k) :: rest, a, w => match ops[i]? with
    | none => False
    | some oi => match k with
      | 0 => ∃ v, YieldsT P ops (fun _ => True) oi v a ∧ wpE P ops rds Q S rest (a.put oi.dst v) w
      | 1 => wpOp P ops Q i (fun a' w' => (needs ops rds i = true → S w → S w') ∧ wpE P ops rds Q S rest a' w') a w
      | _ => ∃ v, YieldsT P ops S oi v a ∧ wpE P ops rds Q S rest (a.put oi.dst v) w
theorem wpN_of_E (hsel : ∀ (j : Nat) (o : Oper) cs b, ops[j]? = some o → o.op ≠ .select cs b) (hQ : ∀ c a d v w, Q (.panic c) (a.put d v) w → Q (.panic c) a w) :
    ∀ (l : List (Nat × Nat)) (has : Bool) (listed : Array Bool) (a : Act) (w : World), Closed ops listed → okOrder ops rds has listed l = true → (has = true → S w) →
      wpE P ops rds Q S l a w → wpAnyN P ops rds Q S l.length listed a w
  | [], has, listed, a, w, _, hok, _, h => ⟨by simpa [okOrder] using hok, h⟩
  | (i, k) :: rest, has, listed, a, w, hcl, hok, hS, h => by
    cases hi : ops[i]? with
    | none => simp [okOrder, hi] at hok
    | some oi =>
      simp only [okOrder, hi, Bool.and_eq_true, List.contains_iff_mem] at hok
      obtain ⟨hr, hok⟩ := hok
      simp only [wpE, hi] at h
      match k, hok, h with
      | 0, hok, h =>
        simp only [Bool.and_eq_true] at hok
        obtain ⟨v, hy, h⟩ := h
        refine wpAnyN_first (T := fun _ => True) (rd := false) hi hsel (fun c a w => hQ c a _ _ w) (fun e => by cases e) (fun e => by cases e) (fun _ _ => trivial) rest.length listed a w hcl (free_spec hok.1) hr trivial hy ?_
        exact wpN_of_E hsel hQ rest has _ _ w (hcl.ready hr) hok.2 hS h
      | 1, hok, h =>
        simp only [Bool.and_eq_true, beq_iff_eq] at hok
        refine ⟨fun e => (by rw [e] at hr; cases hr), fun j hj => ?_⟩
        rw [hok.1] at hj
        have hji : j = i := by simpa using hj
        subst hji
        refine wpOp_mono (fun a' w' h' => ⟨h'.1, wpN_of_E hsel hQ rest (has && needs ops rds j) _ a' w' (hcl.ready hr) hok.2 (fun e => ?_) h'.2⟩) h
        simp only [Bool.and_eq_true] at e
        exact h'.1 e.2 (hS e.1)
      | k + 2, hok, h =>
        simp only [Bool.and_eq_true] at hok
        obtain ⟨v, hy, h⟩ := h
        refine wpAnyN_first (T := S) (rd := true) hi hsel (fun c a w => hQ c a _ _ w) (fun _ _ h => h) (fun _ _ h => h) (fun e => by cases e) rest.length listed a w hcl (free_spec hok.1.2) hr (hS hok.1.1) hy ?_
        exact wpN_of_E hsel hQ rest has _ _ w (hcl.ready hr) hok.2 hS h
/-- The region, from its walk. -/
theorem wp_region_order {id : Nat} {a : Act} {w : World} (S : World → Prop) (rds : List Nat) (l : List (Nat × Nat)) (hm : P.follows .mixedOrders = true) (hsel : Region.noSelect ops = true)
    (hlen : l.length = ops.size) (hok : okOrder ops rds true (Array.replicate ops.size false) l = true) (hQ : ∀ c a d v w, Q (.panic c) (a.put d v) w → Q (.panic c) a w)
    (hS : S w.drew) (h : wpE P ops rds Q S l a w.drew) : (Code.region id ops true).wp P Q a w := by
  refine wp_region_any hm (wpAny_of_N (rds := rds) (S := S) _ _ _ _ ?_)
  rw [← hlen]
  refine wpN_of_E (fun j o cs b => Region.noSelect_spec hsel j o cs b) hQ l true _ a _ ?_ (by rw [hlen]; exact hok) (fun _ => hS) h
  intro j o ho hj
  rcases Nat.lt_or_ge j l.length with h' | h'
  · simp [h'] at hj
  · have := (Array.getElem?_eq_some_iff.1 ho).1
    omega
/-- .. where the reads need nothing behind what makes or writes: S says 'the world is the one at the region's start'. -/
theorem wp_region_now {id : Nat} {a : Act} {w : World} (rds : List Nat) (l : List (Nat × Nat)) (hm : P.follows .mixedOrders = true) (hsel : Region.noSelect ops = true)
    (hlen : l.length = ops.size) (hok : okOrder ops rds true (Array.replicate ops.size false) l = true) (hQ : ∀ c a d v w, Q (.panic c) (a.put d v) w → Q (.panic c) a w)
    (h : wpE P ops rds Q (fun w' => w' = w.drew) l a w.drew) : (Code.region id ops true).wp P Q a w :=
  wp_region_order (fun w' => w' = w.drew) rds l hm hsel hlen hok hQ rfl h
/-- The post of a region that does not panic. -/
def onlyNormal (Q : Exit → Act → World → Prop) : Exit → Act → World → Prop := fun e a w => match e with | .normal => Q .normal a w | _ => False
theorem wp_region_order0 {id : Nat} {a : Act} {w : World} (S : World → Prop) (rds : List Nat) (l : List (Nat × Nat)) (hm : P.follows .mixedOrders = true) (hsel : Region.noSelect ops = true)
    (hlen : l.length = ops.size) (hok : okOrder ops rds true (Array.replicate ops.size false) l = true)
    (hS : S w.drew) (h : wpE P ops rds (onlyNormal Q) S l a w.drew) : (Code.region id ops true).wp P Q a w :=
  wp_mono (wp_region_order (Q := onlyNormal Q) S rds l hm hsel hlen hok (fun _ _ _ _ _ h => h) hS h) (fun e a w h => by cases e <;> first | exact h | exact False.elim h)
theorem wp_region_now0 {id : Nat} {a : Act} {w : World} (rds : List Nat) (l : List (Nat × Nat)) (hm : P.follows .mixedOrders = true) (hsel : Region.noSelect ops = true)
    (hlen : l.length = ops.size) (hok : okOrder ops rds true (Array.replicate ops.size false) l = true)
    (h : wpE P ops rds (onlyNormal Q) (fun w' => w' = w.drew) l a w.drew) : (Code.region id ops true).wp P Q a w :=
  wp_region_order0 (fun w' => w' = w.drew) rds l hm hsel hlen hok rfl h
section
variable {o : Oper} {i : Nat} {rest : List (Nat × Nat)} {a : Act} {w : World}
theorem stepEnil0 (h : Q .normal a w) : wpE P ops rds (onlyNormal Q) S [] a w := h
theorem stepE0 (ho : ops[i]? = some o) (hw : Region.wanted o (yielded ops a.tmps) = true)
    (h : ∀ K : Act → Prop, (∀ a, wpE P ops rds Q S rest a w → K a) → ∃ v, (∀ w1 : World, (execOp a.eval o).run P w1 = .ok (.value v) w1) ∧ K (a.put o.dst v)) : wpE P ops rds Q S ((i, 0) :: rest) a w := by
  obtain ⟨v, h1, h2⟩ := h _ (fun _ h => h)
  simp only [wpE, ho]
  exact ⟨v, .inl ⟨hw, fun w1 _ => h1 w1⟩, h2⟩
theorem stepE2 (ho : ops[i]? = some o) (hw : Region.wanted o (yielded ops a.tmps) = true) (v : Value) (h1 : ∀ w1 : World, S w1 → (execOp a.eval o).run P w1 = .ok (.value v) w1)
    (h : ∀ K : Act → Prop, (∀ a, wpE P ops rds Q S rest a w → K a) → K (a.put o.dst v)) : wpE P ops rds Q S ((i, 2) :: rest) a w := by
  have h2 := h _ (fun _ h => h)
  simp only [wpE, ho]
  exact ⟨v, .inl ⟨hw, h1⟩, h2⟩
theorem stepE1 (ho : ops[i]? = some o) (hw : Region.wanted o (yielded ops a.tmps) = true) (hn : needs ops rds i = false)
    (h : ∀ K : Act → World → Prop, (∀ a' w', wpE P ops rds Q S rest a' w' → K a' w') → o.wp P a w K Q) : wpE P ops rds Q S ((i, 1) :: rest) a w := by
  simp only [wpE, ho, wpOp, hw, if_true]
  exact .inl (h _ fun a' w' h => ⟨fun e => absurd e (by rw [hn]; simp), h⟩)
theorem stepE1S (ho : ops[i]? = some o) (hw : Region.wanted o (yielded ops a.tmps) = true)
    (h : ∀ K : Act → World → Prop, (∀ a' w', S w' ∧ wpE P ops rds Q S rest a' w' → K a' w') → o.wp P a w K Q) : wpE P ops rds Q S ((i, 1) :: rest) a w := by
  simp only [wpE, ho, wpOp, hw, if_true]
  exact .inl (h _ fun a' w' h => ⟨fun _ _ => h.1, h.2⟩)
theorem stepEx0 (ho : ops[i]? = some o) (hw : Region.wanted o (yielded ops a.tmps) = false) (h : wpE P ops rds Q S rest (a.put o.dst undef) w) : wpE P ops rds Q S ((i, 0) :: rest) a w := by
  simp only [wpE, ho]
  exact ⟨undef, .inr ⟨hw, rfl⟩, h⟩
theorem stepEx2 (ho : ops[i]? = some o) (hw : Region.wanted o (yielded ops a.tmps) = false) (h : wpE P ops rds Q S rest (a.put o.dst undef) w) : wpE P ops rds Q S ((i, 2) :: rest) a w := by
  simp only [wpE, ho]
  exact ⟨undef, .inr ⟨hw, rfl⟩, h⟩
theorem stepEx1 (ho : ops[i]? = some o) (hw : Region.wanted o (yielded ops a.tmps) = false) (h : wpE P ops rds Q S rest (a.put o.dst undef) w) : wpE P ops rds Q S ((i, 1) :: rest) a w := by
  simp only [wpE, ho, wpOp, hw, Bool.false_eq_true, if_false]
  exact ⟨fun _ h => h, h⟩
theorem stepEnil (h : Q .normal a w) : wpE P ops rds Q S [] a w := h
end
end
end Go.Proofs.Ytigkcbnlbdiimaa

/- The directory's command: Do. -/
namespace Go.Proofs.Ytigkcbnlbdiimaa
open Go.RowKit
/-- What a command leaves: the entries, the number, the error's code. -/
def doEs (es : List Ent) (c : Cmd) : List Ent :=
  if c.kind = 1 then
    if threeB c.n0 c.n1 c.n2 && decide (es.length < 4096) then es ++ [⟨(es.length : Int) + 1, 1, c.n0, c.n1, c.n2, false⟩] else es
  else if c.kind = 2 ∨ c.kind = 3 ∨ c.kind = 4 then
    if 1 ≤ c.vol ∧ c.vol ≤ es.length then
      match es[(c.vol - 1).toNat]? with
      | some x => if x.epoch = c.epoch ∧ turnE x c = 0 then es.set (c.vol - 1).toNat (turnX x c) else es
      | none => es
    else es
  else es
def doN (es : List Ent) (c : Cmd) : Int :=
  if c.kind = 1 then
    if threeB c.n0 c.n1 c.n2 && decide (es.length < 4096) then (es.length : Int) + 1 else 0
  else if c.kind = 2 ∨ c.kind = 3 ∨ c.kind = 4 then
    if 1 ≤ c.vol ∧ c.vol ≤ es.length then
      match es[(c.vol - 1).toNat]? with
      | some x => if x.epoch = c.epoch ∧ turnE x c = 0 then (turnX x c).epoch else 0
      | none => 0
    else 0
  else 0
def doK (es : List Ent) (c : Cmd) : Nat :=
  if c.kind = 1 then
    if threeB c.n0 c.n1 c.n2 then (if es.length < 4096 then 0 else 11) else 1
  else if c.kind = 2 ∨ c.kind = 3 ∨ c.kind = 4 then
    if 1 ≤ c.vol ∧ c.vol ≤ es.length then
      match es[(c.vol - 1).toNat]? with
      | some x => if x.epoch = c.epoch then turnE x c else 13
      | none => 6
    else 6
  else 1
/-- The outcome of Do, whatever its answer. -/
def DoOut (w : World) (base bm : Nat) (v : Value) (es' : List Ent) (n k : Int) (e : Ending) (w' : World) : Prop :=
  e = .returned (.tuple #[.int .i64 n, errV k]) ∧ ∃ v', MapAt w' base bm v' es' ∧ (∀ g, v'.ownBlock = some g → v.ownBlock = some g ∨ w.heap.size ≤ g) ∧ Keeps (fun b => b = bm ∨ v.ownBlock = some b) w w'
theorem DoOut.same {w w' : World} {base bm : Nat} {v : Value} {es : List Ent} {n k : Int} {e : Ending} (h : MapAt w base bm v es) (he : e = .returned (.tuple #[.int .i64 n, errV k])) (hb : Below w.heap.size w w') :
    DoOut w base bm v es n k e w' :=
  ⟨he, v, h.below hb, fun g hg => .inl hg, Keeps.of_below hb fun b hb' _ => hb'⟩
theorem MapAt.of_store {w : World} {base bm : Nat} {v0 v : Value} {es : List Ent} (hb : w.heap[bm]? = some (.cells #[v0] 105 (0, 0))) (hr : w.ownsRow base 37 6 v es.length (es.flatMap Ent.row))
    (hl : base ≤ bm) (hne : v.ownBlock ≠ some bm) (hf : es.length ≤ 4096) : MapAt (w.setCell ⟨bm, 0, none⟩ v) base bm v es :=
  ⟨heap_setCell_same w bm 0 _ _ _ hb, ownsRow_at hr (fun k hk => heap_setCell_other w _ k _ (fun e => hne (by rw [hk, e]))), hl, hne, hf⟩
theorem ent_info : (Try.prog.info? 37).map (fun i => (i.zero, i.size, i.bytes)) = some (some (.agg #[.int .i64 0, .int .i64 0, .int .i64 0, .int .i64 0, .int .i64 0, .bool false]), 6, 48) := by kernel_rfl

set_option maxRecDepth 100000 in
set_option maxHeartbeats 1000000 in
theorem do_bad (base bm : Nat) (v : Value) (es : List Ent) (c : Cmd) (w : World) (h : MapAt w base bm v es) (h1 : c.kind ≠ 1) (h2 : c.kind ≠ 2) (h3 : c.kind ≠ 3) (h4 : c.kind ≠ 4) :
    Calls Try.prog 16 #[.pointer (some ⟨bm, 0, none⟩), .agg #[.int .i64 c.kind, .int .i64 c.vol, .int .i64 c.epoch, .int .i64 c.spot, .int .i64 c.node, .int .i64 c.n0, .int .i64 c.n1, .int .i64 c.n2]] w
      (DoOut w base bm v es 0 1) := by
  have H := Lib.hid h
  clear h
  obtain ⟨k, cv, ce, cs, cn, c0, c1, c2⟩ := c
  have b1 : (k == 1) = false := by simpa using h1
  have b2 : (k == 2) = false := by simpa using h2
  have b3 : (k == 3) = false := by simpa using h3
  have b4 : (k == 4) = false := by simpa using h4
  clear h1 h2 h3 h4
  go_enter Try.func16, Try.ntmps16
  go_wp2
  go_ret2
  exact DoOut.same H.out rfl (by repeat (first | (with_reducible exact Below.refl _ _) | (with_reducible refine Below.setCell ?_ ?_ _) | (with_reducible refine Below.alloc ?_ ?_ _) | (with_reducible refine Below.drewN ?_ _) | (with_reducible refine Below.drew ?_) | (with_reducible exact Nat.le_refl _) | (focus (simp only [World.size_alloc, World.size_setCell, World.size_drew, World.size_drewN]; omega)) | omega | exact Nat.le_refl _ | (focus (simp; done)) | (focus (simp; omega))))
set_option maxRecDepth 100000 in
set_option maxHeartbeats 3000000 in
theorem do_new (base bm : Nat) (v : Value) (es : List Ent) (c : Cmd) (w : World) (h : MapAt w base bm v es) (h1 : c.kind = 1) (h2 : threeB c.n0 c.n1 c.n2 = true) (h3 : es.length < 4096) :
    Calls Try.prog 16 #[.pointer (some ⟨bm, 0, none⟩), .agg #[.int .i64 c.kind, .int .i64 c.vol, .int .i64 c.epoch, .int .i64 c.spot, .int .i64 c.node, .int .i64 c.n0, .int .i64 c.n1, .int .i64 c.n2]] w
      (DoOut w base bm v (es ++ [⟨(es.length : Int) + 1, 1, c.n0, c.n1, c.n2, false⟩]) ((es.length : Int) + 1) 0) := by
  obtain ⟨k, cv, ce, cs, cn, c0, c1, c2⟩ := c
  have h1' : k = 1 := h1
  subst h1'
  clear h1
  have HT := Lib.hid h2
  clear h2
  obtain ⟨a, cap, hv⟩ := ownsRow_len h.row
  have hc := h.cell
  have hf := h.free
  have hlt := h.lt
  have hH := h
  have hn3 : (es.length : Int) < 4096 := by omega
  subst hv
  have H := Lib.hid h
  clear h hH
  have hthree : ∀ wx : World, Calls Try.prog 55 #[.agg #[.int .i64 c0, .int .i64 c1, .int .i64 c2]] wx fun e w' => e = .returned (.bool true) ∧ Below wx.heap.size wx w' := fun wx => by
    have := three_any c0 c1 c2 wx
    rwa [HT.out] at this
  have HTH := Lib.hid hthree
  clear hthree
  generalize hn : es.length = n at *
  have HN := Lib.hid hn
  clear hn
  go_enter Try.func16, Try.ntmps16
  go_wp2_with (
    go_at_call 55
    refine (HTH.out _).mono ?_
    rintro e w1 ⟨rfl, hb⟩
    have hm1 : MapAt w1 base bm _ es := (H.out.below (by repeat (first | (with_reducible exact Below.refl _ _) | (with_reducible refine Below.setCell ?_ ?_ _) | (with_reducible refine Below.alloc ?_ ?_ _) | (with_reducible refine Below.drewN ?_ _) | (with_reducible refine Below.drew ?_) | (with_reducible exact Nat.le_refl _) | (focus (simp only [World.size_alloc, World.size_setCell, World.size_drew, World.size_drewN]; omega)) | omega | exact Nat.le_refl _ | (focus (simp; done)) | (focus (simp; omega))))).below hb
    have hk1 : Below w.heap.size w w1 := Below.trans (by repeat (first | (with_reducible exact Below.refl _ _) | (with_reducible refine Below.setCell ?_ ?_ _) | (with_reducible refine Below.alloc ?_ ?_ _) | (with_reducible refine Below.drewN ?_ _) | (with_reducible refine Below.drew ?_) | (with_reducible exact Nat.le_refl _) | (focus (simp only [World.size_alloc, World.size_setCell, World.size_drew, World.size_drewN]; omega)) | omega | exact Nat.le_refl _ | (focus (simp; done)) | (focus (simp; omega)))) (hb.mono (by simp))
    have hz1' := hb.size
    simp only [World.size_alloc] at hz1'
    have hz1 : w.heap.size < w1.heap.size := by omega
    have kb0 : w1.cell? ⟨w.heap.size, 5, none⟩ = some (.int .i64 c0) := by rw [hb.cell (by simp)]; simp
    have kb1 : w1.cell? ⟨w.heap.size, 6, none⟩ = some (.int .i64 c1) := by rw [hb.cell (by simp)]; simp
    have kb2 : w1.cell? ⟨w.heap.size, 7, none⟩ = some (.int .i64 c2) := by rw [hb.cell (by simp)]; simp
    have kc := hm1.cell
    have kf := hm1.free
    have klt := hm1.lt
    have hr1 := hm1.row
    rw [HN.out] at hr1
    have HR := Lib.hid hr1
    clear hr1
    have HM := Lib.hid hm1
    have HK := Lib.hid hk1
    clear hm1 hk1 hb)
  obtain ⟨i0, hi, hz0, hz1', hz2⟩ := info_parts ent_info
  have HI := Lib.hid hi
  have HZ0 := Lib.hid hz0
  have HZ1 := Lib.hid hz1'
  have HZ2 := Lib.hid hz2
  clear hi hz0 hz1' hz2
  have hxb : some w.heap.size ≠ (Value.slice a n cap).ownBlock := fun e => by have := H.out.row.lt _ e.symm; omega
  have hsum : IntKind.i64.wrap ((n : Int) + 1) = (n : Int) + 1 := IntWalk.i64_in _ (by omega)
  have hbase : base ≤ w1.heap.size := by have := HM.out.lt; have := HM.out.low; omega
  refine wp_region_order (fun w' => w'.cell? ⟨bm, 0, none⟩ = some (.slice a n cap) ∧ w'.cell? ⟨w.heap.size, 5, none⟩ = some (.int .i64 c0) ∧ w'.cell? ⟨w.heap.size, 6, none⟩ = some (.int .i64 c1) ∧ w'.cell? ⟨w.heap.size, 7, none⟩ = some (.int .i64 c2)) [4, 8, 12] [(0, 0), (1, 0), (2, 0), (3, 0), (4, 2), (5, 0), (6, 0), (7, 0), (8, 2), (9, 0), (10, 0), (11, 0), (12, 2), (13, 0), (14, 1), (15, 1), (16, 0), (17, 0), (18, 1)] (by kernel_rfl) (by kernel_rfl) rfl (by kernel_rfl) (fun c a d v w h => by cases d <;> exact h) ?_ ?_
  focus (exact ⟨kc, kb0, kb1, kb2⟩)
  refine stepE0 rfl rfl (fun K hK => ?_)
  go_simp
  refine hK _ ?_
  clear hK K
  refine stepE0 rfl rfl (fun K hK => ?_)
  go_simp
  refine hK _ ?_
  clear hK K
  refine stepE0 rfl rfl (fun K hK => ?_)
  go_simp
  refine hK _ ?_
  clear hK K
  refine stepE0 rfl rfl (fun K hK => ?_)
  go_simp
  refine hK _ ?_
  clear hK K
  refine stepE2 rfl rfl ?_ (fun w1 hS => ?_) (fun K hK => ?_)
  rotate_left
  focus (obtain ⟨s0, s1, s2, s3⟩ := hS; go_simp; rfl)
  go_simp
  refine hK _ ?_
  clear hK K
  refine stepE0 rfl rfl (fun K hK => ?_)
  go_simp
  refine hK _ ?_
  clear hK K
  refine stepE0 rfl rfl (fun K hK => ?_)
  go_simp
  refine hK _ ?_
  clear hK K
  refine stepE0 rfl rfl (fun K hK => ?_)
  go_simp
  refine hK _ ?_
  clear hK K
  refine stepE2 rfl rfl ?_ (fun w1 hS => ?_) (fun K hK => ?_)
  rotate_left
  focus (obtain ⟨s0, s1, s2, s3⟩ := hS; go_simp; rfl)
  go_simp
  refine hK _ ?_
  clear hK K
  refine stepE0 rfl rfl (fun K hK => ?_)
  go_simp
  refine hK _ ?_
  clear hK K
  refine stepE0 rfl rfl (fun K hK => ?_)
  go_simp
  refine hK _ ?_
  clear hK K
  refine stepE0 rfl rfl (fun K hK => ?_)
  go_simp
  refine hK _ ?_
  clear hK K
  refine stepE2 rfl rfl ?_ (fun w1 hS => ?_) (fun K hK => ?_)
  rotate_left
  focus (obtain ⟨s0, s1, s2, s3⟩ := hS; go_simp; rfl)
  go_simp
  refine hK _ ?_
  clear hK K
  refine stepE0 rfl rfl (fun K hK => ?_)
  go_simp
  refine hK _ ?_
  clear hK K
  refine stepE1S rfl rfl (fun K hK => ?_)
  go_wp2
  refine ⟨by refine ⟨?_, ?_, ?_, ?_⟩ <;> go_simp, ?_⟩
  refine stepE1 rfl rfl (by kernel_rfl) (fun K hK => ?_)
  (refine wp_append_lies _ _ _ 33 rfl base 37 i0 (.agg #[.int .i64 0, .int .i64 0, .int .i64 0, .int .i64 0, .int .i64 0, .bool false]) 6 48 Try.underlying33 HI.out HZ0.out HZ1.out HZ2.out rfl (by decide) (.slice a n cap) n (es.flatMap Ent.row) rfl ((HR.out.alloc _).drew) ⟨w1.heap.size, 0, none⟩ 1 1 [.int .i64 (n + 1), .int .i64 1, .int .i64 c0, .int .i64 c1, .int .i64 c2, .bool false] rfl rfl (World.news_of_block (cs := #[.int .i64 (n + 1), .int .i64 1, .int .i64 c0, .int .i64 c1, .int .i64 c2, .bool false]) (t := 37) (fr := (0, 0)) (heap_alloc_new w1 _)) (by simp [Value.oneCell']) (by omega) (by unfold maxLen; omega) (by omega) (by simp; omega) _ rfl ?_; intro gg cap2 w2 hown2 hgrow hat hlt2; have kc2 : w2.cell? ⟨bm, 0, none⟩ = some (.slice a n cap) := (grown_cell hgrow (by simp; omega) HM.out.ne).trans (by go_simp); have kf2 : w2.frozen? ⟨bm, 0, none⟩ = false := (grown_frozen hgrow (by simp; omega) HM.out.ne).trans (by go_simp); go_wp2)
  refine stepE0 rfl rfl (fun K hK => ?_)
  go_simp
  refine hK _ ?_
  clear hK K
  refine stepE0 rfl rfl (fun K hK => ?_)
  go_simp
  refine hK _ ?_
  clear hK K
  refine stepE1 rfl rfl (by kernel_rfl) (fun K hK => ?_)
  go_wp2
  try refine stepEnil ?_
  go_wp2
  go_ret2
  have hb2 : w2.heap[bm]? = some (.cells #[.slice a n cap] 105 (0, 0)) := by
    rw [hgrow.block bm (by simp; omega) (fun e => HM.out.ne e.symm)]
    exact (Below.heap_alloc _ _ _ klt).trans HM.out.blk
  have hne : (Value.slice (some ⟨gg, 0, none⟩) (n + 1) cap2).ownBlock ≠ some bm := by
    intro e
    simp only [Value.ownBlock, Option.some.injEq] at e
    subst e
    rcases hat with h | h
    · exact HM.out.ne h
    · simp at h; omega
  refine ⟨rfl, _, MapAt.of_store hb2 (by simpa [HN.out, Ent.row] using hown2) HM.out.low hne (by simp [HN.out]; omega), ?_, ?_⟩
  · intro g hg
    simp only [Value.ownBlock, Option.some.injEq] at hg
    subst hg
    rcases hat with h | h
    · exact .inl h
    · simp at h; exact .inr (by omega)
  · exact ((((Keeps.of_below HK.out (fun b hb _ => hb)).alloc _).drew).grown hgrow (fun k hk _ => .inr hk)).setCell ⟨bm, 0, none⟩ _ (fun _ => .inl rfl)

set_option maxRecDepth 100000 in
set_option maxHeartbeats 1000000 in
theorem do_arg (base bm : Nat) (v : Value) (es : List Ent) (c : Cmd) (w : World) (h : MapAt w base bm v es) (h1 : c.kind = 1) (h2 : threeB c.n0 c.n1 c.n2 = false) :
    Calls Try.prog 16 #[.pointer (some ⟨bm, 0, none⟩), .agg #[.int .i64 c.kind, .int .i64 c.vol, .int .i64 c.epoch, .int .i64 c.spot, .int .i64 c.node, .int .i64 c.n0, .int .i64 c.n1, .int .i64 c.n2]] w
      (DoOut w base bm v es 0 1) := by
  obtain ⟨k, cv, ce, cs, cn, c0, c1, c2⟩ := c
  have h1' : k = 1 := h1
  subst h1'
  clear h1
  have HT := Lib.hid h2
  clear h2
  have H := Lib.hid h
  clear h
  have hthree : ∀ wx : World, Calls Try.prog 55 #[.agg #[.int .i64 c0, .int .i64 c1, .int .i64 c2]] wx fun e w' => e = .returned (.bool false) ∧ Below wx.heap.size wx w' := fun wx => by
    have := three_any c0 c1 c2 wx
    rwa [HT.out] at this
  have HTH := Lib.hid hthree
  clear hthree
  go_enter Try.func16, Try.ntmps16
  go_wp2_with (
    go_at_call 55
    refine (HTH.out _).mono ?_
    rintro e w1 ⟨rfl, hb⟩
    have HK := Lib.hid (Below.trans (B := w.heap.size) (a := w) (by repeat (first | (with_reducible exact Below.refl _ _) | (with_reducible refine Below.setCell ?_ ?_ _) | (with_reducible refine Below.alloc ?_ ?_ _) | (with_reducible refine Below.drewN ?_ _) | (with_reducible refine Below.drew ?_) | (with_reducible exact Nat.le_refl _) | (focus (simp only [World.size_alloc, World.size_setCell, World.size_drew, World.size_drewN]; omega)) | omega | exact Nat.le_refl _ | (focus (simp; done)) | (focus (simp; omega)))) (hb.mono (by simp)))
    clear hb)
  go_ret2
  exact DoOut.same H.out rfl HK.out
set_option maxRecDepth 100000 in
set_option maxHeartbeats 1000000 in
theorem do_full (base bm : Nat) (v : Value) (es : List Ent) (c : Cmd) (w : World) (h : MapAt w base bm v es) (h1 : c.kind = 1) (h2 : threeB c.n0 c.n1 c.n2 = true) (h3 : 4096 ≤ es.length) :
    Calls Try.prog 16 #[.pointer (some ⟨bm, 0, none⟩), .agg #[.int .i64 c.kind, .int .i64 c.vol, .int .i64 c.epoch, .int .i64 c.spot, .int .i64 c.node, .int .i64 c.n0, .int .i64 c.n1, .int .i64 c.n2]] w
      (DoOut w base bm v es 0 11) := by
  obtain ⟨k, cv, ce, cs, cn, c0, c1, c2⟩ := c
  have h1' : k = 1 := h1
  subst h1'
  clear h1
  have HT := Lib.hid h2
  clear h2
  obtain ⟨a, cap, hv⟩ := ownsRow_len h.row
  have hlt := h.lt
  have hn3 : ¬ (es.length : Int) < 4096 := by omega
  subst hv
  have H := Lib.hid h
  clear h
  have hthree : ∀ wx : World, Calls Try.prog 55 #[.agg #[.int .i64 c0, .int .i64 c1, .int .i64 c2]] wx fun e w' => e = .returned (.bool true) ∧ Below wx.heap.size wx w' := fun wx => by
    have := three_any c0 c1 c2 wx
    rwa [HT.out] at this
  have HTH := Lib.hid hthree
  clear hthree
  generalize hn : es.length = n at *
  have HN := Lib.hid hn
  clear hn
  go_enter Try.func16, Try.ntmps16
  go_wp2_with (
    go_at_call 55
    refine (HTH.out _).mono ?_
    rintro e w1 ⟨rfl, hb⟩
    have kc := ((H.out.below (by repeat (first | (with_reducible exact Below.refl _ _) | (with_reducible refine Below.setCell ?_ ?_ _) | (with_reducible refine Below.alloc ?_ ?_ _) | (with_reducible refine Below.drewN ?_ _) | (with_reducible refine Below.drew ?_) | (with_reducible exact Nat.le_refl _) | (focus (simp only [World.size_alloc, World.size_setCell, World.size_drew, World.size_drewN]; omega)) | omega | exact Nat.le_refl _ | (focus (simp; done)) | (focus (simp; omega))))).below hb).cell
    have HK := Lib.hid (Below.trans (B := w.heap.size) (a := w) (by repeat (first | (with_reducible exact Below.refl _ _) | (with_reducible refine Below.setCell ?_ ?_ _) | (with_reducible refine Below.alloc ?_ ?_ _) | (with_reducible refine Below.drewN ?_ _) | (with_reducible refine Below.drew ?_) | (with_reducible exact Nat.le_refl _) | (focus (simp only [World.size_alloc, World.size_setCell, World.size_drew, World.size_drewN]; omega)) | omega | exact Nat.le_refl _ | (focus (simp; done)) | (focus (simp; omega)))) (hb.mono (by simp)))
    clear hb)
  go_ret2
  exact DoOut.same H.out rfl HK.out
set_option maxRecDepth 100000 in
set_option maxHeartbeats 2000000 in
theorem do_none (base bm : Nat) (v : Value) (es : List Ent) (c : Cmd) (w : World) (h : MapAt w base bm v es) (h1 : c.kind = 2 ∨ c.kind = 3 ∨ c.kind = 4) (h2 : c.vol < 1 ∨ es.length < c.vol) :
    Calls Try.prog 16 #[.pointer (some ⟨bm, 0, none⟩), .agg #[.int .i64 c.kind, .int .i64 c.vol, .int .i64 c.epoch, .int .i64 c.spot, .int .i64 c.node, .int .i64 c.n0, .int .i64 c.n1, .int .i64 c.n2]] w
      (DoOut w base bm v es 0 6) := by
  obtain ⟨k, cv, ce, cs, cn, c0, c1, c2⟩ := c
  have H := Lib.hid h
  clear h
  have HV := Lib.hid h2
  clear h2
  have h1' : k = 2 ∨ k = 3 ∨ k = 4 := h1
  clear h1
  rcases h1' with rfl | rfl | rfl
  all_goals
    go_enter Try.func16, Try.ntmps16
    go_wp2_with (
      go_at_call 19
      refine (find_no base bm v es cv _ (H.out.below (by repeat (first | (with_reducible exact Below.refl _ _) | (with_reducible refine Below.setCell ?_ ?_ _) | (with_reducible refine Below.alloc ?_ ?_ _) | (with_reducible refine Below.drewN ?_ _) | (with_reducible refine Below.drew ?_) | (with_reducible exact Nat.le_refl _) | (focus (simp only [World.size_alloc, World.size_setCell, World.size_drew, World.size_drewN]; omega)) | omega | exact Nat.le_refl _ | (focus (simp; done)) | (focus (simp; omega))))) HV.out).mono ?_
      rintro e w1 ⟨rfl, hb⟩
      have HK := Lib.hid (Below.trans (B := w.heap.size) (a := w) (by repeat (first | (with_reducible exact Below.refl _ _) | (with_reducible refine Below.setCell ?_ ?_ _) | (with_reducible refine Below.alloc ?_ ?_ _) | (with_reducible refine Below.drewN ?_ _) | (with_reducible refine Below.drew ?_) | (with_reducible exact Nat.le_refl _) | (focus (simp only [World.size_alloc, World.size_setCell, World.size_drew, World.size_drewN]; omega)) | omega | exact Nat.le_refl _ | (focus (simp; done)) | (focus (simp; omega)))) (hb.mono (by simp)))
      clear hb)
    go_ret2
    have hzz := HK.out.size
    exact DoOut.same H.out rfl (HK.out.trans (by repeat (first | (with_reducible exact Below.refl _ _) | (with_reducible refine Below.setCell ?_ ?_ _) | (with_reducible refine Below.alloc ?_ ?_ _) | (with_reducible refine Below.drewN ?_ _) | (with_reducible refine Below.drew ?_) | (with_reducible exact Nat.le_refl _) | (focus (simp only [World.size_alloc, World.size_setCell, World.size_drew, World.size_drewN]; omega)) | omega | exact Nat.le_refl _ | (focus (simp; done)) | (focus (simp; omega)))))
set_option maxRecDepth 100000 in
set_option maxHeartbeats 2000000 in
theorem do_stale (base bm : Nat) (v : Value) (es : List Ent) (c : Cmd) (j : Nat) (x : Ent) (w : World) (h : MapAt w base bm v es) (h1 : c.kind = 2 ∨ c.kind = 3 ∨ c.kind = 4) (h2 : c.vol = (j : Int) + 1) (hx : es[j]? = some x) (he : x.epoch ≠ c.epoch) :
    Calls Try.prog 16 #[.pointer (some ⟨bm, 0, none⟩), .agg #[.int .i64 c.kind, .int .i64 c.vol, .int .i64 c.epoch, .int .i64 c.spot, .int .i64 c.node, .int .i64 c.n0, .int .i64 c.n1, .int .i64 c.n2]] w
      (DoOut w base bm v es 0 13) := by
  obtain ⟨k, cv, ce, cs, cn, c0, c1, c2⟩ := c
  have h2' : cv = (j : Int) + 1 := h2
  subst h2'
  clear h2
  have hq : (x.epoch == ce) = false := by simpa using he
  have hq' : (x.epoch != ce) = true := by simpa using he
  clear he
  have H := Lib.hid h
  clear h
  have HX := Lib.hid hx
  clear hx
  have h1' : k = 2 ∨ k = 3 ∨ k = 4 := h1
  clear h1
  rcases h1' with rfl | rfl | rfl
  all_goals
    go_enter Try.func16, Try.ntmps16
    go_wp2_with (
      go_at_call 19
      refine (find_yes base bm v es j x _ (H.out.below (by repeat (first | (with_reducible exact Below.refl _ _) | (with_reducible refine Below.setCell ?_ ?_ _) | (with_reducible refine Below.alloc ?_ ?_ _) | (with_reducible refine Below.drewN ?_ _) | (with_reducible refine Below.drew ?_) | (with_reducible exact Nat.le_refl _) | (focus (simp only [World.size_alloc, World.size_setCell, World.size_drew, World.size_drewN]; omega)) | omega | exact Nat.le_refl _ | (focus (simp; done)) | (focus (simp; omega))))) HX.out).mono ?_
      rintro e w1 ⟨rfl, hb⟩
      have hz1 := hb.size
      simp only [World.size_alloc] at hz1
      have hz2 : w.heap.size < w1.heap.size := by omega
      have kb : w1.cell? ⟨w.heap.size, 2, none⟩ = some (.int .i64 ce) := by rw [hb.cell (by simp)]; simp
      have HK := Lib.hid (Below.trans (B := w.heap.size) (a := w) (by repeat (first | (with_reducible exact Below.refl _ _) | (with_reducible refine Below.setCell ?_ ?_ _) | (with_reducible refine Below.alloc ?_ ?_ _) | (with_reducible refine Below.drewN ?_ _) | (with_reducible refine Below.drew ?_) | (with_reducible exact Nat.le_refl _) | (focus (simp only [World.size_alloc, World.size_setCell, World.size_drew, World.size_drewN]; omega)) | omega | exact Nat.le_refl _ | (focus (simp; done)) | (focus (simp; omega)))) (hb.mono (by simp)))
      clear hb hz1)
    go_ret2
    have hzz := HK.out.size
    exact DoOut.same H.out rfl (HK.out.trans (by repeat (first | (with_reducible exact Below.refl _ _) | (with_reducible refine Below.setCell ?_ ?_ _) | (with_reducible refine Below.alloc ?_ ?_ _) | (with_reducible refine Below.drewN ?_ _) | (with_reducible refine Below.drew ?_) | (with_reducible exact Nat.le_refl _) | (focus (simp only [World.size_alloc, World.size_setCell, World.size_drew, World.size_drewN]; omega)) | omega | exact Nat.le_refl _ | (focus (simp; done)) | (focus (simp; omega)))))
end Go.Proofs.Ytigkcbnlbdiimaa

/- The directory's command on a volume that is there. -/
namespace Go.Proofs.Ytigkcbnlbdiimaa
open Go.RowKit
set_option maxRecDepth 100000 in
set_option maxHeartbeats 2000000 in
theorem do_err (base bm : Nat) (v : Value) (es : List Ent) (c : Cmd) (j : Nat) (x : Ent) (k0 : Int) (w : World) (h : MapAt w base bm v es) (h1 : c.kind = 2 ∨ c.kind = 3 ∨ c.kind = 4) (h2 : c.vol = (j : Int) + 1) (hx : es[j]? = some x) (he : x.epoch = c.epoch)
    (hk : (turnE x c : Int) = k0) (hk0 : k0 ≠ 0) :
    Calls Try.prog 16 #[.pointer (some ⟨bm, 0, none⟩), .agg #[.int .i64 c.kind, .int .i64 c.vol, .int .i64 c.epoch, .int .i64 c.spot, .int .i64 c.node, .int .i64 c.n0, .int .i64 c.n1, .int .i64 c.n2]] w
      (DoOut w base bm v es 0 k0) := by
  obtain ⟨y, hy⟩ : ∃ y, y = turnV x c := ⟨_, rfl⟩
  have hturn := fun wx => turn_any x c wx
  rw [← hy, hk, errV_ne hk0] at hturn
  unfold Ent.val at hturn
  clear hy hk
  have HTU := Lib.hid hturn
  clear hturn
  have HK0 := Lib.hid hk0
  clear hk0
  obtain ⟨k, cv, ce, cs, cn, c0, c1, c2⟩ := c
  obtain ⟨y0, y1, y2, y3, y4, y5⟩ := y
  have h2' : cv = (j : Int) + 1 := h2
  subst h2'
  clear h2
  have he' : x.epoch = ce := he
  subst he'
  clear he
  have H := Lib.hid h
  clear h
  have HX := Lib.hid hx
  clear hx
  have h1' : k = 2 ∨ k = 3 ∨ k = 4 := h1
  clear h1
  have b1 : (k == 1) = false := by rw [beq_eq_false_iff_ne]; omega
  have hb : (k == 2) = true ∨ ((k == 2) = false ∧ (k == 3) = true) ∨ ((k == 2) = false ∧ (k == 3) = false ∧ (k == 4) = true) := by
    rcases h1' with rfl | rfl | rfl
    · exact .inl rfl
    · exact .inr (.inl ⟨rfl, rfl⟩)
    · exact .inr (.inr ⟨rfl, rfl, rfl⟩)
  clear h1'
  rcases hb with b2 | ⟨b2, b3⟩ | ⟨b2, b3, b4⟩
  all_goals
    go_enter Try.func16, Try.ntmps16
    go_wp2_with (first
      | (go_at_call 19
         refine (find_yes base bm v es j x _ (H.out.below (by repeat (first | (with_reducible exact Below.refl _ _) | (with_reducible refine Below.setCell ?_ ?_ _) | (with_reducible refine Below.alloc ?_ ?_ _) | (with_reducible refine Below.drewN ?_ _) | (with_reducible refine Below.drew ?_) | (with_reducible exact Nat.le_refl _) | (focus (simp only [World.size_alloc, World.size_setCell, World.size_drew, World.size_drewN]; omega)) | omega | exact Nat.le_refl _ | (focus (simp; done)) | (focus (simp; omega))))) HX.out).mono ?_
         rintro e w1 ⟨rfl, hb⟩
         have hz1 := hb.size
         simp only [World.size_alloc] at hz1
         have hz2 : w.heap.size < w1.heap.size := by omega
         obtain ⟨hbc, hbf⟩ := bcell hb
         have HK := Lib.hid (Below.trans (B := w.heap.size) (a := w) (by repeat (first | (with_reducible exact Below.refl _ _) | (with_reducible refine Below.setCell ?_ ?_ _) | (with_reducible refine Below.alloc ?_ ?_ _) | (with_reducible refine Below.drewN ?_ _) | (with_reducible refine Below.drew ?_) | (with_reducible exact Nat.le_refl _) | (focus (simp only [World.size_alloc, World.size_setCell, World.size_drew, World.size_drewN]; omega)) | omega | exact Nat.le_refl _ | (focus (simp; done)) | (focus (simp; omega)))) (hb.mono (by simp)))
         clear hb hz1)
      | (go_at_call 56
         refine (HTU.out _).mono ?_
         rintro e w2 ⟨rfl, hb2⟩
         have hz3 := hb2.size
         simp only [World.size_alloc] at hz3
         obtain ⟨hbc2, hbf2⟩ := bcell hb2
         have hz4 : w1.heap.size < w2.heap.size := by omega
         have hzz := HK.out.size
         have HK2 := Lib.hid ((HK.out.trans (Below.trans (B := w.heap.size) (a := w1) (by repeat (first | (with_reducible exact Below.refl _ _) | (with_reducible refine Below.setCell ?_ ?_ _) | (with_reducible refine Below.alloc ?_ ?_ _) | (with_reducible refine Below.drewN ?_ _) | (with_reducible refine Below.drew ?_) | (with_reducible exact Nat.le_refl _) | (focus (simp only [World.size_alloc, World.size_setCell, World.size_drew, World.size_drewN]; omega)) | omega | exact Nat.le_refl _ | (focus (simp; done)) | (focus (simp; omega)))) (hb2.mono (by simp; omega)))))
         clear hb2 hz3))
    go_ret2
    exact DoOut.same H.out (by rw [errV_ne HK0.out]; rfl) (HK2.out.trans (by repeat (first | (with_reducible exact Below.refl _ _) | (with_reducible refine Below.setCell ?_ ?_ _) | (with_reducible refine Below.alloc ?_ ?_ _) | (with_reducible refine Below.drewN ?_ _) | (with_reducible refine Below.drew ?_) | (with_reducible exact Nat.le_refl _) | (focus (simp only [World.size_alloc, World.size_setCell, World.size_drew, World.size_drewN]; omega)) | omega | exact Nat.le_refl _ | (focus (simp; done)) | (focus (simp; omega)))))
theorem setCellsAt_keeps (g : Nat) : ∀ (vs : List Value) (p : Nat) (w : World), Keeps (fun b => b = g) w (setCellsAt w g p vs)
  | [], _, w => Keeps.refl _ w
  | v :: vs, p, w => Keeps.trans (F := fun b => b = g) (G := fun b => b = g) ((Keeps.refl (fun b => b = g) w).setCell ⟨g, p, none⟩ v (fun _ => rfl)) (setCellsAt_keeps g vs (p + 1) (w.setCell ⟨g, p, none⟩ v)) (fun _ _ h => h)
theorem DoOut.put {w W0 W : World} {base bm g cap j : Nat} {es : List Ent} (y : Ent) (n : Int) (hW : W = (setCellsAt W0 g (j * 6) y.row).drew) (h : MapAt w base bm (.slice (some ⟨g, 0, none⟩) es.length cap) es) (hb : Below w.heap.size w W0)
    (hj : j < es.length) (hg : g < w.heap.size) (hn : n = y.epoch) : DoOut w base bm (.slice (some ⟨g, 0, none⟩) es.length cap) (es.set j y) n 0 (.returned (.tuple #[.int .i64 n, .nilIface])) W := by
  subst hn
  have h0 := h.below hb
  have hk := setCellsAt_keeps g y.row (j * 6) W0
  have hne : g ≠ bm := fun e => h.ne (by rw [e]; rfl)
  have hr := ownsRow_struct Ent.row 6 Ent.row_len es j y hj h0.row
  generalize setCellsAt W0 g (j * 6) y.row = X at *
  subst hW
  have hm : MapAt X base bm (.slice (some ⟨g, 0, none⟩) es.length cap) (es.set j y) :=
    ⟨(hk.block bm h0.lt (fun e => hne e.symm)).trans h0.blk, by rw [List.length_set]; exact hr, h.low, h.ne, by rw [List.length_set]; exact h.few⟩
  have hk2 : Keeps (fun b => b = bm ∨ (Value.slice (some ⟨g, 0, none⟩) es.length cap).ownBlock = some b) w X :=
    Keeps.trans (Keeps.of_below hb (fun _ hb _ => hb)) hk (fun i _ e => .inr (by rw [e]; rfl))
  exact ⟨rfl, _, ⟨hm.blk, hm.row, hm.low, hm.ne, hm.few⟩, fun _ hg => .inl hg, hk2.drew⟩
set_option maxRecDepth 100000 in
set_option maxHeartbeats 2000000 in
theorem do_turn (base bm : Nat) (v : Value) (es : List Ent) (c : Cmd) (j : Nat) (x : Ent) (w : World) (h : MapAt w base bm v es) (h1 : c.kind = 2 ∨ c.kind = 3 ∨ c.kind = 4) (h2 : c.vol = (j : Int) + 1) (hx : es[j]? = some x) (he : x.epoch = c.epoch)
    (hk : turnE x c = 0) :
    Calls Try.prog 16 #[.pointer (some ⟨bm, 0, none⟩), .agg #[.int .i64 c.kind, .int .i64 c.vol, .int .i64 c.epoch, .int .i64 c.spot, .int .i64 c.node, .int .i64 c.n0, .int .i64 c.n1, .int .i64 c.n2]] w
      (DoOut w base bm v (es.set j (turnX x c)) (turnX x c).epoch 0) := by
  have hV : turnV x c = turnX x c := by simp [turnV, hk]
  have hturn := fun wx => turn_any x c wx
  rw [hV, hk, show errV ((0 : Nat) : Int) = .nilIface from rfl] at hturn
  generalize turnX x c = y at *
  unfold Ent.val at hturn
  clear hV hk
  have HTU := Lib.hid hturn
  clear hturn
  obtain ⟨k, cv, ce, cs, cn, c0, c1, c2⟩ := c
  obtain ⟨y0, y1, y2, y3, y4, y5⟩ := y
  have h2' : cv = (j : Int) + 1 := h2
  subst h2'
  clear h2
  have he' : x.epoch = ce := he
  subst he'
  clear he
  obtain ⟨g, cap, rfl, hg, _, hgm, hj, q0, q1, q2, q3, q4, q5⟩ := h.ent j x hx
  have hc := h.cell
  have hlt := h.lt
  have hn : es.length ≤ 4096 := h.few
  have hgf := fun o => h.row.frozenAt o
  have HJ := Lib.hid hj
  have HN := Lib.hid hn
  generalize hne : es.length = n at *
  have hne0 := Lib.hid hne
  clear hne
  have H := Lib.hid h
  clear h
  have HX := Lib.hid hx
  clear hx
  have h1' : k = 2 ∨ k = 3 ∨ k = 4 := h1
  clear h1
  have b1 : (k == 1) = false := by rw [beq_eq_false_iff_ne]; omega
  have hb : (k == 2) = true ∨ ((k == 2) = false ∧ (k == 3) = true) ∨ ((k == 2) = false ∧ (k == 3) = false ∧ (k == 4) = true) := by
    rcases h1' with rfl | rfl | rfl
    · exact .inl rfl
    · exact .inr (.inl ⟨rfl, rfl⟩)
    · exact .inr (.inr ⟨rfl, rfl, rfl⟩)
  clear h1'
  rcases hb with b2 | ⟨b2, b3⟩ | ⟨b2, b3, b4⟩
  all_goals
    go_enter Try.func16, Try.ntmps16
    go_wp2_with (first
      | (go_at_call 19
         refine (find_yes base bm _ es j x _ (H.out.below (by repeat (first | (with_reducible exact Below.refl _ _) | (with_reducible refine Below.setCell ?_ ?_ _) | (with_reducible refine Below.alloc ?_ ?_ _) | (with_reducible refine Below.drewN ?_ _) | (with_reducible refine Below.drew ?_) | (with_reducible exact Nat.le_refl _) | (focus (simp only [World.size_alloc, World.size_setCell, World.size_drew, World.size_drewN]; omega)) | omega | exact Nat.le_refl _ | (focus (simp; done)) | (focus (simp; omega))))) HX.out).mono ?_
         rintro e w1 ⟨rfl, hb⟩
         have hz1 := hb.size
         simp only [World.size_alloc] at hz1
         have hz2 : w.heap.size < w1.heap.size := by omega
         obtain ⟨hbc, hbf⟩ := bcell hb
         have HK := Lib.hid (Below.trans (B := w.heap.size) (a := w) (by repeat (first | (with_reducible exact Below.refl _ _) | (with_reducible refine Below.setCell ?_ ?_ _) | (with_reducible refine Below.alloc ?_ ?_ _) | (with_reducible refine Below.drewN ?_ _) | (with_reducible refine Below.drew ?_) | (with_reducible exact Nat.le_refl _) | (focus (simp only [World.size_alloc, World.size_setCell, World.size_drew, World.size_drewN]; omega)) | omega | exact Nat.le_refl _ | (focus (simp; done)) | (focus (simp; omega)))) (hb.mono (by simp)))
         clear hb hz1)
      | (go_at_call 56
         refine (HTU.out _).mono ?_
         rintro e w2 ⟨rfl, hb2⟩
         have hz3 := hb2.size
         simp only [World.size_alloc] at hz3
         have kt := fun o => hb2.cell (p := ⟨w1.heap.size, o, none⟩) (by simp)
         have ktf := fun o => hb2.frozen (p := ⟨w1.heap.size, o, none⟩) (by simp)
         have hz4 : w1.heap.size < w2.heap.size := by omega
         have hzz := HK.out.size
         have HK2 := Lib.hid ((HK.out.trans (Below.trans (B := w.heap.size) (a := w1) (by repeat (first | (with_reducible exact Below.refl _ _) | (with_reducible refine Below.setCell ?_ ?_ _) | (with_reducible refine Below.alloc ?_ ?_ _) | (with_reducible refine Below.drewN ?_ _) | (with_reducible refine Below.drew ?_) | (with_reducible exact Nat.le_refl _) | (focus (simp only [World.size_alloc, World.size_setCell, World.size_drew, World.size_drewN]; omega)) | omega | exact Nat.le_refl _ | (focus (simp; done)) | (focus (simp; omega)))) (hb2.mono (by simp; omega)))))
         have kg := fun o => HK2.out.cell (p := ⟨g, o, none⟩) hg
         have kgf := fun o => HK2.out.frozen (p := ⟨g, o, none⟩) hg
         have km := fun o => HK2.out.cell (p := ⟨bm, o, none⟩) hlt
         have kb := fun o => hb2.cell (p := ⟨w.heap.size, o, none⟩) (by simp; omega)
         clear hb2 hz3))
    have hjn : j < n := HJ.out
    have hn9 : n ≤ 4096 := HN.out
    have hwj : IntKind.i64.wrap (j : Int) = (j : Int) := IntWalk.i64_in _ (by omega)
    have hj0 : (0 : Int) ≤ (j : Int) := by omega
    have hj1 : (j : Int) < (n : Int) := by omega
    clear hjn hn9
    refine wp_region_now [3, 5, 7] [(0, 0), (1, 0), (2, 0), (3, 2), (4, 0), (5, 2), (6, 0), (7, 2), (8, 0), (9, 1)] (by kernel_rfl) (by kernel_rfl) rfl (by kernel_rfl) (fun c a d v w h => by cases d <;> exact h) ?_
    refine stepE0 rfl rfl (fun K hK => ?_)
    go_simp
    refine hK _ ?_
    clear hK K
    refine stepE0 rfl rfl (fun K hK => ?_)
    go_simp
    refine hK _ ?_
    clear hK K
    refine stepE0 rfl rfl (fun K hK => ?_)
    go_simp
    refine hK _ ?_
    clear hK K
    refine stepE2 rfl rfl ?_ (fun w1 hS => ?_) (fun K hK => ?_)
    rotate_left
    focus (obtain rfl : w1 = _ := hS; go_simp; rfl)
    go_simp
    refine hK _ ?_
    clear hK K
    refine stepE0 rfl rfl (fun K hK => ?_)
    go_simp
    refine hK _ ?_
    clear hK K
    refine stepE2 rfl rfl ?_ (fun w1 hS => ?_) (fun K hK => ?_)
    rotate_left
    focus (obtain rfl : w1 = _ := hS; go_simp; rfl)
    go_simp
    refine hK _ ?_
    clear hK K
    refine stepE0 rfl rfl (fun K hK => ?_)
    go_simp
    refine hK _ ?_
    clear hK K
    refine stepE2 rfl rfl ?_ (fun w1 hS => ?_) (fun K hK => ?_)
    rotate_left
    focus (obtain rfl : w1 = _ := hS; go_simp; rfl)
    go_simp
    refine hK _ ?_
    clear hK K
    refine stepE0 rfl rfl (fun K hK => ?_)
    go_simp
    refine hK _ ?_
    clear hK K
    refine stepE1 rfl rfl (by kernel_rfl) (fun K hK => ?_)
    go_wp2
    try refine stepEnil ?_
    go_wp2
    go_ret2
    have hne1 := hne0.out
    subst hne1
    refine DoOut.put ⟨y0, y1, y2, y3, y4, y5⟩ _ rfl H.out ?_ HJ.out hg rfl
    exact HK2.out.trans (by repeat (first | (with_reducible exact Below.refl _ _) | (with_reducible refine Below.setCell ?_ ?_ _) | (with_reducible refine Below.alloc ?_ ?_ _) | (with_reducible refine Below.drewN ?_ _) | (with_reducible refine Below.drew ?_) | (with_reducible exact Nat.le_refl _) | (focus (simp only [World.size_alloc, World.size_setCell, World.size_drew, World.size_drewN]; omega)) | omega | exact Nat.le_refl _ | (focus (simp; done)) | (focus (simp; omega))))

theorem do_any (base bm : Nat) (v : Value) (es : List Ent) (c : Cmd) (w : World) (h : MapAt w base bm v es) :
    Calls Try.prog 16 #[.pointer (some ⟨bm, 0, none⟩), .agg #[.int .i64 c.kind, .int .i64 c.vol, .int .i64 c.epoch, .int .i64 c.spot, .int .i64 c.node, .int .i64 c.n0, .int .i64 c.n1, .int .i64 c.n2]] w
      (DoOut w base bm v (doEs es c) (doN es c) (doK es c)) := by
  by_cases h1 : c.kind = 1
  · cases h2 : threeB c.n0 c.n1 c.n2
    · have e1 : doEs es c = es := by simp [doEs, h1, h2]
      have e2 : doN es c = 0 := by simp [doN, h1, h2]
      have e3 : (doK es c : Int) = 1 := by simp [doK, h1, h2]
      rw [e1, e2, e3]
      exact do_arg base bm v es c w h h1 h2
    · by_cases h3 : es.length < 4096
      · have e1 : doEs es c = es ++ [⟨(es.length : Int) + 1, 1, c.n0, c.n1, c.n2, false⟩] := by simp [doEs, h1, h2, h3]
        have e2 : doN es c = (es.length : Int) + 1 := by simp [doN, h1, h2, h3]
        have e3 : (doK es c : Int) = 0 := by simp [doK, h1, h2, h3]
        rw [e1, e2, e3]
        exact do_new base bm v es c w h h1 h2 h3
      · have e1 : doEs es c = es := by simp [doEs, h1, h2, h3]
        have e2 : doN es c = 0 := by simp [doN, h1, h2, h3]
        have e3 : (doK es c : Int) = 11 := by simp [doK, h1, h2, h3]
        rw [e1, e2, e3]
        exact do_full base bm v es c w h h1 h2 (by omega)
  · by_cases hk : c.kind = 2 ∨ c.kind = 3 ∨ c.kind = 4
    · by_cases hv : 1 ≤ c.vol ∧ c.vol ≤ es.length
      · obtain ⟨j, hj⟩ : ∃ j : Nat, c.vol = (j : Int) + 1 := ⟨(c.vol - 1).toNat, by omega⟩
        have hjl : j < es.length := by omega
        have hx : es[j]? = some es[j] := List.getElem?_eq_getElem hjl
        have hvj : (c.vol - 1).toNat = j := by omega
        generalize es[j] = x at hx
        by_cases he : x.epoch = c.epoch
        · by_cases ht : turnE x c = 0
          · have e1 : doEs es c = es.set j (turnX x c) := by rw [doEs, if_neg h1, if_pos hk, if_pos hv, hvj, hx]; exact if_pos ⟨he, ht⟩
            have e2 : doN es c = (turnX x c).epoch := by rw [doN, if_neg h1, if_pos hk, if_pos hv, hvj, hx]; exact if_pos ⟨he, ht⟩
            have e3 : (doK es c : Int) = 0 := by rw [doK, if_neg h1, if_pos hk, if_pos hv, hvj, hx]; show ((if x.epoch = c.epoch then turnE x c else 13 : Nat) : Int) = 0; rw [if_pos he, ht]; rfl
            rw [e1, e2, e3]
            exact do_turn base bm v es c j x w h hk hj hx he ht
          · have e1 : doEs es c = es := by rw [doEs, if_neg h1, if_pos hk, if_pos hv, hvj, hx]; exact if_neg (fun e => ht e.2)
            have e2 : doN es c = 0 := by rw [doN, if_neg h1, if_pos hk, if_pos hv, hvj, hx]; exact if_neg (fun e => ht e.2)
            have e3 : (doK es c : Int) = (turnE x c : Int) := by rw [doK, if_neg h1, if_pos hk, if_pos hv, hvj, hx]; show ((if x.epoch = c.epoch then turnE x c else 13 : Nat) : Int) = _; rw [if_pos he]
            rw [e1, e2, e3]
            exact do_err base bm v es c j x _ w h hk hj hx he rfl (by omega)
        · have e1 : doEs es c = es := by rw [doEs, if_neg h1, if_pos hk, if_pos hv, hvj, hx]; exact if_neg (fun e => he e.1)
          have e2 : doN es c = 0 := by rw [doN, if_neg h1, if_pos hk, if_pos hv, hvj, hx]; exact if_neg (fun e => he e.1)
          have e3 : (doK es c : Int) = 13 := by rw [doK, if_neg h1, if_pos hk, if_pos hv, hvj, hx]; show ((if x.epoch = c.epoch then turnE x c else 13 : Nat) : Int) = _; rw [if_neg he]; rfl
          rw [e1, e2, e3]
          exact do_stale base bm v es c j x w h hk hj hx he
      · have e1 : doEs es c = es := by rw [doEs, if_neg h1, if_pos hk, if_neg hv]
        have e2 : doN es c = 0 := by rw [doN, if_neg h1, if_pos hk, if_neg hv]
        have e3 : (doK es c : Int) = 6 := by rw [doK, if_neg h1, if_pos hk, if_neg hv]; rfl
        rw [e1, e2, e3]
        exact do_none base bm v es c w h hk (by omega)
    · have e1 : doEs es c = es := by rw [doEs, if_neg h1, if_neg hk]
      have e2 : doN es c = 0 := by rw [doN, if_neg h1, if_neg hk]
      have e3 : (doK es c : Int) = 1 := by rw [doK, if_neg h1, if_neg hk]; rfl
      rw [e1, e2, e3]
      exact do_bad base bm v es c w h h1 (fun e => hk (.inl e)) (fun e => hk (.inr (.inl e))) (fun e => hk (.inr (.inr e)))
end Go.Proofs.Ytigkcbnlbdiimaa

/- DirsApart: the walk. -/
namespace Go.Proofs.Ytigkcbnlbdiimaa
open Go.RowKit
theorem do_at (base bm : Nat) (v : Value) (es es' : List Ent) (c : Cmd) (n k : Int) (w : World) (h : MapAt w base bm v es) (h1 : doEs es c = es') (h2 : doN es c = n) (h3 : (doK es c : Int) = k) :
    Calls Try.prog 16 #[.pointer (some ⟨bm, 0, none⟩), .agg #[.int .i64 c.kind, .int .i64 c.vol, .int .i64 c.epoch, .int .i64 c.spot, .int .i64 c.node, .int .i64 c.n0, .int .i64 c.n1, .int .i64 c.n2]] w
      (DoOut w base bm v es' n k) := by
  subst h1 h2 h3
  exact do_any base bm v es c w h
set_option maxRecDepth 100000 in
set_option maxHeartbeats 1000000 in
theorem alive19 (w : World) : Calls Try.prog 14 #[] w fun e w' => e = .returned (.bool true) ∧ Below w.heap.size w w' := by
  go_enter Try.func14, Try.ntmps14
  go_wp2_with fail
  refine (new_any _).mono ?_
  rintro e w1 ⟨rfl, rfl⟩
  go_wp2_with fail
  refine (do_at w.heap.size w.heap.size _ [] [⟨1, 1, 1, 2, 3, false⟩] ⟨1, 0, 0, 0, 0, 1, 2, 3⟩ 1 0 _ (MapAt.made w _ (Nat.le_refl _)) (by simp [doEs, threeB, placeB]) (by simp [doN, threeB, placeB]) (by simp [doK, threeB, placeB])).mono ?_
  rintro e w2 ⟨rfl, v2, hm2, _, hk2⟩
  have HK2 := Lib.hid (Below.trans (B := w.heap.size) (a := w) (by repeat (first | (with_reducible exact Below.refl _ _) | (with_reducible refine Below.setCell ?_ ?_ _) | (with_reducible refine Below.alloc ?_ ?_ _) | (with_reducible refine Below.drewN ?_ _) | (with_reducible refine Below.drew ?_) | (with_reducible exact Nat.le_refl _) | (focus (simp only [World.size_alloc, World.size_setCell, World.size_drew, World.size_drewN]; omega)) | omega | exact Nat.le_refl _ | (focus (simp; done)) | (focus (simp; omega)))) (hk2.below (B := w.heap.size) (by simp) (by
    rintro k (rfl | h)
    · exact Nat.le_refl _
    · cases h)))
  clear hk2
  go_wp2_with fail
  refine (do_at w.heap.size w.heap.size _ [⟨1, 1, 1, 2, 3, false⟩] [⟨1, 1, 1, 2, 3, false⟩] ⟨1, 0, 0, 0, 0, 1, 2, 2⟩ 0 1 _ hm2 (by simp [doEs, threeB, placeB]) (by simp [doN, threeB, placeB]) (by simp [doK, threeB, placeB])).mono ?_
  rintro e w3 ⟨rfl, v3, hm3, _, hk3⟩
  have HK3 := Lib.hid (HK2.out.trans (hk3.below (B := w.heap.size) HK2.out.size (by
    rintro k (rfl | h)
    · exact Nat.le_refl _
    · exact (hm2.row.lt k h).1)))
  clear hk3 hm2 hm3
  go_wp2_with (go_at_call 18; (with_reducible refine (code_any _ (by omega) (by omega) _).mono ?_); rintro e w' ⟨rfl, rfl⟩)
  go_ret
  exact ⟨rfl, HK3.out⟩
end Go.Proofs.Ytigkcbnlbdiimaa

/- What a command does to the entries, in plain words. No program. -/
namespace Go.Proofs.Ytigkcbnlbdiimaa
open Go.RowKit
/-- Volumes are numbered by their places, epochs are from 1 to E. -/
def Good (E : Int) (es : List Ent) : Prop := ∀ (i : Nat) (x : Ent), es[i]? = some x → x.vol = (i : Int) + 1 ∧ 1 ≤ x.epoch ∧ x.epoch ≤ E
theorem Good.mono {E E' : Int} {es : List Ent} (h : Good E es) (he : E ≤ E') : Good E' es := fun i x hx => by
  obtain ⟨a, b, c⟩ := h i x hx
  exact ⟨a, b, by omega⟩
theorem turnX_vol (x : Ent) (c : Cmd) : (turnX x c).vol = x.vol := by unfold turnX; repeat (first | rfl | split)
theorem turnX_epoch (x : Ent) (c : Cmd) : (turnX x c).epoch = wrapI (x.epoch + 1) := by unfold turnX; repeat (first | rfl | split)
/-- The three ways of a command. -/
theorem do_ways (es : List Ent) (c : Cmd) :
    (doK es c ≠ 0 ∧ doEs es c = es ∧ doN es c = 0) ∨ (doK es c = 0 ∧ c.kind = 1 ∧ es.length < 4096 ∧ threeB c.n0 c.n1 c.n2 = true ∧ doEs es c = es ++ [⟨(es.length : Int) + 1, 1, c.n0, c.n1, c.n2, false⟩] ∧ doN es c = (es.length : Int) + 1) ∨
    (doK es c = 0 ∧ ∃ (j : Nat) (x : Ent), es[j]? = some x ∧ c.vol = (j : Int) + 1 ∧ x.epoch = c.epoch ∧ turnE x c = 0 ∧ (c.kind = 2 ∨ c.kind = 3 ∨ c.kind = 4) ∧ doEs es c = es.set j (turnX x c) ∧ doN es c = (turnX x c).epoch) := by
  by_cases h1 : c.kind = 1
  · cases h2 : threeB c.n0 c.n1 c.n2
    · exact .inl ⟨by simp [doK, h1, h2], by simp [doEs, h1, h2], by simp [doN, h1, h2]⟩
    · by_cases h3 : es.length < 4096
      · exact .inr (.inl ⟨by simp [doK, h1, h2, h3], h1, h3, rfl, by simp [doEs, h1, h2, h3], by simp [doN, h1, h2, h3]⟩)
      · exact .inl ⟨by simp [doK, h1, h2, h3], by simp [doEs, h1, h2, h3], by simp [doN, h1, h2, h3]⟩
  · by_cases hk : c.kind = 2 ∨ c.kind = 3 ∨ c.kind = 4
    · by_cases hv : 1 ≤ c.vol ∧ c.vol ≤ es.length
      · obtain ⟨j, hj⟩ : ∃ j : Nat, c.vol = (j : Int) + 1 := ⟨(c.vol - 1).toNat, by omega⟩
        have hjl : j < es.length := by omega
        have hx : es[j]? = some es[j] := List.getElem?_eq_getElem hjl
        have hvj : (c.vol - 1).toNat = j := by omega
        generalize es[j] = x at hx
        have e1 : doEs es c = if x.epoch = c.epoch ∧ turnE x c = 0 then es.set j (turnX x c) else es := by rw [doEs, if_neg h1, if_pos hk, if_pos hv, hvj, hx]
        have e2 : doN es c = if x.epoch = c.epoch ∧ turnE x c = 0 then (turnX x c).epoch else 0 := by rw [doN, if_neg h1, if_pos hk, if_pos hv, hvj, hx]
        have e3 : doK es c = if x.epoch = c.epoch then turnE x c else 13 := by rw [doK, if_neg h1, if_pos hk, if_pos hv, hvj, hx]
        by_cases he : x.epoch = c.epoch
        · by_cases ht : turnE x c = 0
          · exact .inr (.inr ⟨by rw [e3, if_pos he, ht], j, x, hx, hj, he, ht, hk, by rw [e1, if_pos ⟨he, ht⟩], by rw [e2, if_pos ⟨he, ht⟩]⟩)
          · exact .inl ⟨by rw [e3, if_pos he]; exact ht, by rw [e1, if_neg (fun h => ht h.2)], by rw [e2, if_neg (fun h => ht h.2)]⟩
        · exact .inl ⟨by rw [e3, if_neg he]; simp, by rw [e1, if_neg (fun h => he h.1)], by rw [e2, if_neg (fun h => he h.1)]⟩
      · exact .inl ⟨by rw [doK, if_neg h1, if_pos hk, if_neg hv]; simp, by rw [doEs, if_neg h1, if_pos hk, if_neg hv], by rw [doN, if_neg h1, if_pos hk, if_neg hv]⟩
    · exact .inl ⟨by rw [doK, if_neg h1, if_neg hk]; simp, by rw [doEs, if_neg h1, if_neg hk], by rw [doN, if_neg h1, if_neg hk]⟩
theorem turnE_le (x : Ent) (c : Cmd) : turnE x c ≤ 17 := by
  unfold turnE errNode
  repeat (first | omega | split)
theorem doK_le (es : List Ent) (c : Cmd) : doK es c ≤ 17 := by
  unfold doK
  repeat (first | omega | exact turnE_le _ _ | split)
theorem good_do (E : Int) (es : List Ent) (c : Cmd) (h : Good E es) (h1 : 1 ≤ E) (hE : E ≤ 1000000) : Good (E + 1) (doEs es c) := by
  rcases do_ways es c with ⟨_, e, _⟩ | ⟨_, _, _, _, e, _⟩ | ⟨_, j, x, hx, _, _, _, _, e, _⟩
  · rw [e]; exact h.mono (by omega)
  · rw [e]
    intro i y hy
    rw [List.getElem?_append] at hy
    split at hy
    · obtain ⟨a, b, d⟩ := h i y hy
      exact ⟨a, b, by omega⟩
    · rename_i hi
      have hi2 : i = es.length := by
        rcases Nat.lt_or_ge (i - es.length) 1 with h | h
        · omega
        · rw [List.getElem?_eq_none (by simpa using h)] at hy; cases hy
      subst hi2
      simp at hy
      subst hy
      exact ⟨rfl, by simp, by simp; omega⟩
  · rw [e]
    intro i y hy
    rw [List.getElem?_set] at hy
    split at hy
    · rename_i hji
      subst hji
      split at hy
      · cases hy
        obtain ⟨a, b, d⟩ := h j x hx
        rw [turnX_vol, turnX_epoch, wrapI_id _ (by omega) (by omega)]
        exact ⟨a, by omega, by omega⟩
      · cases hy
    · obtain ⟨a, b, d⟩ := h i y hy
      exact ⟨a, b, by omega⟩
theorem doEs_len (es : List Ent) (c : Cmd) : es.length ≤ (doEs es c).length ∧ (doEs es c).length ≤ es.length + 1 := by
  rcases do_ways es c with ⟨_, e, _⟩ | ⟨_, _, _, _, e, _⟩ | ⟨_, j, x, hx, _, _, _, _, e, _⟩ <;> rw [e] <;> simp
/-- How many of the first k entries differ (by their epochs). -/
def cnt (es es2 : List Ent) : Nat → Nat
  | 0 => 0
  | k + 1 => cnt es es2 k + (match es[k]?, es2[k]? with | some x, some y => if x.epoch = y.epoch then 0 else 1 | _, _ => 0)
/-- An entry behind a command is what it was, or its command's own, one epoch on. -/
theorem ent_ways (E : Int) (es : List Ent) (c : Cmd) (hg : Good E es) (hE : E ≤ 1000000) (k : Nat) (x : Ent) (hx : es[k]? = some x) : ∃ y, (doEs es c)[k]? = some y ∧
    (y = x ∨ (c.vol = (k : Int) + 1 ∧ y.vol = x.vol ∧ y.epoch = x.epoch + 1)) := by
  have hk : k < es.length := (List.getElem?_eq_some_iff.1 hx).1
  rcases do_ways es c with ⟨_, e, _⟩ | ⟨_, _, _, _, e, _⟩ | ⟨_, j, x', hx', hv, _, _, _, e, _⟩
  · exact ⟨x, by rw [e]; exact hx, .inl rfl⟩
  · exact ⟨x, by rw [e, List.getElem?_append_left hk]; exact hx, .inl rfl⟩
  · by_cases hjk : j = k
    · subst hjk
      rw [hx] at hx'
      cases hx'
      obtain ⟨_, _, h3⟩ := hg j x hx
      refine ⟨turnX x c, by rw [e, List.getElem?_set_self hk], .inr ⟨hv, turnX_vol _ _, ?_⟩⟩
      rw [turnX_epoch, wrapI_id _ (by omega) (by omega)]
    · exact ⟨x, by rw [e, List.getElem?_set_ne hjk]; exact hx, .inl rfl⟩
/-- What the count comes to. -/
theorem cnt_same (es es2 : List Ent) (h : ∀ (k : Nat) (x y : Ent), es[k]? = some x → es2[k]? = some y → y = x) (k : Nat) : cnt es es2 k = 0 := by
  induction k with
  | zero => rfl
  | succ k ih =>
    simp only [cnt, ih]
    cases hx : es[k]? with
    | none => rfl
    | some x =>
      cases hy : es2[k]? with
      | none => rfl
      | some y => simp [h k x y hx hy]
theorem cnt_set (es : List Ent) (j : Nat) (x y : Ent) (hx : es[j]? = some x) (he : x.epoch ≠ y.epoch) (k : Nat) : cnt es (es.set j y) k = if j < k then 1 else 0 := by
  induction k with
  | zero => rfl
  | succ k ih =>
    simp only [cnt, ih]
    by_cases hjk : j = k
    · subst hjk
      rw [hx, List.getElem?_set_self (List.getElem?_eq_some_iff.1 hx).1]
      simp [he]
    · rw [List.getElem?_set_ne hjk]
      have : (match es[k]?, es[k]? with | some x, some y => if x.epoch = y.epoch then 0 else 1 | _, _ => 0) = 0 := by
        cases es[k]? <;> simp
      rw [this]
      by_cases h1 : j < k
      · rw [if_pos h1, if_pos (by omega)]
      · rw [if_neg h1, if_neg (by omega)]
/-- What the law's last test asks. -/
theorem cnt_law (E : Int) (es : List Ent) (c : Cmd) (hg : Good E es) (hE : E ≤ 1000000) :
    (doK es c ≠ 0 ∧ cnt es (doEs es c) es.length = 0 ∧ (doEs es c).length = es.length) ∨
    (doK es c = 0 ∧ cnt es (doEs es c) es.length = 0 ∧ (doEs es c).length = es.length + 1) ∨
    (doK es c = 0 ∧ cnt es (doEs es c) es.length = 1 ∧ (doEs es c).length = es.length) := by
  rcases do_ways es c with ⟨h0, e, _⟩ | ⟨h0, _, _, _, e, _⟩ | ⟨h0, j, x, hx, hv, _, _, _, e, _⟩
  · refine .inl ⟨h0, ?_, by rw [e]⟩
    rw [e]
    exact cnt_same _ _ (fun k x y hx hy => by rw [hx] at hy; cases hy; rfl) _
  · refine .inr (.inl ⟨h0, ?_, by rw [e]; simp⟩)
    rw [e]
    refine cnt_same _ _ (fun k x y hx hy => ?_) _
    rw [List.getElem?_append_left (List.getElem?_eq_some_iff.1 hx).1, hx] at hy
    cases hy; rfl
  · refine .inr (.inr ⟨h0, ?_, by rw [e]; simp⟩)
    obtain ⟨_, _, h3⟩ := hg j x hx
    rw [e, cnt_set es j x _ hx (by rw [turnX_epoch, wrapI_id _ (by omega) (by omega)]; omega), if_pos (List.getElem?_eq_some_iff.1 hx).1]
theorem cnt_le (es es2 : List Ent) (k : Nat) : cnt es es2 k ≤ k := by
  induction k with
  | zero => exact Nat.le_refl _
  | succ k ih =>
    simp only [cnt]
    split
    · split <;> omega
    · omega
end Go.Proofs.Ytigkcbnlbdiimaa

/- '==' on arrays of three ints. -/
namespace Go.Proofs.Ytigkcbnlbdiimaa
open Go.RowKit
theorem int_size3 : (Try.prog.info? 3).map (fun i => i.size) = some 1 := by kernel_rfl
theorem eq3 (d : Nat) (a b c x y z : Int) (w : World) :
    (Op.equalIn (d + 2) 30 (.agg #[.int .i64 a, .int .i64 b, .int .i64 c]) (.agg #[.int .i64 x, .int .i64 y, .int .i64 z])).run Try.prog w = .ok (a == x && (b == y && c == z)) w := by
  obtain ⟨i, hi, hs⟩ := Option.map_eq_some_iff.1 int_size3
  simp [Op.equalIn, run_underlying Try.underlying30, sizeOf, typeInfo, hi, hs, List.range', List.range, part, isAgg, run_underlying Try.underlying3, run_equalIn_int]
  by_cases h1 : a = x <;> by_cases h2 : b = y <;> by_cases h3 : c = z <;> simp [h1, h2, h3]
@[go_sem] theorem eq3_in (a b c x y z : Int) (w : World) :
    (Op.equalIn 9999 30 (.agg #[.int .i64 a, .int .i64 b, .int .i64 c]) (.agg #[.int .i64 x, .int .i64 y, .int .i64 z])).run Try.prog w = .ok (a == x && (b == y && c == z)) w := eq3 9997 a b c x y z w
end Go.Proofs.Ytigkcbnlbdiimaa

/- DirsApart: the walk. -/
namespace Go.Proofs.Ytigkcbnlbdiimaa
open Go.RowKit
/-- The cells of a row of commands that came in. -/
def CmdsAt (w : World) (b off : Nat) (cs : List Cmd) : Prop := ∀ (i : Nat) (c : Cmd), cs[i]? = some c →
  w.cell? ⟨b, off + i * 8, none⟩ = some (.int .i64 c.kind) ∧ w.cell? ⟨b, off + i * 8 + 1, none⟩ = some (.int .i64 c.vol) ∧ w.cell? ⟨b, off + i * 8 + 2, none⟩ = some (.int .i64 c.epoch) ∧
  w.cell? ⟨b, off + i * 8 + 3, none⟩ = some (.int .i64 c.spot) ∧ w.cell? ⟨b, off + i * 8 + 4, none⟩ = some (.int .i64 c.node) ∧ w.cell? ⟨b, off + i * 8 + 5, none⟩ = some (.int .i64 c.n0) ∧
  w.cell? ⟨b, off + i * 8 + 6, none⟩ = some (.int .i64 c.n1) ∧ w.cell? ⟨b, off + i * 8 + 7, none⟩ = some (.int .i64 c.n2)
/-- What holds of the map at a loop's head. -/
def MapInv (B bm : Nat) (E : Int) (N : Nat) (w0 w : World) : Prop := ∃ v es, MapAt w B bm v es ∧ Good E es ∧ es.length ≤ N ∧ Below w0.heap.size w0 w
theorem MapInv.mono {B bm N N' : Nat} {E E' : Int} {w0 w : World} (h : MapInv B bm E N w0 w) (he : E ≤ E') (hn : N ≤ N') : MapInv B bm E' N' w0 w := by
  obtain ⟨v, es, a, b, c, d⟩ := h
  exact ⟨v, es, a, b.mono he, Nat.le_trans c hn, d⟩
/-- The cells of one entry of an owned row. -/
theorem row_ent {w : World} {base : Nat} {v : Value} {es : List Ent} (hr : w.ownsRow base 37 6 v es.length (es.flatMap Ent.row)) (k : Nat) (x : Ent) (hx : es[k]? = some x) :
    ∃ g c, v = .slice (some ⟨g, 0, none⟩) es.length c ∧ g < w.heap.size ∧ base ≤ g ∧ k < es.length ∧
      w.cell? ⟨g, k * 6, none⟩ = some (.int .i64 x.vol) ∧ w.cell? ⟨g, k * 6 + 1, none⟩ = some (.int .i64 x.epoch) ∧ w.cell? ⟨g, k * 6 + 2, none⟩ = some (.int .i64 x.n0) ∧
      w.cell? ⟨g, k * 6 + 3, none⟩ = some (.int .i64 x.n1) ∧ w.cell? ⟨g, k * 6 + 4, none⟩ = some (.int .i64 x.n2) ∧ w.cell? ⟨g, k * 6 + 5, none⟩ = some (.bool x.shut) := by
  have hk : k < es.length := (List.getElem?_eq_some_iff.1 hx).1
  have hlt := hr.lt
  rcases hr.2 with ⟨_, hz⟩ | ⟨g, cap, cur, rfl, hg, _⟩
  · omega
  · have hg1 := hlt g rfl
    have hc := fun j hj => ownsRow_cell Ent.row 6 Ent.row_len es hr k j x hx hj
    refine ⟨g, cap, rfl, hg1.2, hg1.1, hk, ?_, ?_, ?_, ?_, ?_, ?_⟩
    · simpa [Ent.row] using hc 0 (by omega)
    · simpa [Ent.row] using hc 1 (by omega)
    · simpa [Ent.row] using hc 2 (by omega)
    · simpa [Ent.row] using hc 3 (by omega)
    · simpa [Ent.row] using hc 4 (by omega)
    · simpa [Ent.row] using hc 5 (by omega)
theorem MapInv.later {B bm N : Nat} {E : Int} {w0 w w' : World} (h : MapInv B bm E N w0 w) (hb : Below w.heap.size w w') : MapInv B bm E N w0 w' := by
  obtain ⟨v, es, a, b, c, d⟩ := h
  exact ⟨v, es, a.below hb, b, c, d.trans (hb.mono d.size)⟩
theorem slice_inj {a b : Option Addr} {n m c d : Nat} (h : Value.slice a n c = .slice b m d) : a = b ∧ n = m ∧ c = d := by simpa using h
theorem DoOut.under {w0 w w' : World} {B bm : Nat} {v : Value} {es es' : List Ent} {n k : Int} {e : Ending} (h : DoOut w B bm v es' n k e w') (hm : MapAt w B bm v es) (hB : w0.heap.size ≤ B) (hb : Below w0.heap.size w0 w) : Below w0.heap.size w0 w' := by
  obtain ⟨_, _, _, _, hk⟩ := h
  refine hb.trans (hk.below (B := w0.heap.size) hb.size ?_)
  rintro i (rfl | h)
  · exact Nat.le_trans hB hm.low
  · exact Nat.le_trans hB (hm.row.lt i h).1
theorem MapInv.of_do {w0 w w' : World} {B bm N : Nat} {E : Int} {v : Value} {es : List Ent} {c : Cmd} {n k : Int} {e : Ending} (h : DoOut w B bm v (doEs es c) n k e w') (hm : MapAt w B bm v es) (hg : Good E es) (hl : es.length ≤ N)
    (hB : w0.heap.size ≤ B) (hb : Below w0.heap.size w0 w) (h1 : 1 ≤ E) (hE : E ≤ 1000000) : MapInv B bm (E + 1) (N + 1) w0 w' := by
  have hu := h.under hm hB hb
  obtain ⟨_, v', hm', _, _⟩ := h
  exact ⟨v', _, hm', good_do E es c hg h1 hE, by have := (doEs_len es c).2; omega, hu⟩
set_option maxRecDepth 100000 in
set_option maxHeartbeats 2000000 in
theorem apart_any (ao : Option Addr) (n cap : Nat) (cs : List Cmd) (w : World) (hl : cs.length = n) (hn : n ≤ 100) (hA : 0 < n → ∃ b off, ao = some ⟨b, off, none⟩ ∧ b < w.heap.size ∧ CmdsAt w b off cs) :
    Calls Try.prog 3 #[.slice ao n cap] w fun e w' => e = .returned (.bool true) ∧ Below w.heap.size w w' := by
  have HL := Lib.hid hl
  have HA := Lib.hid hA
  clear hl hA
  have hd100 : decide ((100 : Int) < (n : Int)) = false := by simp; omega
  go_enter Try.func3, Try.ntmps3
  go_wp2_with fail
  refine (alive19 _).mono ?_
  rintro e w1 ⟨rfl, hb1⟩
  have hz1 := hb1.size
  have HB1 := Lib.hid hb1
  clear hb1
  go_wp2_with fail
  refine (new_any _).mono ?_
  rintro e w2 ⟨rfl, rfl⟩
  have h0 : MapInv w.heap.size w1.heap.size 1 0 w (w1.alloc (.cells #[.slice none 0 0] 105)) :=
    ⟨_, [], MapAt.made w1 _ hz1, fun i x hx => by simp at hx, Nat.le_refl _, HB1.out.alloc hz1 _⟩
  have H0 := Lib.hid h0
  clear h0
  go_wp2_with fail
  go_loopw [4] (fun i wr => ∃ k : Nat, k ≤ 3 ∧ i = .int .i64 k ∧ MapInv w.heap.size w1.heap.size (1 + k) k w wr) (fun i _ => 3 - (intOf i).toNat)
  case atStart => exact ⟨0, by omega, rfl, H0.out⟩
  case round =>
    obtain ⟨k, hk, rfl, hm⟩ := hrel
    have HM := Lib.hid hm
    clear hm
    by_cases hlt : k < 3
    · go_wp2_with fail
      obtain ⟨v, es, hm, hg, hen, hbw⟩ := HM.out
      refine (do_any w.heap.size w1.heap.size v es ⟨1, 0, 0, 0, 0, k, k + 1, k + 2⟩ _ hm).mono ?_
      rintro e w3 hd
      have HD := Lib.hid (MapInv.of_do (w0 := w) (N := k) (E := 1 + k) hd hm hg hen (Nat.le_refl _) hbw (by omega) (by omega))
      obtain ⟨rfl, _⟩ := hd
      clear hm hg hen hbw
      go_wp2_with fail
      go_roundw
      case rel => exact ⟨k + 1, by omega, by go_num, by
        have := HD.out
        rwa [show (1 + (k : Int) + 1) = 1 + ((k + 1 : Nat) : Int) by omega] at this⟩
      case measure => simp [intOf]; omega
    · go_wp2_with fail
      go_loopw [5] (fun i wr => ∃ k : Nat, k ≤ n ∧ i = .int .i64 k ∧ MapInv w.heap.size w1.heap.size (10 + k) (3 + k) w wr) (fun i _ => n - (intOf i).toNat)
      case atStart => exact ⟨0, Nat.zero_le _, rfl, HM.out.mono (by omega) (by omega)⟩
      case round =>
        clear HM H0
        obtain ⟨i, hi, rfl, hm⟩ := hrel
        have HM := Lib.hid hm
        clear hm
        by_cases hlt2 : i < n
        · obtain ⟨v, es, hm, hg, hen, hbw⟩ := HM.out
          clear HM
          obtain ⟨c, hc⟩ : ∃ c, cs[i]? = some c := ⟨_, List.getElem?_eq_getElem (by rw [HL.out]; exact hlt2)⟩
          obtain ⟨es2, he2⟩ : ∃ es2, doEs es c = es2 := ⟨_, rfl⟩
          obtain ⟨nd, hnd⟩ : ∃ nd, doN es c = nd := ⟨_, rfl⟩
          obtain ⟨kd, hkd⟩ : ∃ kd : Int, (doK es c : Int) = kd := ⟨_, rfl⟩
          have HE2 := Lib.hid he2
          have HND := Lib.hid hnd
          have HKD := Lib.hid hkd
          clear he2 hnd hkd
          obtain ⟨b, off, rfl, hb, hC⟩ := HA.out (by omega)
          obtain ⟨q0, q1, q2, q3, q4, q5, q6, q7⟩ := hC i c hc
          clear hC
          have HG := Lib.hid hg
          have HEN := Lib.hid hen
          have HMr := Lib.hid hm
          have HBW := Lib.hid hbw
          clear hg hen hm hbw
          go_wp2_with fail
          refine (all_any _ _ _ _ _ HMr.out).mono ?_
          rintro e w3 ⟨v3, rfl, ho3, _, hb3⟩
          have HM3 := Lib.hid (HMr.out.below hb3)
          have HB3 := Lib.hid (HBW.out.trans (hb3.mono HBW.out.size))
          have HO3 := Lib.hid ho3
          have hz3 := hb3.size
          clear ho3
          have k0 := (HB3.out.cell (p := ⟨b, off + i * 8, none⟩) hb).trans q0
          have k1 := (HB3.out.cell (p := ⟨b, off + i * 8 + 1, none⟩) hb).trans q1
          have k2 := (HB3.out.cell (p := ⟨b, off + i * 8 + 2, none⟩) hb).trans q2
          have k3 := (HB3.out.cell (p := ⟨b, off + i * 8 + 3, none⟩) hb).trans q3
          have k4 := (HB3.out.cell (p := ⟨b, off + i * 8 + 4, none⟩) hb).trans q4
          have k5 := (HB3.out.cell (p := ⟨b, off + i * 8 + 5, none⟩) hb).trans q5
          have k6 := (HB3.out.cell (p := ⟨b, off + i * 8 + 6, none⟩) hb).trans q6
          have k7 := (HB3.out.cell (p := ⟨b, off + i * 8 + 7, none⟩) hb).trans q7
          have HB3' := Lib.hid hb3
          clear hb3
          obtain ⟨a3, cap3, rfl⟩ := ownsRow_len HO3.out
          go_wp2_with fail
          refine (do_at _ _ _ _ es2 c nd kd _ HM3.out HE2.out HND.out HKD.out).mono ?_
          rintro e w4 hd
          have HD := Lib.hid hd
          obtain ⟨rfl, v4, hm4, hv4, hk4⟩ := hd
          have HM4 := Lib.hid hm4
          have HK4 := Lib.hid hk4
          have HV4 := Lib.hid hv4
          have hz4 := hk4.size
          clear hm4 hk4 hv4 k0 k1 k2 k3 k4 k5 k6 k7
          go_wp2_with fail
          refine (all_any _ _ _ _ _ HM4.out).mono ?_
          rintro e w5 ⟨v5, rfl, ho5, _, hb5⟩
          obtain ⟨a5, cap5, rfl⟩ := ownsRow_len ho5
          have HO5 := Lib.hid ho5
          have HB5 := Lib.hid hb5
          have hz5 := hb5.size
          clear ho5 hb5
          go_wp2_with fail
          have HB5w : Hid (Below w.heap.size w w5) := by
            have h4 := HD.out.under HM3.out (Nat.le_refl _) HB3.out
            exact h4.trans (HB5.out.mono h4.size)
          have HO35 : Hid (w5.ownsRow w.heap.size 37 6 (.slice a3 es.length cap3) es.length (es.flatMap Ent.row)) := by
            have h1 := HO3.out.lt
            have h2 : ∀ k, (Value.slice a3 es.length cap3).ownBlock = some k → ¬ (k = w1.heap.size ∨ v.ownBlock = some k) := by
              intro k hk
              have h3 := (h1 k hk).1
              rintro (rfl | h)
              · have := HMr.out.lt; omega
              · have := (HMr.out.row.lt k h).2; omega
            have h5 := ownsRow_keeps HO3.out HK4.out h2
            exact ownsRow_mono (ownsRow_at h5 (fun k hk => HB5.out.block k (h5.lt k hk).2)) (by have := HBW.out.size; exact this)
          have HM5 : Hid (MapInv w.heap.size w1.heap.size (10 + (i : Int) + 1) (3 + i + 1) w w5) := by
            have h4 := HD.out
            rw [← HE2.out] at h4
            exact (MapInv.of_do h4 HM3.out HG.out HEN.out (Nat.le_refl _) HB3.out (by omega) (by omega)).later HB5.out
          clear HB5
          go_loopw [10, 11] (fun t kk wx => ∃ k : Nat, k ≤ es.length ∧ kk = .int .i64 k ∧ t = .int .i64 (cnt es es2 k) ∧ Below w5.heap.size w5 wx) (fun _ kk _ => es.length - (intOf kk).toNat)
          case atStart => exact ⟨0, Nat.zero_le _, rfl, rfl, Below.refl _ _⟩
          case round =>
            obtain ⟨k, hk, rfl, rfl, hbx⟩ := hrel
            have HBX := Lib.hid hbx
            clear hbx
            by_cases hlt3 : k < es.length
            · obtain ⟨x, hx⟩ : ∃ x, es[k]? = some x := ⟨_, List.getElem?_eq_getElem hlt3⟩
              obtain ⟨y, hy, hxy⟩ := ent_ways _ es c HG.out (by omega) k x hx
              rw [HE2.out] at hy
              have hk2 : k < es2.length := (List.getElem?_eq_some_iff.1 hy).1
              have hl1 : es.length ≤ 200 := by have := HEN.out; omega
              obtain ⟨g3, cc3, e3, hg3, _, _, x0, x1, x2, x3, x4, x5⟩ := row_ent (ownsRow_below HO35.out HBX.out) k x hx
              obtain ⟨g5, cc5, e5, hg5, _, _, y0, y1, y2, y3, y4, y5⟩ := row_ent (ownsRow_below HO5.out HBX.out) k y hy
              obtain ⟨rfl, -, rfl⟩ := slice_inj e3
              obtain ⟨rfl, -, rfl⟩ := slice_inj e5
              have hi0 : (0 : Int) ≤ (k : Int) := by omega
              have hi1 : (k : Int) < (es.length : Int) := by omega
              have hi2 : (k : Int) < (es2.length : Int) := by omega
              have hwk : IntKind.i64.wrap ((k : Int) + 1) = (k : Int) + 1 := IntWalk.i64_in _ (by omega)
              clear e3 e5
              rcases hxy with hxy | ⟨hv, hyv, hye⟩
              · have HCN := Lib.hid (show cnt es es2 (k + 1) = cnt es es2 k by simp [cnt, hx, hy, hxy])
                subst hxy
                obtain ⟨xv, xe, xa, xb, xc, xs⟩ := y
                clear hx hy
                go_wp2_with fail
                refine wp_region_now [3, 7] [(0, 0), (1, 0), (2, 0), (3, 2), (4, 0), (5, 0), (6, 0), (7, 2), (8, 0)] (by kernel_rfl) (by kernel_rfl) rfl (by kernel_rfl) (fun c a d v w h => by cases d <;> exact h) ?_
                refine stepE0 rfl rfl (fun K hK => ?_)
                go_simp
                refine hK _ ?_
                clear hK K
                refine stepE0 rfl rfl (fun K hK => ?_)
                go_simp
                refine hK _ ?_
                clear hK K
                refine stepE0 rfl rfl (fun K hK => ?_)
                go_simp
                refine hK _ ?_
                clear hK K
                refine stepE2 rfl rfl ?_ (fun w1 hS => ?_) (fun K hK => ?_)
                rotate_left
                focus (obtain rfl : w1 = _ := hS; go_simp; rfl)
                go_simp
                refine hK _ ?_
                clear hK K
                refine stepE0 rfl rfl (fun K hK => ?_)
                go_simp
                refine hK _ ?_
                clear hK K
                refine stepE0 rfl rfl (fun K hK => ?_)
                go_simp
                refine hK _ ?_
                clear hK K
                refine stepE0 rfl rfl (fun K hK => ?_)
                go_simp
                refine hK _ ?_
                clear hK K
                refine stepE2 rfl rfl ?_ (fun w1 hS => ?_) (fun K hK => ?_)
                rotate_left
                focus (obtain rfl : w1 = _ := hS; go_simp; rfl)
                go_simp
                refine hK _ ?_
                clear hK K
                refine stepE0 rfl rfl (fun K hK => ?_)
                go_simp
                refine hK _ ?_
                clear hK K
                try refine stepEnil ?_
                go_wp2_with fail
                go_roundw
                case rel => exact ⟨k + 1, by omega, by go_num, by rw [HCN.out], HBX.out.drew⟩
                case measure => simp [intOf]; omega
              · have HCN := Lib.hid (show cnt es es2 (k + 1) = cnt es es2 k + 1 by simp [cnt, hx, hy]; omega)
                obtain ⟨_, _, hxe⟩ := HG.out k x hx
                have hcl : (cnt es es2 k : Int) ≤ 200 := by have := cnt_le es es2 k; omega
                have hcl0 : (0 : Int) ≤ (cnt es es2 k : Int) := by omega
                have kv := (((HB5w.out.trans (HBX.out.mono HB5w.out.size))).cell (p := ⟨b, off + i * 8 + 1, none⟩) hb).trans q1
                rw [hv] at kv
                obtain ⟨xv, xe, xa, xb, xc, xs⟩ := x
                obtain ⟨yv, ye, ya, yb, yc, ys⟩ := y
                have hyv' : yv = xv := hyv
                have hye' : ye = xe + 1 := hye
                subst hyv' hye'
                have hxe' : xe ≤ 10 + (i : Int) := hxe
                have hxe1 : 1 ≤ xe := (HG.out k _ hx).2.1
                have hne : (xe == xe + 1) = false := by rw [beq_eq_false_iff_ne]; omega
                have hwe : IntKind.i64.wrap (xe + 1) = xe + 1 := IntWalk.i64_in _ (by omega)
                have hj0 : (0 : Int) ≤ (i : Int) := by omega
                have hj1 : (i : Int) < (n : Int) := by omega
                clear hx hy hyv hye hv hxe q0 q1 q2 q3 q4 q5 q6 q7
                go_wp2_with fail
                refine wp_region_now [3, 7] [(0, 0), (1, 0), (2, 0), (3, 2), (4, 0), (5, 0), (6, 0), (7, 2), (8, 0)] (by kernel_rfl) (by kernel_rfl) rfl (by kernel_rfl) (fun c a d v w h => by cases d <;> exact h) ?_
                refine stepE0 rfl rfl (fun K hK => ?_)
                go_simp
                refine hK _ ?_
                clear hK K
                refine stepE0 rfl rfl (fun K hK => ?_)
                go_simp
                refine hK _ ?_
                clear hK K
                refine stepE0 rfl rfl (fun K hK => ?_)
                go_simp
                refine hK _ ?_
                clear hK K
                refine stepE2 rfl rfl ?_ (fun w1 hS => ?_) (fun K hK => ?_)
                rotate_left
                focus (obtain rfl : w1 = _ := hS; go_simp; rfl)
                go_simp
                refine hK _ ?_
                clear hK K
                refine stepE0 rfl rfl (fun K hK => ?_)
                go_simp
                refine hK _ ?_
                clear hK K
                refine stepE0 rfl rfl (fun K hK => ?_)
                go_simp
                refine hK _ ?_
                clear hK K
                refine stepE0 rfl rfl (fun K hK => ?_)
                go_simp
                refine hK _ ?_
                clear hK K
                refine stepE2 rfl rfl ?_ (fun w1 hS => ?_) (fun K hK => ?_)
                rotate_left
                focus (obtain rfl : w1 = _ := hS; go_simp; rfl)
                go_simp
                refine hK _ ?_
                clear hK K
                refine stepE0 rfl rfl (fun K hK => ?_)
                go_simp
                refine hK _ ?_
                clear hK K
                try refine stepEnil ?_
                go_wp2_with fail
                refine wp_region_now [4, 13, 18, 27, 32] [(0, 0), (1, 0), (2, 0), (3, 0), (4, 2), (5, 0), (6, 0), (7, 0), (8, 0), (9, 0), (10, 0), (11, 0), (12, 0), (13, 2), (14, 0), (15, 0), (16, 0), (17, 0), (18, 2), (19, 0), (20, 0), (21, 0), (22, 0), (23, 0), (24, 0), (25, 0), (26, 0), (27, 2), (28, 0), (29, 0), (30, 0), (31, 0), (32, 2), (33, 0), (34, 0)] (by kernel_rfl) (by kernel_rfl) rfl (by kernel_rfl) (fun c a d v w h => by cases d <;> exact h) ?_
                refine stepE0 rfl rfl (fun K hK => ?_)
                go_simp
                refine hK _ ?_
                clear hK K
                refine stepE0 rfl rfl (fun K hK => ?_)
                go_simp
                refine hK _ ?_
                clear hK K
                refine stepE0 rfl rfl (fun K hK => ?_)
                go_simp
                refine hK _ ?_
                clear hK K
                refine stepE0 rfl rfl (fun K hK => ?_)
                go_simp
                refine hK _ ?_
                clear hK K
                refine stepE2 rfl rfl ?_ (fun w1 hS => ?_) (fun K hK => ?_)
                rotate_left
                focus (obtain rfl : w1 = _ := hS; go_simp; rfl)
                go_simp
                refine hK _ ?_
                clear hK K
                refine stepE0 rfl rfl (fun K hK => ?_)
                go_simp
                refine hK _ ?_
                clear hK K
                refine stepE0 rfl rfl (fun K hK => ?_)
                go_simp
                refine hK _ ?_
                clear hK K
                refine stepE0 rfl rfl (fun K hK => ?_)
                go_simp
                refine hK _ ?_
                clear hK K
                refine stepE0 rfl rfl (fun K hK => ?_)
                go_simp
                refine hK _ ?_
                clear hK K
                refine stepE0 rfl rfl (fun K hK => ?_)
                go_simp
                refine hK _ ?_
                clear hK K
                refine stepE0 rfl rfl (fun K hK => ?_)
                go_simp
                refine hK _ ?_
                clear hK K
                refine stepE0 rfl rfl (fun K hK => ?_)
                go_simp
                refine hK _ ?_
                clear hK K
                refine stepE0 rfl rfl (fun K hK => ?_)
                go_simp
                refine hK _ ?_
                clear hK K
                refine stepE2 rfl rfl ?_ (fun w1 hS => ?_) (fun K hK => ?_)
                rotate_left
                focus (obtain rfl : w1 = _ := hS; go_simp; rfl)
                go_simp
                refine hK _ ?_
                clear hK K
                refine stepE0 rfl rfl (fun K hK => ?_)
                go_simp
                refine hK _ ?_
                clear hK K
                refine stepE0 rfl rfl (fun K hK => ?_)
                go_simp
                refine hK _ ?_
                clear hK K
                refine stepE0 rfl rfl (fun K hK => ?_)
                go_simp
                refine hK _ ?_
                clear hK K
                refine stepE0 rfl rfl (fun K hK => ?_)
                go_simp
                refine hK _ ?_
                clear hK K
                refine stepE2 rfl rfl ?_ (fun w1 hS => ?_) (fun K hK => ?_)
                rotate_left
                focus (obtain rfl : w1 = _ := hS; go_simp; rfl)
                go_simp
                refine hK _ ?_
                clear hK K
                refine stepE0 rfl rfl (fun K hK => ?_)
                go_simp
                refine hK _ ?_
                clear hK K
                refine stepE0 rfl rfl (fun K hK => ?_)
                go_simp
                refine hK _ ?_
                clear hK K
                refine stepE0 rfl rfl (fun K hK => ?_)
                go_simp
                refine hK _ ?_
                clear hK K
                refine stepE0 rfl rfl (fun K hK => ?_)
                go_simp
                refine hK _ ?_
                clear hK K
                refine stepE0 rfl rfl (fun K hK => ?_)
                go_simp
                refine hK _ ?_
                clear hK K
                refine stepE0 rfl rfl (fun K hK => ?_)
                go_simp
                refine hK _ ?_
                clear hK K
                refine stepE0 rfl rfl (fun K hK => ?_)
                go_simp
                refine hK _ ?_
                clear hK K
                refine stepE0 rfl rfl (fun K hK => ?_)
                go_simp
                refine hK _ ?_
                clear hK K
                refine stepE2 rfl rfl ?_ (fun w1 hS => ?_) (fun K hK => ?_)
                rotate_left
                focus (obtain rfl : w1 = _ := hS; go_simp; rfl)
                go_simp
                refine hK _ ?_
                clear hK K
                refine stepE0 rfl rfl (fun K hK => ?_)
                go_simp
                refine hK _ ?_
                clear hK K
                refine stepE0 rfl rfl (fun K hK => ?_)
                go_simp
                refine hK _ ?_
                clear hK K
                refine stepE0 rfl rfl (fun K hK => ?_)
                go_simp
                refine hK _ ?_
                clear hK K
                refine stepE0 rfl rfl (fun K hK => ?_)
                go_simp
                refine hK _ ?_
                clear hK K
                refine stepE2 rfl rfl ?_ (fun w1 hS => ?_) (fun K hK => ?_)
                rotate_left
                focus (obtain rfl : w1 = _ := hS; go_simp; rfl)
                go_simp
                refine hK _ ?_
                clear hK K
                refine stepE0 rfl rfl (fun K hK => ?_)
                go_simp
                refine hK _ ?_
                clear hK K
                refine stepE0 rfl rfl (fun K hK => ?_)
                go_simp
                refine hK _ ?_
                clear hK K
                try refine stepEnil ?_
                go_wp2_with fail
                go_roundw
                case rel => exact ⟨k + 1, by omega, by go_num, by rw [HCN.out]; go_num, HBX.out.drew.drew⟩
                case measure => simp [intOf]; omega
            · have hke : k = es.length := by omega
              subst hke
              have hl1 : es.length ≤ 200 := by have := HEN.out; omega
              have hkd0 : 0 ≤ kd := by have := HKD.out; omega
              have hkd1 : kd ≤ 17 := by have := HKD.out; have := doK_le es c; omega
              have hcase := cnt_law _ es c HG.out (by omega)
              rw [HE2.out] at hcase
              have hkz : doK es c = 0 ↔ kd = 0 := by have := HKD.out; omega
              have HMX := Lib.hid (HM5.out.later HBX.out)
              have hrel1 : (10 + (i : Int) + 1) = 10 + ((i + 1 : Nat) : Int) := by omega
              have HR1 := Lib.hid hrel1
              clear hrel1
              generalize cnt es es2 es.length = T at *
              rcases hcase with ⟨hd1, hT, hlen⟩ | ⟨hd1, hT, hlen⟩ | ⟨hd1, hT, hlen⟩
              · have hkn : kd ≠ 0 := fun h => hd1 (hkz.2 h)
                have hkb : (kd == 0) = false := by rw [beq_eq_false_iff_ne]; exact hkn
                have hlb : ((es2.length : Int) != (es.length : Int)) = false := by rw [hlen]; simp
                clear hd1 hkn hkz hlen
                subst hT
                go_wp2_with (go_at_call 18; (with_reducible refine (code_any _ (by omega) (by omega) _).mono ?_); rintro e w' ⟨rfl, rfl⟩)
                go_roundw
                case rel => exact ⟨i + 1, by omega, by go_num, by
                  have := HMX.out
                  rwa [HR1.out, show 3 + i + 1 = 3 + (i + 1) by omega] at this⟩
                case measure => simp [intOf]; omega
              · have hkn : kd = 0 := hkz.1 hd1
                subst hkn
                have hlb : ((es2.length : Int) != (es.length : Int) + 1) = false := by rw [hlen]; simp
                have hlb2 : ((es2.length : Int) != (es.length : Int)) = true := by rw [hlen, bne_iff_ne]; omega
                clear hd1 hkz hlen
                subst hT
                go_wp2_with (go_at_call 18; (with_reducible refine (code_any _ (by omega) (by omega) _).mono ?_); rintro e w' ⟨rfl, rfl⟩)
                go_roundw
                case rel => exact ⟨i + 1, by omega, by go_num, by
                  have := HMX.out
                  rwa [HR1.out, show 3 + i + 1 = 3 + (i + 1) by omega] at this⟩
                case measure => simp [intOf]; omega
              · have hkn : kd = 0 := hkz.1 hd1
                subst hkn
                have hlb2 : ((es2.length : Int) != (es.length : Int)) = false := by rw [hlen]; simp
                clear hd1 hkz hlen
                subst hT
                go_wp2_with (go_at_call 18; (with_reducible refine (code_any _ (by omega) (by omega) _).mono ?_); rintro e w' ⟨rfl, rfl⟩)
                go_roundw
                case rel => exact ⟨i + 1, by omega, by go_num, by
                  have := HMX.out
                  rwa [HR1.out, show 3 + i + 1 = 3 + (i + 1) by omega] at this⟩
                case measure => simp [intOf]; omega
        · go_wp2_with fail
          go_ret
          obtain ⟨_, _, _, _, _, hbw⟩ := HM.out
          exact ⟨rfl, hbw⟩
set_option maxRecDepth 100000 in
set_option maxHeartbeats 1000000 in
theorem apart_big (ao : Option Addr) (n cap : Nat) (w : World) (hn : 100 < n) : Calls Try.prog 3 #[.slice ao n cap] w fun e w' => e = .returned (.bool true) ∧ Below w.heap.size w w' := by
  have hn' : (100 : Int) < (n : Int) := by omega
  go_enter Try.func3, Try.ntmps3
  go_wp2_with fail
  refine (alive19 _).mono ?_
  rintro e w1 ⟨rfl, hb1⟩
  go_wp2_with fail
  go_ret
  exact ⟨rfl, hb1⟩
end Go.Proofs.Ytigkcbnlbdiimaa

/- corncribref19: near, Do where nothing changes. -/
namespace Go.Proofs.Ytigkcbnlbdiimaa
open Go.RowKit
set_option maxHeartbeats 400000 in
theorem near_any (n : Int) (w : World) :
    Calls Try.prog 69 #[.int .i64 n] w fun e w' => e = .returned (.bool (placeB n)) ∧ w = w' := by
  by_cases h : 0 ≤ n
  · go_enter Try.func69, Try.ntmps69
    go_wp2
    go_ret
    exact ⟨by simp [placeB, h]; omega, rfl⟩
  · go_enter Try.func69, Try.ntmps69
    go_wp2
    go_ret
    exact ⟨by simp [placeB]; omega, rfl⟩
/-- What the document's Do gives: the entries, the number, the error. -/
def RefOut (w : World) (base : Nat) (es : List Ent) (n k : Int) (e : Ending) (w' : World) : Prop :=
  ∃ v', e = .returned (.tuple #[v', .int .i64 n, .int .i64 k]) ∧ w'.ownsRow base 128 6 v' es.length (es.flatMap Ent.row) ∧ Below w.heap.size w w'
theorem RefOut.same {w w' : World} {base : Nat} {v : Value} {es : List Ent} {n k : Int} (h : w.ownsRow base 128 6 v es.length (es.flatMap Ent.row)) (hb : Below w.heap.size w w') :
    RefOut w base es n k (.returned (.tuple #[v, .int .i64 n, .int .i64 k])) w' := ⟨v, rfl, ownsRow_below h hb, hb⟩
set_option maxRecDepth 100000 in
set_option maxHeartbeats 1000000 in
theorem ref_wild (base : Nat) (v : Value) (es : List Ent) (c : Cmd) (w : World) (h : w.ownsRow base 128 6 v es.length (es.flatMap Ent.row)) (hk : c.kind < 1 ∨ 4 < c.kind) :
    Calls Try.prog 39 #[v, .agg #[.int .i64 c.kind, .int .i64 c.vol, .int .i64 c.epoch, .int .i64 c.spot, .int .i64 c.node, .int .i64 c.n0, .int .i64 c.n1, .int .i64 c.n2]] w
      (RefOut w base es 0 1) := by
  have H := Lib.hid h
  obtain ⟨a, cap, rfl⟩ := ownsRow_len h
  clear h
  obtain ⟨k, cv, ce, cs, cn, c0, c1, c2⟩ := c
  have hk' : k < 1 ∨ 4 < k := hk
  clear hk
  by_cases h1 : k < 1
  · clear hk'
    go_enter Try.func39, Try.ntmps39
    go_wp2_with fail
    go_ret3
    exact RefOut.same H.out (by repeat (first | (with_reducible exact Below.refl _ _) | (with_reducible refine Below.setCell ?_ ?_ _) | (with_reducible refine Below.alloc ?_ ?_ _) | (with_reducible refine Below.drewN ?_ _) | (with_reducible refine Below.drew ?_) | (with_reducible exact Nat.le_refl _) | (focus (simp only [World.size_alloc, World.size_setCell, World.size_drew, World.size_drewN]; omega)) | omega | exact Nat.le_refl _ | (focus (simp; done)) | (focus (simp; omega))))
  · have h4 : 4 < k := by omega
    have h1' : decide (k < 1) = false := by simpa using h1
    clear hk' h1
    go_enter Try.func39, Try.ntmps39
    go_wp2_with fail
    go_ret3
    exact RefOut.same H.out (by repeat (first | (with_reducible exact Below.refl _ _) | (with_reducible refine Below.setCell ?_ ?_ _) | (with_reducible refine Below.alloc ?_ ?_ _) | (with_reducible refine Below.drewN ?_ _) | (with_reducible refine Below.drew ?_) | (with_reducible exact Nat.le_refl _) | (focus (simp only [World.size_alloc, World.size_setCell, World.size_drew, World.size_drewN]; omega)) | omega | exact Nat.le_refl _ | (focus (simp; done)) | (focus (simp; omega))))
theorem three_ways {a b c : Int} (h : threeB a b c = false) :
    placeB a = false ∨ (placeB a = true ∧ placeB b = false) ∨ (placeB a = true ∧ placeB b = true ∧ placeB c = false) ∨ (placeB a = true ∧ placeB b = true ∧ placeB c = true ∧ (a == b) = true) ∨
    (placeB a = true ∧ placeB b = true ∧ placeB c = true ∧ (a == b) = false ∧ (a == c) = true) ∨ (placeB a = true ∧ placeB b = true ∧ placeB c = true ∧ (a == b) = false ∧ (a == c) = false ∧ (b == c) = true) := by
  cases ha : placeB a <;> cases hb : placeB b <;> cases hc : placeB c <;> cases h1 : (a == b) <;> cases h2 : (a == c) <;> cases h3 : (b == c) <;> simp_all [threeB]
theorem three_yes {a b c : Int} (h : threeB a b c = true) : placeB a = true ∧ placeB b = true ∧ placeB c = true ∧ (a == b) = false ∧ (a == c) = false ∧ (b == c) = false := by
  cases ha : placeB a <;> cases hb : placeB b <;> cases hc : placeB c <;> cases h1 : (a == b) <;> cases h2 : (a == c) <;> cases h3 : (b == c) <;> simp_all [threeB]
set_option maxRecDepth 100000 in
set_option maxHeartbeats 2000000 in
theorem ref_arg (base : Nat) (v : Value) (es : List Ent) (c : Cmd) (w : World) (h : w.ownsRow base 128 6 v es.length (es.flatMap Ent.row)) (hk : c.kind = 1) (ht : threeB c.n0 c.n1 c.n2 = false) :
    Calls Try.prog 39 #[v, .agg #[.int .i64 c.kind, .int .i64 c.vol, .int .i64 c.epoch, .int .i64 c.spot, .int .i64 c.node, .int .i64 c.n0, .int .i64 c.n1, .int .i64 c.n2]] w
      (RefOut w base es 0 1) := by
  have H := Lib.hid h
  obtain ⟨a, cap, rfl⟩ := ownsRow_len h
  clear h
  obtain ⟨k, cv, ce, cs, cn, c0, c1, c2⟩ := c
  have hk' : k = 1 := hk
  subst hk'
  clear hk
  have hnear := near_any
  have hw := three_ways ht
  clear ht
  have ht := hw
  clear hw
  simp only at ht
  rcases ht with ha | ⟨ha, hb⟩ | ⟨ha, hb, hc⟩ | ⟨ha, hb, hc, h1⟩ | ⟨ha, hb, hc, h1, h2⟩ | ⟨ha, hb, hc, h1, h2, h3⟩
  all_goals
    go_enter Try.func39, Try.ntmps39
    go_wp2_with fail
    refine wp_region_now0 [2, 5, 8] [(0, 0), (1, 0), (2, 2), (3, 0), (4, 0), (5, 2), (6, 0), (7, 0), (8, 2), (9, 0), (10, 0), (11, 0)] (by kernel_rfl) (by kernel_rfl) rfl (by kernel_rfl) ?_
    refine stepE0 rfl rfl (fun K hK => ?_)
    go_simp
    refine hK _ ?_
    clear hK K
    refine stepE0 rfl rfl (fun K hK => ?_)
    go_simp
    refine hK _ ?_
    clear hK K
    refine stepE2 rfl rfl ?_ (fun w1 hS => ?_) (fun K hK => ?_)
    rotate_left
    focus (obtain rfl : w1 = _ := hS; go_simp; rfl)
    go_simp
    refine hK _ ?_
    clear hK K
    refine stepE0 rfl rfl (fun K hK => ?_)
    go_simp
    refine hK _ ?_
    clear hK K
    refine stepE0 rfl rfl (fun K hK => ?_)
    go_simp
    refine hK _ ?_
    clear hK K
    refine stepE2 rfl rfl ?_ (fun w1 hS => ?_) (fun K hK => ?_)
    rotate_left
    focus (obtain rfl : w1 = _ := hS; go_simp; rfl)
    go_simp
    refine hK _ ?_
    clear hK K
    refine stepE0 rfl rfl (fun K hK => ?_)
    go_simp
    refine hK _ ?_
    clear hK K
    refine stepE0 rfl rfl (fun K hK => ?_)
    go_simp
    refine hK _ ?_
    clear hK K
    refine stepE2 rfl rfl ?_ (fun w1 hS => ?_) (fun K hK => ?_)
    rotate_left
    focus (obtain rfl : w1 = _ := hS; go_simp; rfl)
    go_simp
    refine hK _ ?_
    clear hK K
    refine stepE0 rfl rfl (fun K hK => ?_)
    go_simp
    refine hK _ ?_
    clear hK K
    refine stepE0 rfl rfl (fun K hK => ?_)
    go_simp
    refine hK _ ?_
    clear hK K
    refine stepE0 rfl rfl (fun K hK => ?_)
    go_simp
    refine hK _ ?_
    clear hK K
    try refine stepEnil0 ?_
    go_wp2_with (go_at_call 69; refine (near_any _ _).mono ?_; rintro e w' ⟨rfl, rfl⟩; simp only [ha, *])
    go_ret3
    exact RefOut.same H.out (by repeat (first | (with_reducible exact Below.refl _ _) | (with_reducible refine Below.setCell ?_ ?_ _) | (with_reducible refine Below.alloc ?_ ?_ _) | (with_reducible refine Below.drewN ?_ _) | (with_reducible refine Below.drew ?_) | (with_reducible exact Nat.le_refl _) | (focus (simp only [World.size_alloc, World.size_setCell, World.size_drew, World.size_drewN]; omega)) | omega | exact Nat.le_refl _ | (focus (simp; done)) | (focus (simp; omega))))
end Go.Proofs.Ytigkcbnlbdiimaa

/- append(own.., read..): where the source may be nil. -/
namespace Go.Proofs.Ytigkcbnlbdiimaa
open Go.RowKit
variable {P : Program} (w : World)
theorem wp_append_reads {o : Oper} {a : Go.Act} {K : Go.Act → World → Prop} {Q : Exit → Go.Act → World → Prop} (s x : Operand) (t : TypeId)
    (ho : o.op = .call { callee := .builtin .append, args := #[s, x], argTypes := #[t, t] })
    (base : Nat) (e : TypeId) (i : TypeInfo) (z : Value) (size bytes : Nat) (ht : P.underlying t = some (.slice e)) (hi : P.info? e = some i) (hz : i.zero = some z)
    (hsize : i.size = size) (hby : i.bytes = bytes) (hzs : z.cells.size = size) (hsz : 0 < size)
    (v : Value) (n : Nat) (xs : List Value) (hs : a.eval s = v) (hown : w.ownsRow base e size v n xs)
    (vx : Value) (m : Nat) (news : List Value) (hx : a.eval x = vx) (hr : Reads w size vx m news) (h1 : ∀ u ∈ news, u.oneCell' = true)
    (h63 : n + m ≤ maxLen) (hbytes : (n + m) * bytes ≤ 140737488355328) (hbase : base ≤ w.heap.size)
    (h : ∀ v' w', w'.ownsRow base e size v' (n + m) (xs ++ news) → w.grownBy w' v.ownBlock → (v'.ownBlock = v.ownBlock ∨ v'.ownBlock = some w.heap.size) → K (a.put o.dst v') w') : o.wp P a w K Q := by
  obtain ⟨hl, ⟨rfl, rfl⟩ | ⟨ad, c, rfl, _, hnews⟩⟩ := hr
  · have hn : news = [] := List.eq_nil_of_length_eq_zero (by simpa using hl)
    subst hn
    have hrun := run_append_owned_none (P := P) (w := w) base t o.type e i size ht hi v n xs hown
    unfold Oper.wp execOp
    simp only [ho, resolve, invoke, builtin, Sem.run_bind, Sem.run_pure, Result.andThen_ok, List.map_toArray, List.map_cons, List.map_nil, hs, hx, hrun]
    exact h v w (by simpa using hown) ⟨rfl, rfl, rfl, Nat.le_refl _, fun _ _ _ => rfl⟩ (.inl rfl)
  · obtain ⟨v', w', hr, h2, h3, _, h5⟩ := run_append_own_at (P := P) w base t o.type e i z size bytes ht hi hz hsize hby hzs hsz v n xs hown ad m c news hl hnews h1 h63 hbytes hbase
    unfold Oper.wp execOp
    simp only [ho, resolve, invoke, builtin, Sem.run_bind, Sem.run_pure, Result.andThen_ok, List.map_toArray, List.map_cons, List.map_nil, hs, hx, hr]
    exact h v' w' h2 h3 h5
theorem wpList_append_reads {ops : Array Oper} {rest : List Oper} {o : Oper} {a : Go.Act} {Q : Exit → Go.Act → World → Prop} (hgd : o.guard = none) (s x : Operand) (t : TypeId)
    (ho : o.op = .call { callee := .builtin .append, args := #[s, x], argTypes := #[t, t] })
    (base : Nat) (e : TypeId) (i : TypeInfo) (z : Value) (size bytes : Nat) (ht : P.underlying t = some (.slice e)) (hi : P.info? e = some i) (hz : i.zero = some z)
    (hsize : i.size = size) (hby : i.bytes = bytes) (hzs : z.cells.size = size) (hsz : 0 < size)
    (v : Value) (n : Nat) (xs : List Value) (hs : a.eval s = v) (hown : w.ownsRow base e size v n xs)
    (vx : Value) (m : Nat) (news : List Value) (hx : a.eval x = vx) (hr : Reads w size vx m news) (h1 : ∀ u ∈ news, u.oneCell' = true)
    (h63 : n + m ≤ maxLen) (hbytes : (n + m) * bytes ≤ 140737488355328) (hbase : base ≤ w.heap.size)
    (h : ∀ v' w', w'.ownsRow base e size v' (n + m) (xs ++ news) → w.grownBy w' v.ownBlock → (v'.ownBlock = v.ownBlock ∨ v'.ownBlock = some w.heap.size) → wpList P ops Q rest (a.put o.dst v') w') : wpList P ops Q (o :: rest) a w :=
  wpList_plain hgd fun _ hK => wp_append_reads w s x t ho base e i z size bytes ht hi hz hsize hby hzs hsz v n xs hs hown vx m news hx hr h1 h63 hbytes hbase fun v' w' h2 h3 h4 => hK _ _ (h v' w' h2 h3 h4)
end Go.Proofs.Ytigkcbnlbdiimaa
