/- copy at elements of several cells, onto a row; what an insertion makes of a row's cells. -/
import Derived.Test.YtmkhacgdejkimaaGreatDoorVaIx5
import Derived.Test.YtmkhacgdejkimaaGreatDoorVaAppReads
import Derived.Test.YtmkhacgdejkimaaGreatDoorVaZeros
import Derived.Laws.CopyRow
import Derived.Lib.Overlaps
namespace Go.Proofs.YtmkhacgdejkimaaGreatDoor
open Go.RowKit
section
variable {P : Program}
theorem run_copy_rowN (w : World) (dT sT ty elem : TypeId) (sz g o dLen dCap : Nat) (a : Addr) (sLen sCap : Nat) (cur : Array Value) (t : TypeId) (cs : List Value) (n : Nat)
    (hu : P.underlying dT = some (.slice elem)) (hs : (P.info? elem).map (·.size) = some sz)
    (hg : w.heap[g]? = some (.cells cur t (0, 0))) (hn : n = Nat.min sLen dLen) (hcl : cs.length = n * sz)
    (hsrc : ∀ j v, cs[j]? = some v → w.cell? (a.add j) = some v) (hfit : o + cs.length ≤ cur.size) (h1 : ∀ v ∈ cs, v.oneCell' = true) :
    (Builtin.copy_ #[dT, sT] ty #[.slice (some ⟨g, o, none⟩) dLen dCap, .slice (some a) sLen sCap]).run P w =
      .ok (goInt n) (w.setRow g (cur.toList.take o ++ cs ++ cur.toList.drop (o + cs.length)).toArray) := by
  have hl := run_loadCells_list (P := P) w a cs hsrc
  have hst := run_storeCells_at P g o t cs 0 cur w hg (by simpa using hfit) h1
  cases hq : P.info? elem with
  | none => simp [hq] at hs
  | some i =>
    have hi : i.size = sz := by simpa [hq] using hs
    simp [Builtin.copy_, run_underlying hu, Builtin.lenOf, Builtin.firstCells, sizeOf, typeInfo, hq, hi, ← hn, ← hcl, hl, hst]
theorem wp_copy_rowN (w : World) {o : Oper} {a : Act} {K : Act → World → Prop} {Q : Exit → Act → World → Prop} (d s : Operand) (t t' : TypeId)
    (ho : o.op = .call { callee := .builtin .copy, args := #[d, s], argTypes := #[t, t'] }) (elem : TypeId) (sz g off dLen dCap : Nat) (x : Addr) (sLen sCap : Nat) (cur : Array Value) (T : TypeId) (cs : List Value) (n : Nat)
    (hu : P.underlying t = some (.slice elem)) (hs : (P.info? elem).map (·.size) = some sz) (hd : a.eval d = .slice (some ⟨g, off, none⟩) dLen dCap) (hx : a.eval s = .slice (some x) sLen sCap)
    (hg : w.heap[g]? = some (.cells cur T (0, 0))) (hn : n = Nat.min sLen dLen) (hcl : cs.length = n * sz)
    (hsrc : ∀ j v, cs[j]? = some v → w.cell? (x.add j) = some v) (hfit : off + cs.length ≤ cur.size) (h1 : ∀ v ∈ cs, v.oneCell' = true)
    (h : ∀ w', w'.heap[g]? = some (.cells (cur.toList.take off ++ cs ++ cur.toList.drop (off + cs.length)).toArray T (0, 0)) → w.grownBy w' (some g) → w'.heap.size = w.heap.size → K (a.put o.dst (goInt n)) w') : o.wp P a w K Q := by
  have hr := run_copy_rowN (P := P) w t t' o.type elem sz g off dLen dCap x sLen sCap cur T cs n hu hs hg hn hcl hsrc hfit h1
  unfold Oper.wp execOp
  simp only [ho, resolve, invoke, builtin, Sem.run_bind, Sem.run_pure, Result.andThen_ok, List.map_toArray, List.map_cons, List.map_nil, hd, hx, hr]
  exact h _ (setRow_heap w g cur _ T _ hg) ⟨rfl, rfl, rfl, by simp, fun j _ hj => setRow_other w g j _ (fun e => hj (by rw [e]))⟩ (by simp)
theorem wpList_copy_rowN (w : World) {ops : Array Oper} {rest : List Oper} {o : Oper} {a : Act} {Q : Exit → Act → World → Prop} (hgd : o.guard = none) (d s : Operand) (t t' : TypeId)
    (ho : o.op = .call { callee := .builtin .copy, args := #[d, s], argTypes := #[t, t'] }) (elem : TypeId) (sz g off dLen dCap : Nat) (x : Addr) (sLen sCap : Nat) (cur : Array Value) (T : TypeId) (cs : List Value) (n : Nat)
    (hu : P.underlying t = some (.slice elem)) (hs : (P.info? elem).map (·.size) = some sz) (hd : a.eval d = .slice (some ⟨g, off, none⟩) dLen dCap) (hx : a.eval s = .slice (some x) sLen sCap)
    (hg : w.heap[g]? = some (.cells cur T (0, 0))) (hn : n = Nat.min sLen dLen) (hcl : cs.length = n * sz)
    (hsrc : ∀ j v, cs[j]? = some v → w.cell? (x.add j) = some v) (hfit : off + cs.length ≤ cur.size) (h1 : ∀ v ∈ cs, v.oneCell' = true)
    (h : ∀ w', w'.heap[g]? = some (.cells (cur.toList.take off ++ cs ++ cur.toList.drop (off + cs.length)).toArray T (0, 0)) → w.grownBy w' (some g) → w'.heap.size = w.heap.size → wpList P ops Q rest (a.put o.dst (goInt n)) w') : wpList P ops Q (o :: rest) a w :=
  wpList_plain hgd fun _ hK => wp_copy_rowN w d s t t' ho elem sz g off dLen dCap x sLen sCap cur T cs n hu hs hd hx hg hn hcl hsrc hfit h1 fun w' h2 h3 h4 => hK _ _ (h w' h2 h3 h4)
end
theorem ins_in (cur xs ys : List Value) (k m : Nat) (hx : cur.take xs.length = xs) (hk : k ≤ xs.length) (hy : ys.length = m) (hfit : xs.length + m ≤ cur.length) :
    ∀ C1, C1 = cur.take (k + m) ++ xs.drop k ++ cur.drop (k + m + (xs.drop k).length) → ∀ C2, C2 = C1.take k ++ ys ++ C1.drop (k + ys.length) → C1.length = cur.length ∧ C2.length = cur.length ∧ C2.take (xs.length + m) = xs.take k ++ ys ++ xs.drop k := by
  rintro C1 rfl C2 rfl
  have hck : cur.take k = xs.take k := by
    have := congrArg (List.take k) hx
    rwa [List.take_take, Nat.min_eq_left hk] at this
  have e1 : (cur.take (k + m) ++ xs.drop k ++ cur.drop (k + m + (xs.drop k).length)).take k = xs.take k := by
    rw [List.append_assoc, List.take_append_of_le_length (by rw [List.length_take]; omega), List.take_take, Nat.min_eq_left (by omega), hck]
  have e2 : (cur.take (k + m) ++ xs.drop k ++ cur.drop (k + m + (xs.drop k).length)).drop (k + ys.length) = xs.drop k ++ cur.drop (k + m + (xs.drop k).length) := by
    rw [List.append_assoc, hy]
    exact List.drop_left' (by rw [List.length_take]; omega)
  have hl : (cur.take (k + m) ++ xs.drop k ++ cur.drop (k + m + (xs.drop k).length)).length = cur.length := by
    simp only [List.length_append, List.length_take, List.length_drop]
    omega
  refine ⟨hl, ?_, ?_⟩
  · rw [e1, e2]
    simp only [List.length_append, List.length_take, List.length_drop]
    omega
  · rw [e1, e2, ← List.append_assoc]
    exact List.take_left' (by simp only [List.length_append, List.length_take, List.length_drop]; omega)
theorem ins_new (cur xs ys : List Value) (k m : Nat) (hx : cur.take k = xs.take k) (hk : k ≤ xs.length) (hy : ys.length = m) (hfit : xs.length + m ≤ cur.length) :
    ∀ C1, C1 = cur.take k ++ ys ++ cur.drop (k + ys.length) → ∀ C2, C2 = C1.take (k + m) ++ xs.drop k ++ C1.drop (k + m + (xs.drop k).length) → C1.length = cur.length ∧ C2.length = cur.length ∧ C2.take (xs.length + m) = xs.take k ++ ys ++ xs.drop k := by
  rintro C1 rfl C2 rfl
  have hl : (cur.take k ++ ys ++ cur.drop (k + ys.length)).length = cur.length := by
    simp only [List.length_append, List.length_take, List.length_drop]
    omega
  have e1 : (cur.take k ++ ys ++ cur.drop (k + ys.length)).take (k + m) = xs.take k ++ ys := by
    rw [hx]
    exact List.take_left' (by simp only [List.length_append, List.length_take]; omega)
  refine ⟨hl, ?_, ?_⟩
  · simp only [List.length_append, List.length_take, List.length_drop]
    omega
  · rw [e1]
    exact List.take_left' (by simp only [List.length_append, List.length_take, List.length_drop]; omega)
end Go.Proofs.YtmkhacgdejkimaaGreatDoor
