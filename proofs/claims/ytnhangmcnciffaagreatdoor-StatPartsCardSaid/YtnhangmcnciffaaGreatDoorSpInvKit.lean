/- Small laws for regions walked by an invariant (XOrderI). -/
import Derived.Test.YtnhangmcnciffaaGreatDoorSp3
import Derived.Test.YtnhangmcnciffaaGreatDoorSp17
import Derived.Test.YtnhangmcnciffaaGreatDoorSp15
import Derived.Test.YtnhangmcnciffaaGreatDoorSp21
namespace Go.Proofs.YtnhangmcnciffaaGreatDoor
open Go.RowKit
def BlkF (w : World) (lo : Nat) (x v : Value) (b : Nat) (o : Obj) : Prop := x = v ∧ lo ≤ b ∧ w.heap[b]? = some o
theorem BlkF.below {w w' : World} {lo b : Nat} {x v : Value} {o : Obj} (h : BlkF w lo x v b o) (hb : Below w.heap.size w w') : BlkF w' lo x v b o := ⟨h.1, h.2.1, blk_below' h.2.2 hb⟩
theorem BlkF.lt {w : World} {lo b : Nat} {x v : Value} {o : Obj} (h : BlkF w lo x v b o) : b < w.heap.size := blk_lt h.2.2
theorem set5_other {w : World} {b k : Nat} {x : Obj} {u0 u1 u2 u3 u4 : Value} (h : w.heap[k]? = some x) (hne : k ≠ b) : (set5 w b u0 u1 u2 u3 u4).heap[k]? = some x := by
  unfold set5
  exact blk_set (blk_set (blk_set (blk_set (blk_set h _ _ hne) _ _ hne) _ _ hne) _ _ hne) _ _ hne
theorem set7i_other {w : World} {b k : Nat} {x : Obj} {u0 u1 u2 u3 u4 u5 u6 : Value} (h : w.heap[k]? = some x) (hne : k ≠ b) : (set7i w b u0 u1 u2 u3 u4 u5 u6).heap[k]? = some x := by
  unfold set7i
  exact blk_set (blk_set (blk_set (blk_set (blk_set (blk_set (blk_set h _ _ hne) _ _ hne) _ _ hne) _ _ hne) _ _ hne) _ _ hne) _ _ hne
theorem BlkF.set5 {w : World} {lo b c : Nat} {x v : Value} {o : Obj} {u0 u1 u2 u3 u4 : Value} (h : BlkF w lo x v b o) (hne : b ≠ c) : BlkF (set5 w c u0 u1 u2 u3 u4) lo x v b o := ⟨h.1, h.2.1, set5_other h.2.2 hne⟩
theorem BlkF.set7i {w : World} {lo b c : Nat} {x v : Value} {o : Obj} {u0 u1 u2 u3 u4 u5 u6 : Value} (h : BlkF w lo x v b o) (hne : b ≠ c) : BlkF (set7i w c u0 u1 u2 u3 u4 u5 u6) lo x v b o := ⟨h.1, h.2.1, set7i_other h.2.2 hne⟩
end Go.Proofs.YtnhangmcnciffaaGreatDoor
