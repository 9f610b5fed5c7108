/- Package disk, plain: a call by its kind. -/
import Derived.Test.YtcicnjlkcbimgaaDiskPlain
namespace Go.Proofs.Ytcicnjlkcbimgaa
structure DAct where
  kind : Int
  name : Nm
  to : Nm
  b : List UInt8
  n : Int
  m : Int
  p : DPicks
def byteOf (m : Int) : UInt8 := UInt8.ofNat (m % 256).toNat
/-- The error's number and the disk behind a call. -/
def Dk.call (d : Dk) (a : DAct) : Nat × Dk :=
  if a.kind = 0 then d.create a.name else if a.kind = 1 then d.append a.name a.b else if a.kind = 2 then d.sync a.name else if a.kind = 3 then d.syncNames else if a.kind = 4 then d.rename a.name a.to
  else if a.kind = 5 then d.remove a.name else if a.kind = 6 then d.cut a.name a.n else if a.kind = 7 then d.arm a.n else if a.kind = 8 then (0, d.crash a.p) else if a.kind = 9 then d.spoil a.name a.n (byteOf a.m)
  else if a.kind = 10 then ((d.read a.name a.n a.m).1, d) else ((d.size a.name).1, d)
def Dk.callB (d : Dk) (a : DAct) : List UInt8 := if a.kind = 10 then (d.read a.name a.n a.m).2 else []
def Dk.callN (d : Dk) (a : DAct) : Nat := if 0 ≤ a.kind ∧ a.kind ≤ 10 then 0 else (d.size a.name).2
theorem fnd_le (d : Dk) (s : Nm) : (d.fnd s).1 ≤ 12 := by
  unfold Dk.fnd
  repeat (first | (dsimp only; omega) | split)
theorem create_le (d : Dk) (s : Nm) : (d.create s).1 ≤ 15 := by unfold Dk.create; repeat (first | (dsimp only; omega) | split)
theorem append_le (d : Dk) (s : Nm) (b : List UInt8) : (d.append s b).1 ≤ 15 := by have := fnd_le d s; unfold Dk.append; repeat (first | (dsimp only; omega) | split)
theorem sync_le (d : Dk) (s : Nm) : (d.sync s).1 ≤ 15 := by have := fnd_le d s; unfold Dk.sync; repeat (first | (dsimp only; omega) | split)
theorem syncNames_le (d : Dk) : d.syncNames.1 ≤ 15 := by unfold Dk.syncNames; repeat (first | (dsimp only; omega) | split)
theorem rename_le (d : Dk) (s t : Nm) : (d.rename s t).1 ≤ 15 := by have := fnd_le d s; unfold Dk.rename; repeat (first | (dsimp only; omega) | split)
theorem remove_le (d : Dk) (s : Nm) : (d.remove s).1 ≤ 15 := by have := fnd_le d s; unfold Dk.remove; repeat (first | (dsimp only; omega) | split)
theorem cut_le (d : Dk) (s : Nm) (n : Int) : (d.cut s n).1 ≤ 15 := by have := fnd_le d s; unfold Dk.cut; repeat (first | (dsimp only; omega) | split)
theorem arm_le (d : Dk) (n : Int) : (d.arm n).1 ≤ 15 := by unfold Dk.arm; repeat (first | (dsimp only; omega) | split)
theorem spoil_le (d : Dk) (s : Nm) (n : Int) (x : UInt8) : (d.spoil s n x).1 ≤ 15 := by have := fnd_le d s; unfold Dk.spoil; repeat (first | (dsimp only; omega) | split)
theorem read_le (d : Dk) (s : Nm) (off n : Int) : (d.read s off n).1 ≤ 15 := by have := fnd_le d s; unfold Dk.read; repeat (first | (dsimp only; omega) | split)
theorem size_le (d : Dk) (s : Nm) : (d.size s).1 ≤ 15 := by have := fnd_le d s; unfold Dk.size; repeat (first | (dsimp only; omega) | split)
theorem DkOk.call {K : Nat} {d : Dk} (h : DkOk K d) (a : DAct) (hn : a.n ≤ 9223372036854775807) : DkOk (K + 1) (d.call a).2 := by
  have h1 := h.mono (Nat.le_succ K)
  unfold Dk.call
  split
  · exact h.create _
  split
  · exact h1.append _ _
  split
  · exact h1.sync _
  split
  · exact h1.syncNames
  split
  · exact h.rename _ _
  split
  · exact h.remove _
  split
  · exact h1.cut _ _
  split
  · exact h1.arm _ hn
  split
  · exact h1.crash _
  split
  · exact h1.spoil _ _ _
  split
  · exact h1
  · exact h1
end Go.Proofs.Ytcicnjlkcbimgaa
