/- Joined texts: ShipAlive, ShipMade, ShipBadLaw. -/
import Derived.Test.YtmkhacgdejkimaaGreatDoorVaShipTake
import Derived.Test.YtmkhacgdejkimaaGreatDoorVa10
/- Package ship: Take that refuses; a volume made without calls; the chapter's example (law 13). -/
namespace Go.Proofs.YtmkhacgdejkimaaGreatDoor
open Go.RowKit
end Go.Proofs.YtmkhacgdejkimaaGreatDoor

/- Law 13: a volume made without calls; the chapter's example. -/
namespace Go.Proofs.YtmkhacgdejkimaaGreatDoor
open Go.RowKit
theorem long_names {num : Nat} (h : num ≤ 65535) : (vName num 1).length ≤ maxLen ∧ (sName num).length ≤ maxLen ∧ (mName num).length ≤ maxLen := by
  have h3 := digits_len (n := num) (k := 5) (by omega) (by omega)
  have h4 := digits_len (n := 1) (k := 1) (by omega) (by omega)
  refine ⟨?_, ?_, ?_⟩
  · unfold vName maxLen; simp; omega
  · unfold sName mName maxLen; simp; omega
  · unfold mName maxLen; simp; omega
theorem VS.keeps {w w' : World} {vp dp K : Nat} {P F : Nat → Prop} {d : Dk} {v : Vl} (h : VS w vp dp P K d v) (hk : Keeps F w w') (hF : ∀ k, k < w.heap.size → F k → P k) : VS w' vp dp P K d v := by
  obtain ⟨ix, vx, h1, h2, h3, h4⟩ := h
  have hk' : Keeps P w w' := hk.mono hF
  exact ⟨ix, vx, h1.keeps hk' (fun k hf hp => (h3 k hf).1 hp), h2.step hk' (fun k hp => .inl hp) (fun k hp => .inl hp), fun k hf => ⟨(h3 k hf).1, Nat.lt_of_lt_of_le (h3 k hf).2 hk.size⟩, h4⟩
end Go.Proofs.YtmkhacgdejkimaaGreatDoor

/- Law ShipBad, plain: a needle that is spoilt is not got, all others are. No program in sight but the load's own plain words. -/
namespace Go.Proofs.YtmkhacgdejkimaaGreatDoor
theorem ixAt_zero (l : List Ps) : ixAt l 0 = 0 := by
  cases l with
  | nil => rfl
  | cons a r => simp [ixAt]
theorem keys_zero (v : Vl) {m : Int} (hm : 1 ≤ m) (h : v.idx.length ≤ m.toNat) : v.keys 0 m = v.idx := by
  unfold Vl.keys
  rw [if_neg (by omega), ixAt_zero, List.drop_zero, List.take_of_length_le h]
end Go.Proofs.YtmkhacgdejkimaaGreatDoor
