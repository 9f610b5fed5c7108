/- Law StatOf: the walk. (Written by wip/genstatof.py.) -/
import Derived.Test.YtnhangmcnciffaaGreatDoorSpStatAlive
import Derived.Test.YtnhangmcnciffaaGreatDoorSpStat3
import Derived.Test.YtnhangmcnciffaaGreatDoorSp21
import Derived.Test.YtnhangmcnciffaaGreatDoorSp20
import Derived.Test.YtnhangmcnciffaaGreatDoorSp19
import Derived.Test.YtnhangmcnciffaaGreatDoorSp3
import Derived.Test.YtnhangmcnciffaaGreatDoorSpInvKit
namespace Go.Proofs.YtnhangmcnciffaaGreatDoor
open Go.RowKit
theorem reads_cells {w : World} {b n : Nat} {xs : Array Value} {t : TypeId} (h : w.heap[b]? = some (.cells xs t (0, 0))) (hn : xs.size = n) (hm : n ≤ maxLen) : Reads w 1 (.slice (some ⟨b, 0, none⟩) n n) n xs.toList := by
  refine ⟨by simp [hn], .inr ⟨_, _, rfl, hm, fun j u hu => ?_⟩⟩
  have := cell_of_row w b j _ _ _ h
  rw [show (⟨b, 0, none⟩ : Addr).add j = ⟨b, j, none⟩ by simp [Addr.add]; intro e; exact e.symm, this]
  simpa using hu
structure MadeSt (w : World) (num : Nat) (vp : Nat) (v : Vl) (val : Value) : Prop where
  st : StAt w (vp, v)
  nm : v.num = num
  rf : ∃ P, ∃ ns, RvIn w P val (Rv.of v ns)
theorem MadeSt.below {w w' : World} {num vp : Nat} {v : Vl} {val : Value} (h : MadeSt w num vp v val) (hb : Below w.heap.size w w') : MadeSt w' num vp v val := by
  obtain ⟨h1, h2, P, ns, h3⟩ := h
  exact ⟨h1.below hb, h2, P, ns, h3.kp (KP.of hb)⟩
theorem MadeSt.of {w' : World} {num : Nat} {l : List ActE} {vp dp : Nat} {F : Nat → Prop} {val : Value} {d : Dk} {v : Vl} {ns : List Nd} (hvf : VF w' vp dp F 245 d v) (hvi : VI d v ns) (hrv : RvIn w' (fun k => ¬ F k) val (Rv.of v ns)) (hac : Rv.of v ns = (rv0 num 1048576).acts (l.map ActE.act)) (hsz : v.size ≤ 16 + 336 * l.length) (hns : ns.length ≤ l.length) (h60 : l.length ≤ 60) : MadeSt w' num vp v val := by
  obtain ⟨ix, vx, P, g1, g2, g4⟩ := hvf.at'
  have h1 := hvi.len
  have h2 := leastN_le (l := v.idx) fun p hp => (hvi.len_le hp).1
  refine ⟨⟨⟨dp, ix, vx, g1⟩, fun p hp => (hvi.len_le hp).1, ⟨by show 1 ≤ v.size; have := hvi.size; omega, by show v.size ≤ _; omega⟩, by show leastN v.idx ≤ _; omega, by show v.idx.length ≤ _; omega⟩, ?_, _, ns, hrv⟩
  have h3 := congrArg Rv.num hac
  rw [Rv.acts_num] at h3
  exact h3
theorem MadeSt.stof {w : World} {num vp : Nat} {v : Vl} {val : Value} (h : MadeSt w num vp v val) (w0 : World) (hb : Below w.heap.size w w0) : Calls Tryz.prog 12 #[(.pointer (some ⟨vp, 0, none⟩))] w0 fun e w' => e = .returned (.tuple #[oneI v.num v.size (leastN v.idx), .nilIface]) ∧ Below w0.heap.size w0 w' := by
  obtain ⟨⟨⟨dp, ix, vx, h0⟩, h1, h2, h3, h4⟩, _⟩ := h
  exact stof_any (h0.below hb) h1 h2 h3
end Go.Proofs.YtnhangmcnciffaaGreatDoor
