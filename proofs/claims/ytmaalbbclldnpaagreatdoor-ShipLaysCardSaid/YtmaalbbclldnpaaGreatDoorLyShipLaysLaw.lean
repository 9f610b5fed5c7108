/- Law ShipLays, plain. -/
import Derived.Test.YtmaalbbclldnpaaGreatDoorLy18
import Derived.Test.YtmaalbbclldnpaaGreatDoorLy19
namespace Go.Proofs.YtmaalbbclldnpaaGreatDoor
def Rv.layL : Rv → List Nd → Nat × Nat × Rv
  | v, [] => (0, 0, v)
  | v, n :: r => if (v.layN n).1 ≠ 0 then (0, (v.layN n).1, (v.layN n).2) else ((Rv.layL (v.layN n).2 r).1 + 1, (Rv.layL (v.layN n).2 r).2)
theorem Rv.layL_snoc : ∀ (l : List Nd) (v : Rv) (n : Nd), v.layL (l ++ [n]) = if (v.layL l).2.1 ≠ 0 then v.layL l else if ((v.layL l).2.2.layN n).1 ≠ 0 then ((v.layL l).1, ((v.layL l).2.2.layN n).1, ((v.layL l).2.2.layN n).2) else ((v.layL l).1 + 1, 0, ((v.layL l).2.2.layN n).2)
  | [], v, n => by
    show (if (v.layN n).1 ≠ 0 then _ else _) = _
    by_cases h : (v.layN n).1 ≠ 0
    · rw [if_pos h]
      show _ = if ((0 : Nat) ≠ 0) then _ else if (v.layN n).1 ≠ 0 then _ else _
      rw [if_neg (by simp), if_pos h]
      rfl
    · rw [if_neg h]
      show _ = if ((0 : Nat) ≠ 0) then _ else if (v.layN n).1 ≠ 0 then _ else _
      rw [if_neg (by simp), if_neg h]
      rfl
  | a :: r, v, n => by
    have ih := Rv.layL_snoc r (v.layN a).2 n
    show (if (v.layN a).1 ≠ 0 then (0, (v.layN a).1, (v.layN a).2) else ((Rv.layL (v.layN a).2 (r ++ [n])).1 + 1, (Rv.layL (v.layN a).2 (r ++ [n])).2)) = _
    by_cases h : (v.layN a).1 ≠ 0
    · have e : v.layL (a :: r) = (0, (v.layN a).1, (v.layN a).2) := if_pos h
      rw [if_pos h, e, if_pos (show (0, (v.layN a).1, (v.layN a).2).2.1 ≠ 0 from h)]
    · have e : v.layL (a :: r) = ((Rv.layL (v.layN a).2 r).1 + 1, (Rv.layL (v.layN a).2 r).2) := if_neg h
      rw [if_neg h, e, ih]
      simp only
      split
      · rfl
      split
      · rfl
      · rfl
theorem ndCheck_17 (n : Nd) : ndCheck n ≤ 17 := by
  unfold ndCheck
  split
  · omega
  · split <;> omega
theorem Rv.layN_17 (v : Rv) (n : Nd) : (v.layN n).1 ≤ 17 := by
  unfold Rv.layN
  split
  · exact ndCheck_17 n
  cases lastOf v.d n.key with
  | none => exact v.write_17 n
  | some o =>
    simp only
    split
    · simp
    split
    · simp
    split
    · exact v.write_17 n
    split <;> simp
theorem VI.layLs : ∀ (L : List Nd) {d : Dk} {v : Vl} {ns : List Nd}, VI d v ns → (∀ n ∈ L, n.key < 18446744073709551616 ∧ n.cookie < 4294967296) → v.most + 4152 ≤ 1048576 →
    ∃ d' v' ns', Go.Proofs.YtmaalbbclldnpaaGreatDoor.layL v d L = (((Rv.of v ns).layL L).1, ((Rv.of v ns).layL L).2.1, d', v') ∧ VI d' v' ns' ∧ Rv.of v' ns' = ((Rv.of v ns).layL L).2.2 ∧ v'.most = v.most ∧ ns'.length ≤ ns.length + L.length ∧ ((Rv.of v ns).layL L).2.1 ≤ 17 ∧ ((Rv.of v ns).layL L).1 ≤ L.length
  | [], d, v, ns, h, _, _ => ⟨d, v, ns, rfl, h, rfl, rfl, Nat.le_refl _, Nat.zero_le _, Nat.le_refl _⟩
  | n :: r, d, v, ns, h, hL, hmo => by
    have hsz : v.size + 4152 ≤ 1048576 := by have := h.most; omega
    obtain ⟨d1, v1, ns1, h1, h2, h3, h4, h5⟩ := h.layN (hL n List.mem_cons_self).1 (hL n List.mem_cons_self).2 (n := n) hsz
    have hm1 : v1.most = v.most := by
      have e : (Rv.of v1 ns1).most = ((Rv.of v ns).layN n).2.most := by rw [h3]
      rw [((Rv.of v ns).layN_keeps n).2] at e
      exact e
    by_cases hc : ((Rv.of v ns).layN n).1 ≠ 0
    · have e : (Rv.of v ns).layL (n :: r) = (0, ((Rv.of v ns).layN n).1, ((Rv.of v ns).layN n).2) := if_pos hc
      refine ⟨d1, v1, ns1, ?_, h2, ?_, hm1, by simp only [List.length_cons]; omega, ?_, ?_⟩
      · rw [e]
        unfold Go.Proofs.YtmaalbbclldnpaaGreatDoor.layL
        rw [h1, if_pos (show (((Rv.of v ns).layN n).1, d1, v1).1 ≠ 0 from hc)]
      · rw [e]; exact h3
      · rw [e]; exact Rv.layN_17 _ _
      · rw [e]; exact Nat.zero_le _
    · have e : (Rv.of v ns).layL (n :: r) = ((Rv.layL ((Rv.of v ns).layN n).2 r).1 + 1, (Rv.layL ((Rv.of v ns).layN n).2 r).2) := if_neg hc
      obtain ⟨d2, v2, ns2, g1, g2, g3, g4, g5, g6, g7⟩ := VI.layLs r h2 (fun q hq => hL q (List.mem_cons_of_mem _ hq)) (by rw [hm1]; exact hmo)
      rw [h3] at g1 g3 g6 g7
      refine ⟨d2, v2, ns2, ?_, g2, ?_, g4.trans hm1, by simp only [List.length_cons]; omega, ?_, ?_⟩
      · rw [e]
        unfold Go.Proofs.YtmaalbbclldnpaaGreatDoor.layL
        rw [h1, if_neg (show ¬ (((Rv.of v ns).layN n).1, d1, v1).1 ≠ 0 from hc)]
        show ((Go.Proofs.YtmaalbbclldnpaaGreatDoor.layL v1 d1 r).1 + 1, (Go.Proofs.YtmaalbbclldnpaaGreatDoor.layL v1 d1 r).2) = _
        rw [g1]
      · rw [e]; exact g3
      · rw [e]; exact g6
      · rw [e]; simp only [List.length_cons]; omega
end Go.Proofs.YtmaalbbclldnpaaGreatDoor
