/- What commands on the one volume do, in plain words. No program. -/
import Derived.Test.YtigkcbnlbdiimaaDirsLaw
namespace Go.Proofs.Ytigkcbnlbdiimaa
open Go.RowKit
def Apart3 (x : Ent) : Prop := x.n0 ≠ x.n1 ∧ x.n1 ≠ x.n2 ∧ x.n0 ≠ x.n2
/-- What the law's round needs of a command on the one volume. -/
theorem one_ways (E : Int) (x : Ent) (c : Cmd) (h1 : 1 ≤ x.epoch) (hE : x.epoch ≤ E) (hE2 : E ≤ 1000000) (ha : Apart3 x) (hk : c.kind ≠ 1) (hv : c.vol = 1) (he : c.epoch = x.epoch) :
    (doK [x] c ≠ 0 ∧ doEs [x] c = [x]) ∨
    (doK [x] c = 0 ∧ ∃ y, doEs [x] c = [y] ∧ doN [x] c = x.epoch + 1 ∧ y.epoch = x.epoch + 1 ∧ y.vol = x.vol ∧ Apart3 y ∧ doK [y] c = 13 ∧ doEs [y] c = [y]) := by
  rcases do_ways [x] c with ⟨h0, e, _⟩ | ⟨_, hk1, _⟩ | ⟨h0, j, x', hx, hj, hep, ht, hkk, e, hn⟩
  · exact .inl ⟨h0, e⟩
  · exact absurd hk1 hk
  · have hj0 : j = 0 := by omega
    subst hj0
    have hx' : x' = x := by simpa using hx.symm
    subst hx'
    have hye : (turnX x' c).epoch = x'.epoch + 1 := by rw [turnX_epoch, wrapI_id _ (by omega) (by omega)]
    have hap : Apart3 (turnX x' c) := by
      obtain ⟨a1, a2, a3⟩ := ha
      rcases hkk with h2 | h3 | h4
      · simp only [turnX, h2, if_true]; exact ⟨a1, a2, a3⟩
      · have : ¬ (3 : Int) = 2 := by omega
        simp only [turnX, h3, if_true, this, if_false]; exact ⟨a1, a2, a3⟩
      · have n2 : ¬ (4 : Int) = 2 := by omega
        have n3 : ¬ (4 : Int) = 3 := by omega
        simp only [turnE, h4, n2, n3, if_true, if_false, errNode] at ht
        split at ht
        · cases ht
        · split at ht
          · cases ht
          · rename_i hs hc
            simp only [turnX, h4, n2, n3, if_true, if_false]
            have hs0 : c.spot = 0 ∨ c.spot = 1 ∨ c.spot = 2 := by
              have : ¬ c.spot < 0 := fun h => hs (.inl h)
              have : ¬ 3 ≤ c.spot := fun h => hs (.inr (.inl h))
              omega
            have c0 : ¬ x'.n0 = c.node := fun h => hc (.inl h)
            have c1 : ¬ x'.n1 = c.node := fun h => hc (.inr (.inl h))
            have c2 : ¬ x'.n2 = c.node := fun h => hc (.inr (.inr h))
            rcases hs0 with h | h | h
            all_goals
              simp only [h, if_true, Apart3]
              refine ⟨?_, ?_, ?_⟩ <;> simp <;> omega
    refine .inr ⟨h0, turnX x' c, by rw [e]; rfl, by rw [hn, hye], hye, turnX_vol _ _, hap, ?_, ?_⟩
    · rw [doK, if_neg hk, if_pos hkk, if_pos (by rw [hv]; simp)]
      have hz : (c.vol - 1).toNat = 0 := by omega
      rw [hz]
      show (if (turnX x' c).epoch = c.epoch then turnE (turnX x' c) c else 13) = 13
      rw [if_neg (by rw [hye]; omega)]
    · rw [doEs, if_neg hk, if_pos hkk, if_pos (by rw [hv]; simp)]
      have hz : (c.vol - 1).toNat = 0 := by omega
      rw [hz]
      show (if (turnX x' c).epoch = c.epoch ∧ turnE (turnX x' c) c = 0 then _ else _) = _
      rw [if_neg (by rw [hye]; omega)]
end Go.Proofs.Ytigkcbnlbdiimaa
