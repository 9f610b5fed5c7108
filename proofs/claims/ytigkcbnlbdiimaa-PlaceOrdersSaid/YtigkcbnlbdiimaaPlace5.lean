/- corncriblaw27.made; place.New; nodes stay apart. -/
import Derived.Test.YtigkcbnlbdiimaaPlace4
namespace Go.Proofs.Ytigkcbnlbdiimaa
open Go.RowKit
theorem turn_nodes {x : Ent} {c : Cmd} (hk : 2 ≤ c.kind) (hk2 : c.kind ≤ 4) (ht : turnE x c = 0) (hx : placeB x.n0 = true ∧ placeB x.n1 = true ∧ placeB x.n2 = true ∧ x.n0 ≠ x.n1 ∧ x.n0 ≠ x.n2 ∧ x.n1 ≠ x.n2) :
    placeB (turnX x c).n0 = true ∧ placeB (turnX x c).n1 = true ∧ placeB (turnX x c).n2 = true ∧ (turnX x c).n0 ≠ (turnX x c).n1 ∧ (turnX x c).n0 ≠ (turnX x c).n2 ∧ (turnX x c).n1 ≠ (turnX x c).n2 := by
  obtain ⟨p0, p1, p2, d1, d2, d3⟩ := hx
  rcases turn_ways hk hk2 ht with ⟨_, _, e⟩ | ⟨_, _, e⟩ | ⟨_, hp, h0, h1, h2, ⟨_, e⟩ | ⟨_, e⟩ | ⟨_, e⟩⟩
  · rw [e]; exact ⟨p0, p1, p2, d1, d2, d3⟩
  · rw [e]; exact ⟨p0, p1, p2, d1, d2, d3⟩
  · simp at h0 h1 h2
    rw [e]; exact ⟨hp, p1, p2, Ne.symm h1, Ne.symm h2, d3⟩
  · simp at h0 h1 h2
    rw [e]; exact ⟨p0, hp, p2, h0, d2, Ne.symm h2⟩
  · simp at h0 h1 h2
    rw [e]; exact ⟨p0, p1, hp, d1, h0, h1⟩
theorem three_nodes {a b c : Int} (h : threeB a b c = true) : placeB a = true ∧ placeB b = true ∧ placeB c = true ∧ a ≠ b ∧ a ≠ c ∧ b ≠ c := by
  obtain ⟨h1, h2, h3, h4, h5, h6⟩ := three_yes h
  exact ⟨h1, h2, h3, by simpa using h4, by simpa using h5, by simpa using h6⟩
theorem nodes_do (es : List Ent) (c : Cmd) (h : NodesOk es) : NodesOk (doEs es c) := by
  unfold doEs
  split
  · split
    · rename_i ht
      intro x hx
      rcases List.mem_append.1 hx with hx | hx
      · exact h x hx
      · simp at hx
        subst hx
        exact three_nodes (by simp_all)
    · exact h
  · split
    · rename_i hk
      split
      · split
        · rename_i x hx
          split
          · rename_i ht
            intro y hy
            rcases List.mem_or_eq_of_mem_set hy with hy | rfl
            · exact h y hy
            · exact turn_nodes (by omega) (by omega) ht.2 (h x (List.mem_of_getElem? hx))
          · exact h
        · exact h
      · exact h
    · exact h
theorem nodes_all (cs : List Cmd) : ∀ (es : List Ent), NodesOk es → NodesOk (doAll es cs) := by
  induction cs with
  | nil => intro es h; exact h
  | cons c cs ih => intro es h; exact ih _ (nodes_do es c h)
theorem doAll_few (log : List Cmd) : ∀ (es : List Ent), (doAll es log).length ≤ es.length + log.length := by
  induction log with
  | nil => intro es; simp [doAll]
  | cons c log ih =>
    intro es
    have h1 := (doEs_len es c).2
    have h2 := ih (doEs es c)
    simp only [doAll, List.foldl_cons, List.length_cons] at h2 ⊢
    omega
/-- A row of the document's entries lies apart from a map. -/
theorem DoOut.beside {w w' : World} {B bm b n : Nat} {v xv : Value} {es es' : List Ent} {m k : Int} {e : Ending} {xs : List Value} (h : DoOut w B bm v es' m k e w') (hm : MapAt w B bm v es)
    (hr : w.ownsRow b 128 6 xv n xs) : w'.ownsRow b 128 6 xv n xs := by
  obtain ⟨_, _, _, _, hk⟩ := h
  refine ownsRow_keeps hr hk fun g hg hf => ?_
  rcases hr.2 with ⟨rfl, _⟩ | ⟨g', cap, cur, rfl, _, hh, _⟩
  · cases hg
  · simp only [Value.ownBlock, Option.some.injEq] at hg
    subst hg
    rcases hf with rfl | hf
    · rw [hm.blk] at hh
      simp only [Option.some.injEq, Obj.cells.injEq] at hh
      exact absurd hh.2.1 (by decide)
    · rcases hm.row.2 with ⟨e, _⟩ | ⟨g2, cap2, cur2, e, _, hh2, _⟩
      · rw [e] at hf; cases hf
      · rw [e] at hf
        simp only [Value.ownBlock, Option.some.injEq] at hf
        subst hf
        rw [hh2] at hh
        simp only [Option.some.injEq, Obj.cells.injEq] at hh
        exact absurd hh.2.1 (by decide)
end Go.Proofs.Ytigkcbnlbdiimaa
