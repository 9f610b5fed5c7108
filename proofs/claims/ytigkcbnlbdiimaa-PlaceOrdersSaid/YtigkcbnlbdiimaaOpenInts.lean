/- An argument that is a slice of ints: what it reads as. -/
import Derived.Test.YtigkcbnlbdiimaaOpenCmd
import Derived.Test.YtigkcbnlbdiimaaBase
namespace Go.Proofs.Ytigkcbnlbdiimaa
open Go.RowKit Go.ChangeShapes Go.WideShapes Go.Deep
section
variable {H : Type} {enc : TypeId × Value → H} {w : World} {base : Nat} {spare : Nat → Bool} {held : Bool}
theorem open_ints {a : Option Addr} {len cap : Nat} {d : DataW H} {p : List MemPlace} (h : DataW.Trod enc Try.prog w base spare held 42 (.slice a len cap) d p) :
    ∃ ns : List Int, ns.length = len ∧ Reads w 1 (.slice a len cap) ns.length (ns.map (Value.int .i64)) ∧ len ≤ cap := by
  obtain ⟨fuel, hf⟩ := h
  rcases open_slice Try.underlying42 hf with ⟨hcs, _⟩ | ⟨x, l, c, m, n, D, Pl, hcs, _, hl, hm, hmm, _, hi⟩
  · simp [Value.cells] at hcs
    obtain ⟨rfl, rfl, rfl⟩ := hcs
    exact ⟨[], rfl, ⟨rfl, .inl ⟨rfl, rfl⟩⟩, Nat.le_refl _⟩
  · simp [Value.cells] at hcs
    obtain ⟨rfl, rfl, rfl⟩ := hcs
    have hml : len ≤ m := by rw [hmm]; split <;> omega
    have hC : Try.prog.cellsOf 3 = 1 := by kernel_rfl
    rw [hC] at hi
    have hone : ∀ i, i < len → ∃ c : Int, w.cell? (x.add i) = some (.int .i64 c) := by
      intro i hil
      obtain ⟨cs', hc, ht⟩ := hi i (by omega)
      obtain ⟨hlen, _, hat⟩ := World.cells?_some hc
      match cs', hlen with
      | [c0], _ =>
        obtain ⟨a0, rfl⟩ := int_of ht rfl (rfl : 0 = 0)
        have h0 := hat 0 (by omega)
        rw [Nat.mul_one, show (x.add i).add 0 = x.add i by simp [Addr.add]] at h0
        exact ⟨a0, h0⟩
    obtain ⟨f, hfn⟩ := choose_lt hone
    refine ⟨(List.range len).map f, by simp, ⟨by simp, .inr ⟨x, cap, by simp, by simp; omega, fun j u hu => ?_⟩⟩, hl⟩
    rw [List.map_map, List.getElem?_map] at hu
    cases hr : (List.range len)[j]? with
    | none => rw [hr] at hu; cases hu
    | some i' =>
      have hi' : i' = j ∧ j < len := by
        obtain ⟨h1, h2⟩ := List.getElem?_eq_some_iff.1 hr
        simp at h1 h2
        exact ⟨h2.symm, h1⟩
      rw [hr] at hu
      simp at hu
      rw [← hu, hi'.1]
      exact hfn j hi'.2
end
end Go.Proofs.Ytigkcbnlbdiimaa
