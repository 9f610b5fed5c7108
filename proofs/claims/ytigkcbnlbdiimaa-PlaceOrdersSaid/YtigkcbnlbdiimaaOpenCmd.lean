/- An argument that is a slice of commands: its cells. -/
import Derived.Test.YtigkcbnlbdiimaaDirsPlain
import Derived.Test.YtigkcbnlbdiimaaRows
import Derived.ProofKit
import Derived.OpenShut
import Derived.Deep.Slices
namespace Go.Proofs.Ytigkcbnlbdiimaa
open Go.RowKit Go.ChangeShapes Go.WideShapes Go.Deep
section
variable {H : Type} {enc : TypeId × Value → H} {w : World} {base : Nat} {spare : Nat → Bool} {held : Bool}
theorem int_of {fuel : Nat} {c : Value} {y : Option (DataW H × List MemPlace)} {n : Nat} (hl : DataW.trod enc Try.prog w base spare held fuel 3 [c] = y) (hy : y.isSome = true) (_h : n = n) : ∃ m, c = .int .i64 m := by
  obtain ⟨x, rfl⟩ := Option.isSome_iff_exists.1 hy
  obtain ⟨m, hm, _⟩ := DataW.trod_int Try.underlying3 hl
  exact ⟨m, by simpa using hm⟩
theorem arr3_of {fuel : Nat} {c0 c1 c2 : Value} {x : DataW H × List MemPlace} (h : DataW.trod enc Try.prog w base spare held fuel 30 [c0, c1, c2] = some x) :
    ∃ a b c, c0 = .int .i64 a ∧ c1 = .int .i64 b ∧ c2 = .int .i64 c := by
  obtain ⟨xs, m, _, _, _, hxl, hi⟩ := DataW.trod_array Try.underlying30 h
  have hC : Try.prog.cellsOf 3 = 1 := by kernel_rfl
  rw [hC] at hi
  have e0 := hi 0 (by omega)
  have e1 := hi 1 (by omega)
  have e2 := hi 2 (by omega)
  simp at e0 e1 e2
  match xs, hxl with
  | [x0, x1, x2], _ =>
    simp at e0 e1 e2
    obtain ⟨a, ha⟩ := int_of e0 rfl (rfl : 0 = 0)
    obtain ⟨b, hb⟩ := int_of e1 rfl (rfl : 0 = 0)
    obtain ⟨c, hc⟩ := int_of e2 rfl (rfl : 0 = 0)
    exact ⟨a, b, c, ha, hb, hc⟩
set_option maxRecDepth 100000 in
theorem cmd_of {fuel : Nat} {cs : List Value} {x : DataW H × List MemPlace} (h : DataW.trod enc Try.prog w base spare held fuel 35 cs = some x) : ∃ c : Cmd, cs = c.row := by
  obtain ⟨xs, n, _, _, hlen, hxl, hf⟩ := DataW.trod_struct Try.underlying35 h
  have hC : Try.prog.cellsOf 35 = 8 := by kernel_rfl
  have hI : Try.prog.cellsOf 3 = 1 := by kernel_rfl
  have hA : Try.prog.cellsOf 30 = 3 := by kernel_rfl
  rw [hC] at hlen
  match cs, hlen with
  | [c0, c1, c2, c3, c4, c5, c6, c7], _ =>
    have e0 := hf 0 _ rfl
    have e1 := hf 1 _ rfl
    have e2 := hf 2 _ rfl
    have e3 := hf 3 _ rfl
    have e4 := hf 4 _ rfl
    have e5 := hf 5 _ rfl
    simp [hI, hA] at e0 e1 e2 e3 e4 e5
    match xs, hxl with
    | [x0, x1, x2, x3, x4, x5], _ =>
      simp at e0 e1 e2 e3 e4 e5
      obtain ⟨a0, rfl⟩ := int_of e0 rfl (rfl : 0 = 0)
      obtain ⟨a1, rfl⟩ := int_of e1 rfl (rfl : 0 = 0)
      obtain ⟨a2, rfl⟩ := int_of e2 rfl (rfl : 0 = 0)
      obtain ⟨a3, rfl⟩ := int_of e3 rfl (rfl : 0 = 0)
      obtain ⟨a4, rfl⟩ := int_of e4 rfl (rfl : 0 = 0)
      obtain ⟨a5, a6, a7, rfl, rfl, rfl⟩ := arr3_of e5
      exact ⟨⟨a0, a1, a2, a3, a4, a5, a6, a7⟩, rfl⟩
/-- The argument. -/
theorem open_cmds {a : Option Addr} {len cap : Nat} {d : DataW H} {p : List MemPlace} (h : DataW.Trod enc Try.prog w base spare held 22 (.slice a len cap) d p) :
    ∃ cs : List Cmd, cs.length = len ∧ (0 < len → ∃ b off, a = some ⟨b, off, none⟩ ∧ b < w.heap.size ∧ ∀ (i : Nat) (c : Cmd), cs[i]? = some c → ∀ j u, c.row[j]? = some u → w.cell? ⟨b, off + i * 8 + j, none⟩ = some u) := by
  obtain ⟨fuel, hf⟩ := h
  rcases open_slice Try.underlying22 hf with ⟨hcs, _⟩ | ⟨x, l, c, m, n, D, Pl, hcs, _, hl, hm, hmm, _, hi⟩
  · simp [Value.cells] at hcs
    obtain ⟨rfl, rfl, rfl⟩ := hcs
    exact ⟨[], rfl, fun h => absurd h (Nat.lt_irrefl 0)⟩
  · simp [Value.cells] at hcs
    obtain ⟨rfl, rfl, rfl⟩ := hcs
    have hml : len ≤ m := by rw [hmm]; split <;> omega
    have hC : Try.prog.cellsOf 35 = 8 := by kernel_rfl
    rw [hC] at hi
    have hone : ∀ i, i < len → ∃ c : Cmd, ∀ j u, c.row[j]? = some u → w.cell? (x.add (i * 8 + j)) = some u := by
      intro i hil
      obtain ⟨cs', hc, ht⟩ := hi i (by omega)
      obtain ⟨c, rfl⟩ := cmd_of ht
      obtain ⟨_, _, hat⟩ := World.cells?_some hc
      refine ⟨c, fun j u hu => ?_⟩
      have hj : j < 8 := (List.getElem?_eq_some_iff.1 hu).1
      rw [← add_add, hat j hj, hu]
    have : Inhabited Cmd := ⟨⟨0, 0, 0, 0, 0, 0, 0, 0⟩⟩
    obtain ⟨f, hfn⟩ := choose_lt hone
    refine ⟨(List.range len).map f, by simp, fun h0 => ?_⟩
    have hc0 := hfn 0 h0 0 _ rfl
    simp [Addr.add] at hc0
    have hspot : x.spot = none := by
      cases hs : x.spot with
      | none => rfl
      | some s => simp [World.cell?, hs] at hc0; split at hc0 <;> simp_all
    have hx : x = ⟨x.block, x.off, none⟩ := by cases x; simp_all
    refine ⟨x.block, x.off, by rw [← hx], World.block_lt_of_cell? w x hc0, fun i c hc j u hu => ?_⟩
    rw [List.getElem?_map] at hc
    cases hr : (List.range len)[i]? with
    | none => rw [hr] at hc; cases hc
    | some i' =>
      have hi' : i' = i ∧ i < len := by
        have := List.getElem?_eq_some_iff.1 hr
        obtain ⟨h1, h2⟩ := this
        simp at h1 h2
        exact ⟨h2.symm, h1⟩
      rw [hr] at hc
      simp at hc
      rw [← hc, hi'.1] at hu
      have h3 := hfn i hi'.2 j u hu
      rw [hx] at h3
      have h4 : (⟨x.block, x.off, none⟩ : Addr).add (i * 8 + j) = ⟨x.block, x.off + i * 8 + j, none⟩ := by
        unfold Addr.add
        split
        · rename_i hz; rw [Nat.add_assoc, hz]; rfl
        · rw [Nat.add_assoc]
      rwa [h4] at h3
end
end Go.Proofs.Ytigkcbnlbdiimaa
