/- An argument that is a slice of acts: its cells. -/
import Derived.Test.YtigkcbnlbdiimaaOpenCmd
import Derived.Test.YtigkcbnlbdiimaaTwin8
namespace Go.Proofs.Ytigkcbnlbdiimaa
open Go.RowKit Go.ChangeShapes Go.WideShapes Go.Deep
def Act.row (a : Act) : List Value := [.int .i64 a.kind, .int .i64 a.term, .int .i64 a.side] ++ a.c.row
theorem Act.row_len (a : Act) : a.row.length = 11 := rfl
section
variable {H : Type} {enc : TypeId × Value → H} {w : World} {base : Nat} {spare : Nat → Bool} {held : Bool}
set_option maxRecDepth 100000 in
theorem act_of {fuel : Nat} {cs : List Value} {x : DataW H × List MemPlace} (h : DataW.trod enc Try.prog w base spare held fuel 55 cs = some x) : ∃ a : Act, cs = a.row := by
  obtain ⟨xs, n, _, _, hlen, hxl, hf⟩ := DataW.trod_struct Try.underlying55 h
  have hC : Try.prog.cellsOf 55 = 11 := by kernel_rfl
  have hI : Try.prog.cellsOf 3 = 1 := by kernel_rfl
  have hA : Try.prog.cellsOf 35 = 8 := by kernel_rfl
  rw [hC] at hlen
  match cs, hlen with
  | [c0, c1, c2, c3, c4, c5, c6, c7, c8, c9, c10], _ =>
    have e0 := hf 0 _ rfl
    have e1 := hf 1 _ rfl
    have e2 := hf 2 _ rfl
    have e3 := hf 3 _ rfl
    simp [hI, hA] at e0 e1 e2 e3
    match xs, hxl with
    | [x0, x1, x2, x3], _ =>
      simp at e0 e1 e2 e3
      obtain ⟨a0, rfl⟩ := int_of e0 rfl (rfl : 0 = 0)
      obtain ⟨a1, rfl⟩ := int_of e1 rfl (rfl : 0 = 0)
      obtain ⟨a2, rfl⟩ := int_of e2 rfl (rfl : 0 = 0)
      obtain ⟨c, hc⟩ := cmd_of e3
      exact ⟨⟨a0, a1, a2, c⟩, by rw [hc]; rfl⟩
/-- The cells of a row of acts that came in. -/
def ActsAt (w : World) (b off : Nat) (l : List Act) : Prop := ∀ (i : Nat) (a : Act), l[i]? = some a →
  w.cell? ⟨b, off + i * 11, none⟩ = some (.int .i64 a.kind) ∧ w.cell? ⟨b, off + i * 11 + 1, none⟩ = some (.int .i64 a.term) ∧ w.cell? ⟨b, off + i * 11 + 2, none⟩ = some (.int .i64 a.side) ∧
  w.cell? ⟨b, off + i * 11 + 3, none⟩ = some (.int .i64 a.c.kind) ∧ w.cell? ⟨b, off + i * 11 + 4, none⟩ = some (.int .i64 a.c.vol) ∧ w.cell? ⟨b, off + i * 11 + 5, none⟩ = some (.int .i64 a.c.epoch) ∧
  w.cell? ⟨b, off + i * 11 + 6, none⟩ = some (.int .i64 a.c.spot) ∧ w.cell? ⟨b, off + i * 11 + 7, none⟩ = some (.int .i64 a.c.node) ∧ w.cell? ⟨b, off + i * 11 + 8, none⟩ = some (.int .i64 a.c.n0) ∧
  w.cell? ⟨b, off + i * 11 + 9, none⟩ = some (.int .i64 a.c.n1) ∧ w.cell? ⟨b, off + i * 11 + 10, none⟩ = some (.int .i64 a.c.n2)
/-- The argument. -/
theorem open_acts {a : Option Addr} {len cap : Nat} {d : DataW H} {p : List MemPlace} (h : DataW.Trod enc Try.prog w base spare held 51 (.slice a len cap) d p) :
    ∃ l : List Act, l.length = len ∧ (0 < len → ∃ b off, a = some ⟨b, off, none⟩ ∧ b < w.heap.size ∧ ActsAt w b off l) := by
  obtain ⟨fuel, hf⟩ := h
  rcases open_slice Try.underlying51 hf with ⟨hcs, _⟩ | ⟨x, l, c, m, n, D, Pl, hcs, _, hl, hm, hmm, _, hi⟩
  · simp [Value.cells] at hcs
    obtain ⟨rfl, rfl, rfl⟩ := hcs
    exact ⟨[], rfl, fun h => absurd h (Nat.lt_irrefl 0)⟩
  · simp [Value.cells] at hcs
    obtain ⟨rfl, rfl, rfl⟩ := hcs
    have hml : len ≤ m := by rw [hmm]; split <;> omega
    have hC : Try.prog.cellsOf 55 = 11 := by kernel_rfl
    rw [hC] at hi
    have hone : ∀ i, i < len → ∃ c : Act, ∀ j u, c.row[j]? = some u → w.cell? (x.add (i * 11 + j)) = some u := by
      intro i hil
      obtain ⟨cs', hc, ht⟩ := hi i (by omega)
      obtain ⟨c, rfl⟩ := act_of ht
      obtain ⟨_, _, hat⟩ := World.cells?_some hc
      refine ⟨c, fun j u hu => ?_⟩
      have hj : j < 11 := (List.getElem?_eq_some_iff.1 hu).1
      rw [← add_add, hat j hj, hu]
    have : Inhabited Act := ⟨⟨0, 0, 0, ⟨0, 0, 0, 0, 0, 0, 0, 0⟩⟩⟩
    obtain ⟨f, hfn⟩ := choose_lt hone
    refine ⟨(List.range len).map f, by simp, fun h0 => ?_⟩
    have hc0 := hfn 0 h0 0 _ rfl
    simp [Addr.add] at hc0
    have hx : x = ⟨x.block, x.off, none⟩ := spot_none hc0
    refine ⟨x.block, x.off, by rw [← hx], World.block_lt_of_cell? w x hc0, fun i c hc => ?_⟩
    rw [List.getElem?_map] at hc
    cases hr : (List.range len)[i]? with
    | none => rw [hr] at hc; cases hc
    | some i' =>
      have hi' : i' = i ∧ i < len := by
        obtain ⟨h1, h2⟩ := List.getElem?_eq_some_iff.1 hr
        simp at h1 h2
        exact ⟨h2.symm, h1⟩
      rw [hr] at hc
      simp at hc
      have key : ∀ j u, c.row[j]? = some u → w.cell? ⟨x.block, x.off + i * 11 + j, none⟩ = some u := fun j u hu => by
        rw [← hc, hi'.1] at hu
        have h3 := hfn i hi'.2 j u hu
        rw [hx] at h3
        have h4 : (⟨x.block, x.off, none⟩ : Addr).add (i * 11 + j) = ⟨x.block, x.off + i * 11 + j, none⟩ := by
          unfold Addr.add
          split
          · rename_i hz; rw [Nat.add_assoc, hz]; rfl
          · rw [Nat.add_assoc]
        rwa [h4] at h3
      exact ⟨key 0 _ rfl, key 1 _ rfl, key 2 _ rfl, key 3 _ rfl, key 4 _ rfl, key 5 _ rfl, key 6 _ rfl, key 7 _ rfl, key 8 _ rfl, key 9 _ rfl, key 10 _ rfl⟩
end
end Go.Proofs.Ytigkcbnlbdiimaa
