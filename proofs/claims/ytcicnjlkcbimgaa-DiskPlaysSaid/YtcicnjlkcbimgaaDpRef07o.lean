/- corncribref07: for (*Disk).crash. -/
import Derived.Test.YtcicnjlkcbimgaaDpRef07n
import Derived.Test.YtcicnjlkcbimgaaPlaysLaw
import Derived.Test.YtcicnjlkcbimgaaDiskPicks
import Derived.Test.YtcicnjlkcbimgaaDisk13
import Derived.Test.YtcicnjlkcbimgaaDisk15
import Derived.Test.YtcicnjlkcbimgaaOpen07
namespace Go.Proofs.Ytcicnjlkcbimgaa
open Go.RowKit Go.Maps
theorem deeds_cell {w : World} {v : Value} {l : List Deed} (h : RDeeds w v l) {i : Nat} {x : Deed} (hx : l[i]? = some x) : ∃ g c, v = .slice (some ⟨g, 0, none⟩) l.length c ∧ i < l.length ∧ g < w.heap.size ∧ w.cell? ⟨g, i * 4, none⟩ = some (.int .i64 x.kind) ∧ w.cell? ⟨g, i * 4 + 1, none⟩ = some (.string ⟨x.frm.toArray⟩) ∧ w.cell? ⟨g, i * 4 + 2, none⟩ = some (.string ⟨x.to.toArray⟩) ∧ w.cell? ⟨g, i * 4 + 3, none⟩ = some (.int .i64 x.file) := by
  have hi := (List.getElem?_eq_some_iff.1 hx).1
  rcases h.2 with ⟨_, h0⟩ | ⟨g, cap, cur, rfl, hg, hh, h1, h2, h3, h4⟩
  · omega
  · have key : ∀ j u, j < 4 → (deedRow x)[j]? = some u → w.cell? ⟨g, i * 4 + j, none⟩ = some u := fun j u hj hu => by
      rw [World.ownsRow.cellAt h (i * 4 + j) (by omega), getElem?_flatMap_row deedRow 4 deedRow_len l i j hj, hx]
      exact hu
    exact ⟨g, cap, rfl, hi, blk_lt hh, key 0 _ (by omega) rfl, key 1 _ (by omega) rfl, key 2 _ (by omega) rfl, key 3 _ (by omega) rfl⟩
theorem rfix2 {w w1 w' : World} {m : Nat} {M : Nat → Prop} {st' : Dk} {x0 : Obj} {vn vl vd vf : Value} {fs : List (Value × DFile)} (hb : Below w.heap.size w w1) (hb0 : w1.heap[m]? = some x0) (hx0 : kindO x0 = 64 + 1) (hk : Keeps (fun k => k = m) w1 w')
    (hblk : w'.heap[m]? = some (.cells #[.int .i64 st'.cap, vn, vl, vd, vf, .int .i64 st'.armed] 64 (0, 0))) (hen : REnts w1 vn st'.now) (hel : REnts w1 vl st'.lasting) (hde : RDeeds w1 vd st'.deeds) (hfi : RFiles w1 (fun k => M k ∨ (w.heap.size ≤ k ∧ k < w1.heap.size)) vf fs) (hfs : fs.map (·.2) = st'.files)
    (hM : M m) (hMr : ∀ k, (vn.ownBlock = some k ∨ vl.ownBlock = some k ∨ vd.ownBlock = some k ∨ vf.ownBlock = some k) → M k ∨ (w.heap.size ≤ k ∧ k < w1.heap.size)) : RTo w w' m M st' := by
  have hR := rfix (M := fun k => M k ∨ (w.heap.size ≤ k ∧ k < w1.heap.size)) hb0 hx0 hk hblk hen hel hde hfi hfs (.inl hM) hMr
  have hz := hb.size
  have hz2 := hk.size
  refine ⟨hR.1.mono fun k e => ?_, Keeps.trans (keeps_below M hb) hR.2 fun k hk e => ?_⟩
  · rcases e with (e | e) | e
    · exact .inl e
    · exact .inr ⟨e.1, by omega⟩
    · exact .inr ⟨by omega, e.2⟩
  · rcases e with e | e
    · exact e
    · omega
/-- A crash under way: j of the names that last are settled. -/
def crS (st : Dk) (p : DPicks) (j : Nat) : Dk := { st with lasting := st.lastDir p, files := settleSome p ((st.lastDir p).take j) st.files }
theorem crS_zero (st : Dk) (p : DPicks) : crS st p 0 = { st with lasting := st.lastDir p } := rfl
theorem crS_len (st : Dk) (p : DPicks) (j : Nat) : (crS st p j).files.length = st.files.length := settleSome_len _ _ _
theorem crS_step (st : Dk) (p : DPicks) (j : Nat) (x : Nm × Nat) (hx : (st.lastDir p)[j]? = some x) : crS st p (j + 1) = (crS st p j).setF x.2 (((crS st p j).fileAt x.2).settle (p.at x.2)) := by
  unfold crS Dk.setF Dk.fileAt
  rw [take_snoc_at (st.lastDir p) j x hx, settleSome_snoc]
theorem crS_end (st : Dk) (p : DPicks) : ({ crS st p (st.lastDir p).length with now := st.lastDir p, deeds := [], armed := -1 } : Dk) = st.crash p := by
  unfold crS Dk.crash
  rw [List.take_length, settleSome_all]
theorem crS_ok {K : Nat} {st : Dk} (h : DkOk K st) (p : DPicks) (j i : Nat) : ((crS st p j).fileAt i).lasts ≤ ((crS st p j).fileAt i).b.length ∧ ((crS st p j).fileAt i).b.length ≤ 16777216 := by
  unfold Dk.fileAt
  cases e : (crS st p j).files[i]? with
  | none => simp
  | some f => exact settleSome_ok p _ _ h.fb f (List.mem_of_getElem? e)
theorem last_le {K : Nat} {st : Dk} (h : DkOk K st) (p : DPicks) : (st.lastDir p).length ≤ 64 := h.hist _
theorem settle_no {f : DFile} {p : DPick} (h : keepN f p = 0) (hl : f.lasts ≤ f.b.length) : f.settle p = ⟨f.b.take f.lasts, f.lasts⟩ := by
  unfold DFile.settle
  rw [h]
  simp [Nat.min_eq_left hl]
theorem settle_yes {f : DFile} {p : DPick} {k j : Nat} {y : UInt8} (h : keepN f p = k) (h0 : 0 < k) (hj : f.lasts + k = j + 1) (hl : f.lasts + k ≤ f.b.length) (hy : f.b[j]? = some y) : f.settle p = ⟨(f.b.take (j + 1)).set j (y ^^^ p.turn), j + 1⟩ := by
  unfold DFile.settle
  rw [h, hj]
  have hlen : (f.b.take (j + 1)).length = j + 1 := by rw [List.length_take]; omega
  dsimp only
  rw [if_pos h0, xorAt_len, hlen]
  congr 1
  unfold xorAt
  rw [show j + 1 - 1 = j by omega, List.getElem?_take]
  simp [hy]
end Go.Proofs.Ytcicnjlkcbimgaa
