/- The directory's map in memory: Clone, New, All, Find. -/
import Derived.Test.YtigkcbnlbdiimaaDirs
namespace Go.Proofs.Ytigkcbnlbdiimaa
open Go.RowKit
/-- slices.Clone at []corncrib/dirs.Entry,corncrib/dirs.Entry. -/
theorem clone_info_Ent : (Try.prog.info? 37).map (fun i => (i.zero, i.size, i.bytes)) = some (some (.agg #[.int .i64 0, .int .i64 0, .int .i64 0, .int .i64 0, .int .i64 0, .bool false]), 6, 48) := by kernel_rfl
set_option maxRecDepth 100000 in
set_option maxHeartbeats 1000000 in
theorem clone_Ent (v : Value) (n : Nat) (xs : List Value) (w : World) (h : Reads w 6 v n xs) (h1 : ∀ u ∈ xs, u.oneCell' = true) (hb : n * 48 ≤ 140737488355328) :
    Calls Try.prog 57 #[v] w (CloneOut w 37 6 v n xs) := by
  obtain ⟨i0, hi, hz0, hz1, hz2⟩ := info_parts clone_info_Ent
  obtain ⟨hlen, ⟨rfl, rfl⟩ | ⟨a, c, rfl, hm, hcell⟩⟩ := h
  · have hx : xs = [] := List.eq_nil_of_length_eq_zero (by simpa using hlen)
    subst hx
    clear hi hz0 hz1 hz2 hlen h1 hb
    have hne := fun (wx : World) => Lib.run_eql_slice_nil (P := Try.prog) wx 33 37 none 0 0 0 0 Try.underlying33
    go_enter Try.func57, Try.ntmps57
    go_wp2
    go_ret
    exact ⟨_, rfl, World.ownsRow_nil _ _ _ _, Iff.rfl, Below.refl _ _⟩
  · have hne := fun (wx : World) => Lib.run_eql_slice_nil (P := Try.prog) wx 33 37 (some a) n c 0 0 Try.underlying33
    have HI := Lib.hid hi
    have HZ0 := Lib.hid hz0
    have HZ1 := Lib.hid hz1
    have HZ2 := Lib.hid hz2
    have HL := Lib.hid hlen
    have HC := Lib.hid hcell
    have H1 := Lib.hid h1
    clear hi hz0 hz1 hz2 hlen hcell h1
    go_enter Try.func57, Try.ntmps57
    go_wp2_with (at_builtin; refine wpList_append_own _ rfl _ _ 33 rfl w.heap.size 37 i0 (.agg #[.int .i64 0, .int .i64 0, .int .i64 0, .int .i64 0, .int .i64 0, .bool false]) 6 48 Try.underlying33 HI.out HZ0.out HZ1.out HZ2.out rfl (by decide) (.slice (some ⟨w.heap.size, 0, none⟩) 0 0) 0 [] rfl (World.ownsRow_lit w #[] 0 (Nat.le_refl _) (by unfold maxLen; omega) rfl) a n c xs rfl HL.out (fun j u hu => cell_later ((Below.refl _ _).alloc (Nat.le_refl _) _) (HC.out j u hu)) H1.out (by omega) (by omega) (by simp) ?_; intro v' w1 hown' hgrow hnil)
    go_ret
    exact ⟨_, rfl, by simpa using hown', by simpa using hnil, (((Below.refl _ _).alloc (Nat.le_refl _) _).grown hgrow (by simp) (by simp [Value.ownBlock]))⟩

theorem Ent.one (es : List Ent) : ∀ u ∈ es.flatMap Ent.row, u.oneCell' = true := by
  intro u hu
  obtain ⟨x, _, hx⟩ := List.mem_flatMap.1 hu
  simp only [Ent.row, List.mem_cons, List.not_mem_nil, or_false] at hx
  rcases hx with rfl | rfl | rfl | rfl | rfl | rfl <;> rfl

/-- A *dirs.Map at block bm; v: its slice value. -/
structure MapAt (w : World) (base bm : Nat) (v : Value) (es : List Ent) : Prop where
  blk : w.heap[bm]? = some (.cells #[v] 105 (0, 0))
  row : w.ownsRow base 37 6 v es.length (es.flatMap Ent.row)
  low : base ≤ bm
  ne : v.ownBlock ≠ some bm
  few : es.length ≤ 4096
theorem MapAt.lt {w : World} {base bm : Nat} {v : Value} {es : List Ent} (h : MapAt w base bm v es) : bm < w.heap.size := (Array.getElem?_eq_some_iff.1 h.blk).1
theorem MapAt.cell {w : World} {base bm : Nat} {v : Value} {es : List Ent} (h : MapAt w base bm v es) : w.cell? ⟨bm, 0, none⟩ = some v := by
  rw [cell_of_row w bm 0 _ _ _ h.blk]; rfl
theorem MapAt.free {w : World} {base bm : Nat} {v : Value} {es : List Ent} (h : MapAt w base bm v es) : w.frozen? ⟨bm, 0, none⟩ = false := frozen_of_row w bm 0 _ _ h.blk
theorem MapAt.keeps {w w' : World} {base bm : Nat} {v : Value} {es : List Ent} {F : Nat → Prop} (h : MapAt w base bm v es) (hk : Keeps F w w') (h1 : ¬ F bm) (h2 : ∀ k, v.ownBlock = some k → ¬ F k) : MapAt w' base bm v es :=
  ⟨by rw [hk.block bm h.lt h1]; exact h.blk, ownsRow_keeps h.row hk h2, h.low, h.ne, h.few⟩
theorem MapAt.below {w w' : World} {base bm : Nat} {v : Value} {es : List Ent} (h : MapAt w base bm v es) (hk : Below w.heap.size w w') : MapAt w' base bm v es :=
  h.keeps (F := fun _ => False) (Keeps.of_below hk fun k hk _ => hk) (fun h => h) (fun _ _ h => h)
theorem MapAt.mono {w : World} {base base' bm : Nat} {v : Value} {es : List Ent} (h : MapAt w base bm v es) (hb : base' ≤ base) : MapAt w base' bm v es :=
  ⟨h.blk, ownsRow_mono h.row hb, Nat.le_trans hb h.low, h.ne, h.few⟩

set_option maxRecDepth 100000 in
set_option maxHeartbeats 400000 in
theorem new_any (w : World) : Calls Try.prog 15 #[] w fun e w' => e = .returned (.pointer (some ⟨w.heap.size, 0, none⟩)) ∧ w.alloc (.cells #[.slice none 0 0] 105) = w' := by
  go_enter Try.func15, Try.ntmps15
  go_wp2
  go_ret
  exact ⟨rfl, rfl⟩
theorem MapAt.made (w : World) (base : Nat) (hb : base ≤ w.heap.size) : MapAt (w.alloc (.cells #[.slice none 0 0] 105)) base w.heap.size (.slice none 0 0) [] :=
  ⟨heap_alloc_new w _, World.ownsRow_nil _ _ _ _, hb, by simp [Value.ownBlock], by simp⟩

set_option maxRecDepth 100000 in
set_option maxHeartbeats 400000 in
theorem all_any (base bm : Nat) (v : Value) (es : List Ent) (w : World) (h : MapAt w base bm v es) :
    Calls Try.prog 17 #[.pointer (some ⟨bm, 0, none⟩)] w (CloneOut w 37 6 v es.length (es.flatMap Ent.row)) := by
  have hc := h.cell
  have HC := Lib.hid (clone_Ent v es.length (es.flatMap Ent.row) w (reads_of_owns h.row) (Ent.one es) (by have := h.few; omega))
  clear h
  go_enter Try.func17, Try.ntmps17
  go_wp2_with (go_at_call 57; refine HC.out.mono ?_; rintro e w' ⟨v', rfl, ho, hn, hb⟩)
  go_ret
  exact ⟨_, rfl, ho, hn, hb⟩

/-- The cells of one entry. -/
theorem MapAt.ent {w : World} {base bm : Nat} {v : Value} {es : List Ent} (h : MapAt w base bm v es) (k : Nat) (x : Ent) (hx : es[k]? = some x) :
    ∃ g c, v = .slice (some ⟨g, 0, none⟩) es.length c ∧ g < w.heap.size ∧ base ≤ g ∧ g ≠ bm ∧ k < es.length ∧
      w.cell? ⟨g, k * 6, none⟩ = some (.int .i64 x.vol) ∧ w.cell? ⟨g, k * 6 + 1, none⟩ = some (.int .i64 x.epoch) ∧ w.cell? ⟨g, k * 6 + 2, none⟩ = some (.int .i64 x.n0) ∧
      w.cell? ⟨g, k * 6 + 3, none⟩ = some (.int .i64 x.n1) ∧ w.cell? ⟨g, k * 6 + 4, none⟩ = some (.int .i64 x.n2) ∧ w.cell? ⟨g, k * 6 + 5, none⟩ = some (.bool x.shut) := by
  have hk : k < es.length := (List.getElem?_eq_some_iff.1 hx).1
  have hr := h.row
  have hlt := hr.lt
  have hne := h.ne
  rcases hr.2 with ⟨_, hz⟩ | ⟨g, cap, cur, rfl, hg, _⟩
  · omega
  · have hg1 := hlt g rfl
    have hc := fun j hj => ownsRow_cell Ent.row 6 Ent.row_len es hr k j x hx hj
    refine ⟨g, cap, rfl, hg1.2, hg1.1, fun e => hne (by rw [e]; rfl), hk, ?_, ?_, ?_, ?_, ?_, ?_⟩
    · simpa [Ent.row] using hc 0 (by omega)
    · simpa [Ent.row] using hc 1 (by omega)
    · simpa [Ent.row] using hc 2 (by omega)
    · simpa [Ent.row] using hc 3 (by omega)
    · simpa [Ent.row] using hc 4 (by omega)
    · simpa [Ent.row] using hc 5 (by omega)

set_option maxRecDepth 100000 in
set_option maxHeartbeats 1000000 in
theorem find_yes (base bm : Nat) (v : Value) (es : List Ent) (k : Nat) (x : Ent) (w : World) (h : MapAt w base bm v es) (hx : es[k]? = some x) :
    Calls Try.prog 19 #[.pointer (some ⟨bm, 0, none⟩), .int .i64 ((k : Int) + 1)] w
      fun e w' => e = .returned (.tuple #[.agg #[.int .i64 x.vol, .int .i64 x.epoch, .int .i64 x.n0, .int .i64 x.n1, .int .i64 x.n2, .bool x.shut], .nilIface]) ∧ Below w.heap.size w w' := by
  obtain ⟨g, c, rfl, hg, _, hne, hk, c0, c1, c2, c3, c4, c5⟩ := h.ent k x hx
  have hc := h.cell
  have hlt := h.lt
  have hfew := h.few
  obtain ⟨v0, e0, x0, x1, x2, s0⟩ := x
  clear h hx
  generalize es.length = n at *
  go_enter Try.func19, Try.ntmps19
  go_wp2
  refine bodyPost_ret (v := ?_) ?_ rfl ?_
  rotate_left
  focus (simp [results, Try.results19, go_sem]; exact rfl)
  exact ⟨rfl, (by repeat (first | (with_reducible exact Below.refl _ _) | (with_reducible refine Below.setCell ?_ ?_ _) | (with_reducible refine Below.alloc ?_ ?_ _) | (with_reducible refine Below.drewN ?_ _) | (with_reducible refine Below.drew ?_) | (with_reducible exact Nat.le_refl _) | (focus (simp only [World.size_alloc, World.size_setCell, World.size_drew, World.size_drewN]; omega)) | omega | exact Nat.le_refl _ | (focus (simp; done)) | (focus (simp; omega))))⟩
set_option maxRecDepth 100000 in
set_option maxHeartbeats 1000000 in
theorem find_no (base bm : Nat) (v : Value) (es : List Ent) (k : Int) (w : World) (h : MapAt w base bm v es) (hk : k < 1 ∨ es.length < k) :
    Calls Try.prog 19 #[.pointer (some ⟨bm, 0, none⟩), .int .i64 k] w
      fun e w' => e = .returned (.tuple #[.agg #[.int .i64 0, .int .i64 0, .int .i64 0, .int .i64 0, .int .i64 0, .bool false], .iface 106 (.int .i64 6)]) ∧ Below w.heap.size w w' := by
  have hc := h.cell
  have hlt := h.lt
  obtain ⟨a, c, rfl⟩ := ownsRow_len h.row
  clear h
  generalize es.length = n at *
  by_cases h1 : k < 1
  · clear hk
    go_enter Try.func19, Try.ntmps19
    go_wp2
    refine bodyPost_ret (v := ?_) ?_ rfl ?_
    rotate_left
    focus (simp [results, Try.results19, go_sem]; exact rfl)
    exact ⟨rfl, (by repeat (first | (with_reducible exact Below.refl _ _) | (with_reducible refine Below.setCell ?_ ?_ _) | (with_reducible refine Below.alloc ?_ ?_ _) | (with_reducible refine Below.drewN ?_ _) | (with_reducible refine Below.drew ?_) | (with_reducible exact Nat.le_refl _) | (focus (simp only [World.size_alloc, World.size_setCell, World.size_drew, World.size_drewN]; omega)) | omega | exact Nat.le_refl _ | (focus (simp; done)) | (focus (simp; omega))))⟩
  · have h2 : (n : Int) < k := by omega
    clear hk
    go_enter Try.func19, Try.ntmps19
    go_wp2
    refine bodyPost_ret (v := ?_) ?_ rfl ?_
    rotate_left
    focus (simp [results, Try.results19, go_sem]; exact rfl)
    exact ⟨rfl, (by repeat (first | (with_reducible exact Below.refl _ _) | (with_reducible refine Below.setCell ?_ ?_ _) | (with_reducible refine Below.alloc ?_ ?_ _) | (with_reducible refine Below.drewN ?_ _) | (with_reducible refine Below.drew ?_) | (with_reducible exact Nat.le_refl _) | (focus (simp only [World.size_alloc, World.size_setCell, World.size_drew, World.size_drewN]; omega)) | omega | exact Nat.le_refl _ | (focus (simp; done)) | (focus (simp; omega))))⟩
end Go.Proofs.Ytigkcbnlbdiimaa
