/- corncribref19.Do: more where nothing changes. -/
import Derived.Test.YtigkcbnlbdiimaaRef19
import Derived.Test.YtigkcbnlbdiimaaAppReads
namespace Go.Proofs.Ytigkcbnlbdiimaa
open Go.RowKit
theorem row_ent19 {w : World} {base : Nat} {v : Value} {es : List Ent} (hr : w.ownsRow base 128 6 v es.length (es.flatMap Ent.row)) (k : Nat) (x : Ent) (hx : es[k]? = some x) :
    ∃ g c, v = .slice (some ⟨g, 0, none⟩) es.length c ∧ g < w.heap.size ∧ base ≤ g ∧ k < es.length ∧
      w.cell? ⟨g, k * 6, none⟩ = some (.int .i64 x.vol) ∧ w.cell? ⟨g, k * 6 + 1, none⟩ = some (.int .i64 x.epoch) ∧ w.cell? ⟨g, k * 6 + 2, none⟩ = some (.int .i64 x.n0) ∧
      w.cell? ⟨g, k * 6 + 3, none⟩ = some (.int .i64 x.n1) ∧ w.cell? ⟨g, k * 6 + 4, none⟩ = some (.int .i64 x.n2) ∧ w.cell? ⟨g, k * 6 + 5, none⟩ = some (.bool x.shut) := by
  have hk : k < es.length := (List.getElem?_eq_some_iff.1 hx).1
  have hlt := hr.lt
  rcases hr.2 with ⟨_, hz⟩ | ⟨g, cap, cur, rfl, hg, _⟩
  · omega
  · have hg1 := hlt g rfl
    have hc := fun j hj => ownsRow_cell Ent.row 6 Ent.row_len es hr k j x hx hj
    refine ⟨g, cap, rfl, hg1.2, hg1.1, hk, ?_, ?_, ?_, ?_, ?_, ?_⟩
    · simpa [Ent.row] using hc 0 (by omega)
    · simpa [Ent.row] using hc 1 (by omega)
    · simpa [Ent.row] using hc 2 (by omega)
    · simpa [Ent.row] using hc 3 (by omega)
    · simpa [Ent.row] using hc 4 (by omega)
    · simpa [Ent.row] using hc 5 (by omega)
set_option maxRecDepth 100000 in
set_option maxHeartbeats 2000000 in
theorem ref_full (base : Nat) (v : Value) (es : List Ent) (c : Cmd) (w : World) (h : w.ownsRow base 128 6 v es.length (es.flatMap Ent.row)) (hk : c.kind = 1) (ht : threeB c.n0 c.n1 c.n2 = true) (hl : 4096 ≤ es.length) :
    Calls Try.prog 39 #[v, .agg #[.int .i64 c.kind, .int .i64 c.vol, .int .i64 c.epoch, .int .i64 c.spot, .int .i64 c.node, .int .i64 c.n0, .int .i64 c.n1, .int .i64 c.n2]] w
      (RefOut w base es 0 11) := by
  have H := Lib.hid h
  obtain ⟨a, cap, rfl⟩ := ownsRow_len h
  clear h
  obtain ⟨k, cv, ce, cs, cn, c0, c1, c2⟩ := c
  have hk' : k = 1 := hk
  subst hk'
  clear hk
  obtain ⟨ha, hb, hc, h1, h2, h3⟩ := three_yes ht
  clear ht
  simp only at ha hb hc h1 h2 h3
  have hl' : (4096 : Int) ≤ (es.length : Int) := by omega
  generalize hn : es.length = n at *
  have HN := Lib.hid hn
  clear hn
  go_enter Try.func39, Try.ntmps39
  go_wp2_with fail
  refine wp_region_now0 [2, 5, 8] [(0, 0), (1, 0), (2, 2), (3, 0), (4, 0), (5, 2), (6, 0), (7, 0), (8, 2), (9, 0), (10, 0), (11, 0)] (by kernel_rfl) (by kernel_rfl) rfl (by kernel_rfl) ?_
  refine stepE0 rfl rfl (fun K hK => ?_)
  go_simp
  refine hK _ ?_
  clear hK K
  refine stepE0 rfl rfl (fun K hK => ?_)
  go_simp
  refine hK _ ?_
  clear hK K
  refine stepE2 rfl rfl ?_ (fun w1 hS => ?_) (fun K hK => ?_)
  rotate_left
  focus (obtain rfl : w1 = _ := hS; go_simp; rfl)
  go_simp
  refine hK _ ?_
  clear hK K
  refine stepE0 rfl rfl (fun K hK => ?_)
  go_simp
  refine hK _ ?_
  clear hK K
  refine stepE0 rfl rfl (fun K hK => ?_)
  go_simp
  refine hK _ ?_
  clear hK K
  refine stepE2 rfl rfl ?_ (fun w1 hS => ?_) (fun K hK => ?_)
  rotate_left
  focus (obtain rfl : w1 = _ := hS; go_simp; rfl)
  go_simp
  refine hK _ ?_
  clear hK K
  refine stepE0 rfl rfl (fun K hK => ?_)
  go_simp
  refine hK _ ?_
  clear hK K
  refine stepE0 rfl rfl (fun K hK => ?_)
  go_simp
  refine hK _ ?_
  clear hK K
  refine stepE2 rfl rfl ?_ (fun w1 hS => ?_) (fun K hK => ?_)
  rotate_left
  focus (obtain rfl : w1 = _ := hS; go_simp; rfl)
  go_simp
  refine hK _ ?_
  clear hK K
  refine stepE0 rfl rfl (fun K hK => ?_)
  go_simp
  refine hK _ ?_
  clear hK K
  refine stepE0 rfl rfl (fun K hK => ?_)
  go_simp
  refine hK _ ?_
  clear hK K
  refine stepE0 rfl rfl (fun K hK => ?_)
  go_simp
  refine hK _ ?_
  clear hK K
  try refine stepEnil0 ?_
  go_wp2_with (go_at_call 69; refine (near_any _ _).mono ?_; rintro e w' ⟨rfl, rfl⟩; simp only [ha, hb, hc])
  go_ret3
  refine RefOut.same (v := .slice a n cap) (by rw [HN.out]; exact H.out) (by repeat (first | (with_reducible exact Below.refl _ _) | (with_reducible refine Below.setCell ?_ ?_ _) | (with_reducible refine Below.alloc ?_ ?_ _) | (with_reducible refine Below.drewN ?_ _) | (with_reducible refine Below.drew ?_) | (with_reducible exact Nat.le_refl _) | (focus (simp only [World.size_alloc, World.size_setCell, World.size_drew, World.size_drewN]; omega)) | omega | exact Nat.le_refl _ | (focus (simp; done)) | (focus (simp; omega))))
set_option maxRecDepth 100000 in
set_option maxHeartbeats 2000000 in
theorem ref_none (base : Nat) (v : Value) (es : List Ent) (c : Cmd) (w : World) (h : w.ownsRow base 128 6 v es.length (es.flatMap Ent.row)) (hk : 2 ≤ c.kind) (hk2 : c.kind ≤ 4) (hv : c.vol < 1 ∨ (es.length : Int) < c.vol) :
    Calls Try.prog 39 #[v, .agg #[.int .i64 c.kind, .int .i64 c.vol, .int .i64 c.epoch, .int .i64 c.spot, .int .i64 c.node, .int .i64 c.n0, .int .i64 c.n1, .int .i64 c.n2]] w
      (RefOut w base es 0 6) := by
  have H := Lib.hid h
  obtain ⟨a, cap, rfl⟩ := ownsRow_len h
  clear h
  obtain ⟨k, cv, ce, cs, cn, c0, c1, c2⟩ := c
  have d1 : decide (k < 1) = false := by have : 2 ≤ k := hk; simp; omega
  have d2 : decide (4 < k) = false := by have : k ≤ 4 := hk2; simp; omega
  have d3 : (k == 1) = false := by have : 2 ≤ k := hk; simp; omega
  clear hk hk2
  have hv' : cv < 1 ∨ (es.length : Int) < cv := hv
  clear hv
  by_cases h1 : cv < 1
  · clear hv'
    go_enter Try.func39, Try.ntmps39
    go_wp2_with fail
    refine wp_region_now0 [2, 5, 8] [(0, 0), (1, 0), (2, 2), (3, 0), (4, 0), (5, 2), (6, 0), (7, 0), (8, 2), (9, 0), (10, 0), (11, 0)] (by kernel_rfl) (by kernel_rfl) rfl (by kernel_rfl) ?_
    refine stepE0 rfl rfl (fun K hK => ?_)
    go_simp
    refine hK _ ?_
    clear hK K
    refine stepE0 rfl rfl (fun K hK => ?_)
    go_simp
    refine hK _ ?_
    clear hK K
    refine stepE2 rfl rfl ?_ (fun w1 hS => ?_) (fun K hK => ?_)
    rotate_left
    focus (obtain rfl : w1 = _ := hS; go_simp; rfl)
    go_simp
    refine hK _ ?_
    clear hK K
    refine stepE0 rfl rfl (fun K hK => ?_)
    go_simp
    refine hK _ ?_
    clear hK K
    refine stepE0 rfl rfl (fun K hK => ?_)
    go_simp
    refine hK _ ?_
    clear hK K
    refine stepE2 rfl rfl ?_ (fun w1 hS => ?_) (fun K hK => ?_)
    rotate_left
    focus (obtain rfl : w1 = _ := hS; go_simp; rfl)
    go_simp
    refine hK _ ?_
    clear hK K
    refine stepE0 rfl rfl (fun K hK => ?_)
    go_simp
    refine hK _ ?_
    clear hK K
    refine stepE0 rfl rfl (fun K hK => ?_)
    go_simp
    refine hK _ ?_
    clear hK K
    refine stepE2 rfl rfl ?_ (fun w1 hS => ?_) (fun K hK => ?_)
    rotate_left
    focus (obtain rfl : w1 = _ := hS; go_simp; rfl)
    go_simp
    refine hK _ ?_
    clear hK K
    refine stepE0 rfl rfl (fun K hK => ?_)
    go_simp
    refine hK _ ?_
    clear hK K
    refine stepE0 rfl rfl (fun K hK => ?_)
    go_simp
    refine hK _ ?_
    clear hK K
    refine stepE0 rfl rfl (fun K hK => ?_)
    go_simp
    refine hK _ ?_
    clear hK K
    try refine stepEnil0 ?_
    go_wp2_with fail
    go_ret3
    exact RefOut.same H.out (by repeat (first | (with_reducible exact Below.refl _ _) | (with_reducible refine Below.setCell ?_ ?_ _) | (with_reducible refine Below.alloc ?_ ?_ _) | (with_reducible refine Below.drewN ?_ _) | (with_reducible refine Below.drew ?_) | (with_reducible exact Nat.le_refl _) | (focus (simp only [World.size_alloc, World.size_setCell, World.size_drew, World.size_drewN]; omega)) | omega | exact Nat.le_refl _ | (focus (simp; done)) | (focus (simp; omega))))
  · have h2 : (es.length : Int) < cv := by omega
    have h1' : decide (cv < 1) = false := by simpa using h1
    clear hv' h1
    go_enter Try.func39, Try.ntmps39
    go_wp2_with fail
    refine wp_region_now0 [2, 5, 8] [(0, 0), (1, 0), (2, 2), (3, 0), (4, 0), (5, 2), (6, 0), (7, 0), (8, 2), (9, 0), (10, 0), (11, 0)] (by kernel_rfl) (by kernel_rfl) rfl (by kernel_rfl) ?_
    refine stepE0 rfl rfl (fun K hK => ?_)
    go_simp
    refine hK _ ?_
    clear hK K
    refine stepE0 rfl rfl (fun K hK => ?_)
    go_simp
    refine hK _ ?_
    clear hK K
    refine stepE2 rfl rfl ?_ (fun w1 hS => ?_) (fun K hK => ?_)
    rotate_left
    focus (obtain rfl : w1 = _ := hS; go_simp; rfl)
    go_simp
    refine hK _ ?_
    clear hK K
    refine stepE0 rfl rfl (fun K hK => ?_)
    go_simp
    refine hK _ ?_
    clear hK K
    refine stepE0 rfl rfl (fun K hK => ?_)
    go_simp
    refine hK _ ?_
    clear hK K
    refine stepE2 rfl rfl ?_ (fun w1 hS => ?_) (fun K hK => ?_)
    rotate_left
    focus (obtain rfl : w1 = _ := hS; go_simp; rfl)
    go_simp
    refine hK _ ?_
    clear hK K
    refine stepE0 rfl rfl (fun K hK => ?_)
    go_simp
    refine hK _ ?_
    clear hK K
    refine stepE0 rfl rfl (fun K hK => ?_)
    go_simp
    refine hK _ ?_
    clear hK K
    refine stepE2 rfl rfl ?_ (fun w1 hS => ?_) (fun K hK => ?_)
    rotate_left
    focus (obtain rfl : w1 = _ := hS; go_simp; rfl)
    go_simp
    refine hK _ ?_
    clear hK K
    refine stepE0 rfl rfl (fun K hK => ?_)
    go_simp
    refine hK _ ?_
    clear hK K
    refine stepE0 rfl rfl (fun K hK => ?_)
    go_simp
    refine hK _ ?_
    clear hK K
    refine stepE0 rfl rfl (fun K hK => ?_)
    go_simp
    refine hK _ ?_
    clear hK K
    try refine stepEnil0 ?_
    go_wp2_with fail
    go_ret3
    exact RefOut.same H.out (by repeat (first | (with_reducible exact Below.refl _ _) | (with_reducible refine Below.setCell ?_ ?_ _) | (with_reducible refine Below.alloc ?_ ?_ _) | (with_reducible refine Below.drewN ?_ _) | (with_reducible refine Below.drew ?_) | (with_reducible exact Nat.le_refl _) | (focus (simp only [World.size_alloc, World.size_setCell, World.size_drew, World.size_drewN]; omega)) | omega | exact Nat.le_refl _ | (focus (simp; done)) | (focus (simp; omega))))
set_option maxRecDepth 100000 in
set_option maxHeartbeats 2000000 in
theorem ref_stale (base : Nat) (v : Value) (es : List Ent) (c : Cmd) (j : Nat) (x : Ent) (w : World) (h : w.ownsRow base 128 6 v es.length (es.flatMap Ent.row)) (hk : 2 ≤ c.kind) (hk2 : c.kind ≤ 4) (hv : c.vol = (j : Int) + 1) (hx : es[j]? = some x) (hne : x.epoch ≠ c.epoch) :
    Calls Try.prog 39 #[v, .agg #[.int .i64 c.kind, .int .i64 c.vol, .int .i64 c.epoch, .int .i64 c.spot, .int .i64 c.node, .int .i64 c.n0, .int .i64 c.n1, .int .i64 c.n2]] w
      (RefOut w base es 0 13) := by
  have H := Lib.hid h
  obtain ⟨g, cap, rfl, hg, hgb, hj, q0, q1, q2, q3, q4, q5⟩ := row_ent19 h j x hx
  clear h hx
  obtain ⟨k, cv, ce, cs, cn, c0, c1, c2⟩ := c
  obtain ⟨xv, xe, x0, x1, x2, xs⟩ := x
  have d1 : decide (k < 1) = false := by have : 2 ≤ k := hk; simp; omega
  have d2 : decide (4 < k) = false := by have : k ≤ 4 := hk2; simp; omega
  have d3 : (k == 1) = false := by have : 2 ≤ k := hk; simp; omega
  clear hk hk2
  have hv' : cv = (j : Int) + 1 := hv
  clear hv
  subst hv'
  have d4 : (xe != ce) = true := by have : xe ≠ ce := hne; simpa using this
  clear hne
  have hle : es.length ≤ maxLen := (reads_of_owns H.out).2.elim (fun h => by have := h.2; omega) (fun ⟨_, _, _, h, _⟩ => h)
  have hle' : es.length ≤ 9223372036854775807 := hle
  have e1 : IntKind.i64.wrap ((j : Int) + 1 - 1) = (j : Int) := by rw [show (j : Int) + 1 - 1 = j by omega]; exact IntWalk.i64_in _ (by omega)
  go_enter Try.func39, Try.ntmps39
  go_wp2_with fail
  refine wp_region_now0 [2, 5, 8] [(0, 0), (1, 0), (2, 2), (3, 0), (4, 0), (5, 2), (6, 0), (7, 0), (8, 2), (9, 0), (10, 0), (11, 0)] (by kernel_rfl) (by kernel_rfl) rfl (by kernel_rfl) ?_
  refine stepE0 rfl rfl (fun K hK => ?_)
  go_simp
  refine hK _ ?_
  clear hK K
  refine stepE0 rfl rfl (fun K hK => ?_)
  go_simp
  refine hK _ ?_
  clear hK K
  refine stepE2 rfl rfl ?_ (fun w1 hS => ?_) (fun K hK => ?_)
  rotate_left
  focus (obtain rfl : w1 = _ := hS; go_simp; rfl)
  go_simp
  refine hK _ ?_
  clear hK K
  refine stepE0 rfl rfl (fun K hK => ?_)
  go_simp
  refine hK _ ?_
  clear hK K
  refine stepE0 rfl rfl (fun K hK => ?_)
  go_simp
  refine hK _ ?_
  clear hK K
  refine stepE2 rfl rfl ?_ (fun w1 hS => ?_) (fun K hK => ?_)
  rotate_left
  focus (obtain rfl : w1 = _ := hS; go_simp; rfl)
  go_simp
  refine hK _ ?_
  clear hK K
  refine stepE0 rfl rfl (fun K hK => ?_)
  go_simp
  refine hK _ ?_
  clear hK K
  refine stepE0 rfl rfl (fun K hK => ?_)
  go_simp
  refine hK _ ?_
  clear hK K
  refine stepE2 rfl rfl ?_ (fun w1 hS => ?_) (fun K hK => ?_)
  rotate_left
  focus (obtain rfl : w1 = _ := hS; go_simp; rfl)
  go_simp
  refine hK _ ?_
  clear hK K
  refine stepE0 rfl rfl (fun K hK => ?_)
  go_simp
  refine hK _ ?_
  clear hK K
  refine stepE0 rfl rfl (fun K hK => ?_)
  go_simp
  refine hK _ ?_
  clear hK K
  refine stepE0 rfl rfl (fun K hK => ?_)
  go_simp
  refine hK _ ?_
  clear hK K
  try refine stepEnil0 ?_
  go_wp2_with fail
  go_ret3
  exact RefOut.same H.out (by repeat (first | (with_reducible exact Below.refl _ _) | (with_reducible refine Below.setCell ?_ ?_ _) | (with_reducible refine Below.alloc ?_ ?_ _) | (with_reducible refine Below.drewN ?_ _) | (with_reducible refine Below.drew ?_) | (with_reducible exact Nat.le_refl _) | (focus (simp only [World.size_alloc, World.size_setCell, World.size_drew, World.size_drewN]; omega)) | omega | exact Nat.le_refl _ | (focus (simp; done)) | (focus (simp; omega))))
end Go.Proofs.Ytigkcbnlbdiimaa
