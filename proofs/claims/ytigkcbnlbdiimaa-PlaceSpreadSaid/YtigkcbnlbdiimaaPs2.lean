/- Joined texts: Ref19b, Ref19c, Ref19d, OrderT, Ref19e, Ref19f, Bytes, Same, OrderIn, Pack, Pack2, Put4, Dirs5, Dirs6. -/
import Derived.Test.YtigkcbnlbdiimaaPs1
import Derived.Test.YtigkcbnlbdiimaaRows
import Derived.OrdersIn
import Derived.RangeFuncNested
import Derived.RangeFuncBound
import Derived.RangeFuncCalls
import Derived.RangeFuncLeaves
import Derived.RangeFuncBox
import Derived.Shelf.Abstract
import Derived.Shelf.RegionOpen
import Derived.OwnWalkIn
import Derived.TacticsInMore
import Derived.LoopNIn
import Derived.LoopIn
import Derived.Maps.AppendAt
import Derived.Deep.AppendLies
/- corncribref19.Do: more where nothing changes. -/
namespace Go.Proofs.Ytigkcbnlbdiimaa
open Go.RowKit
theorem row_ent19 {w : World} {base : Nat} {v : Value} {es : List Ent} (hr : w.ownsRow base 128 6 v es.length (es.flatMap Ent.row)) (k : Nat) (x : Ent) (hx : es[k]? = some x) :
    ∃ g c, v = .slice (some ⟨g, 0, none⟩) es.length c ∧ g < w.heap.size ∧ base ≤ g ∧ k < es.length ∧
      w.cell? ⟨g, k * 6, none⟩ = some (.int .i64 x.vol) ∧ w.cell? ⟨g, k * 6 + 1, none⟩ = some (.int .i64 x.epoch) ∧ w.cell? ⟨g, k * 6 + 2, none⟩ = some (.int .i64 x.n0) ∧
      w.cell? ⟨g, k * 6 + 3, none⟩ = some (.int .i64 x.n1) ∧ w.cell? ⟨g, k * 6 + 4, none⟩ = some (.int .i64 x.n2) ∧ w.cell? ⟨g, k * 6 + 5, none⟩ = some (.bool x.shut) := by
  have hk : k < es.length := (List.getElem?_eq_some_iff.1 hx).1
  have hlt := hr.lt
  rcases hr.2 with ⟨_, hz⟩ | ⟨g, cap, cur, rfl, hg, _⟩
  · omega
  · have hg1 := hlt g rfl
    have hc := fun j hj => ownsRow_cell Ent.row 6 Ent.row_len es hr k j x hx hj
    refine ⟨g, cap, rfl, hg1.2, hg1.1, hk, ?_, ?_, ?_, ?_, ?_, ?_⟩
    · simpa [Ent.row] using hc 0 (by omega)
    · simpa [Ent.row] using hc 1 (by omega)
    · simpa [Ent.row] using hc 2 (by omega)
    · simpa [Ent.row] using hc 3 (by omega)
    · simpa [Ent.row] using hc 4 (by omega)
    · simpa [Ent.row] using hc 5 (by omega)
set_option maxRecDepth 100000 in
set_option maxHeartbeats 2000000 in
theorem ref_full (base : Nat) (v : Value) (es : List Ent) (c : Cmd) (w : World) (h : w.ownsRow base 128 6 v es.length (es.flatMap Ent.row)) (hk : c.kind = 1) (ht : threeB c.n0 c.n1 c.n2 = true) (hl : 4096 ≤ es.length) :
    Calls Try.prog 39 #[v, .agg #[.int .i64 c.kind, .int .i64 c.vol, .int .i64 c.epoch, .int .i64 c.spot, .int .i64 c.node, .int .i64 c.n0, .int .i64 c.n1, .int .i64 c.n2]] w
      (RefOut w base es 0 11) := by
  have H := Lib.hid h
  obtain ⟨a, cap, rfl⟩ := ownsRow_len h
  clear h
  obtain ⟨k, cv, ce, cs, cn, c0, c1, c2⟩ := c
  have hk' : k = 1 := hk
  subst hk'
  clear hk
  obtain ⟨ha, hb, hc, h1, h2, h3⟩ := three_yes ht
  clear ht
  simp only at ha hb hc h1 h2 h3
  have hl' : (4096 : Int) ≤ (es.length : Int) := by omega
  generalize hn : es.length = n at *
  have HN := Lib.hid hn
  clear hn
  go_enter Try.func39, Try.ntmps39
  go_wp2_with fail
  refine wp_region_now0 [2, 5, 8] [(0, 0), (1, 0), (2, 2), (3, 0), (4, 0), (5, 2), (6, 0), (7, 0), (8, 2), (9, 0), (10, 0), (11, 0)] (by kernel_rfl) (by kernel_rfl) rfl (by kernel_rfl) ?_
  refine stepE0 rfl rfl (fun K hK => ?_)
  go_simp
  refine hK _ ?_
  clear hK K
  refine stepE0 rfl rfl (fun K hK => ?_)
  go_simp
  refine hK _ ?_
  clear hK K
  refine stepE2 rfl rfl ?_ (fun w1 hS => ?_) (fun K hK => ?_)
  rotate_left
  focus (obtain rfl : w1 = _ := hS; go_simp; rfl)
  go_simp
  refine hK _ ?_
  clear hK K
  refine stepE0 rfl rfl (fun K hK => ?_)
  go_simp
  refine hK _ ?_
  clear hK K
  refine stepE0 rfl rfl (fun K hK => ?_)
  go_simp
  refine hK _ ?_
  clear hK K
  refine stepE2 rfl rfl ?_ (fun w1 hS => ?_) (fun K hK => ?_)
  rotate_left
  focus (obtain rfl : w1 = _ := hS; go_simp; rfl)
  go_simp
  refine hK _ ?_
  clear hK K
  refine stepE0 rfl rfl (fun K hK => ?_)
  go_simp
  refine hK _ ?_
  clear hK K
  refine stepE0 rfl rfl (fun K hK => ?_)
  go_simp
  refine hK _ ?_
  clear hK K
  refine stepE2 rfl rfl ?_ (fun w1 hS => ?_) (fun K hK => ?_)
  rotate_left
  focus (obtain rfl : w1 = _ := hS; go_simp; rfl)
  go_simp
  refine hK _ ?_
  clear hK K
  refine stepE0 rfl rfl (fun K hK => ?_)
  go_simp
  refine hK _ ?_
  clear hK K
  refine stepE0 rfl rfl (fun K hK => ?_)
  go_simp
  refine hK _ ?_
  clear hK K
  refine stepE0 rfl rfl (fun K hK => ?_)
  go_simp
  refine hK _ ?_
  clear hK K
  try refine stepEnil0 ?_
  go_wp2_with (go_at_call 69; refine (near_any _ _).mono ?_; rintro e w' ⟨rfl, rfl⟩; simp only [ha, hb, hc])
  go_ret3
  refine RefOut.same (v := .slice a n cap) (by rw [HN.out]; exact H.out) (by repeat (first | (with_reducible exact Below.refl _ _) | (with_reducible refine Below.setCell ?_ ?_ _) | (with_reducible refine Below.alloc ?_ ?_ _) | (with_reducible refine Below.drewN ?_ _) | (with_reducible refine Below.drew ?_) | (with_reducible exact Nat.le_refl _) | (focus (simp only [World.size_alloc, World.size_setCell, World.size_drew, World.size_drewN]; omega)) | omega | exact Nat.le_refl _ | (focus (simp; done)) | (focus (simp; omega))))
set_option maxRecDepth 100000 in
set_option maxHeartbeats 2000000 in
theorem ref_none (base : Nat) (v : Value) (es : List Ent) (c : Cmd) (w : World) (h : w.ownsRow base 128 6 v es.length (es.flatMap Ent.row)) (hk : 2 ≤ c.kind) (hk2 : c.kind ≤ 4) (hv : c.vol < 1 ∨ (es.length : Int) < c.vol) :
    Calls Try.prog 39 #[v, .agg #[.int .i64 c.kind, .int .i64 c.vol, .int .i64 c.epoch, .int .i64 c.spot, .int .i64 c.node, .int .i64 c.n0, .int .i64 c.n1, .int .i64 c.n2]] w
      (RefOut w base es 0 6) := by
  have H := Lib.hid h
  obtain ⟨a, cap, rfl⟩ := ownsRow_len h
  clear h
  obtain ⟨k, cv, ce, cs, cn, c0, c1, c2⟩ := c
  have d1 : decide (k < 1) = false := by have : 2 ≤ k := hk; simp; omega
  have d2 : decide (4 < k) = false := by have : k ≤ 4 := hk2; simp; omega
  have d3 : (k == 1) = false := by have : 2 ≤ k := hk; simp; omega
  clear hk hk2
  have hv' : cv < 1 ∨ (es.length : Int) < cv := hv
  clear hv
  by_cases h1 : cv < 1
  · clear hv'
    go_enter Try.func39, Try.ntmps39
    go_wp2_with fail
    refine wp_region_now0 [2, 5, 8] [(0, 0), (1, 0), (2, 2), (3, 0), (4, 0), (5, 2), (6, 0), (7, 0), (8, 2), (9, 0), (10, 0), (11, 0)] (by kernel_rfl) (by kernel_rfl) rfl (by kernel_rfl) ?_
    refine stepE0 rfl rfl (fun K hK => ?_)
    go_simp
    refine hK _ ?_
    clear hK K
    refine stepE0 rfl rfl (fun K hK => ?_)
    go_simp
    refine hK _ ?_
    clear hK K
    refine stepE2 rfl rfl ?_ (fun w1 hS => ?_) (fun K hK => ?_)
    rotate_left
    focus (obtain rfl : w1 = _ := hS; go_simp; rfl)
    go_simp
    refine hK _ ?_
    clear hK K
    refine stepE0 rfl rfl (fun K hK => ?_)
    go_simp
    refine hK _ ?_
    clear hK K
    refine stepE0 rfl rfl (fun K hK => ?_)
    go_simp
    refine hK _ ?_
    clear hK K
    refine stepE2 rfl rfl ?_ (fun w1 hS => ?_) (fun K hK => ?_)
    rotate_left
    focus (obtain rfl : w1 = _ := hS; go_simp; rfl)
    go_simp
    refine hK _ ?_
    clear hK K
    refine stepE0 rfl rfl (fun K hK => ?_)
    go_simp
    refine hK _ ?_
    clear hK K
    refine stepE0 rfl rfl (fun K hK => ?_)
    go_simp
    refine hK _ ?_
    clear hK K
    refine stepE2 rfl rfl ?_ (fun w1 hS => ?_) (fun K hK => ?_)
    rotate_left
    focus (obtain rfl : w1 = _ := hS; go_simp; rfl)
    go_simp
    refine hK _ ?_
    clear hK K
    refine stepE0 rfl rfl (fun K hK => ?_)
    go_simp
    refine hK _ ?_
    clear hK K
    refine stepE0 rfl rfl (fun K hK => ?_)
    go_simp
    refine hK _ ?_
    clear hK K
    refine stepE0 rfl rfl (fun K hK => ?_)
    go_simp
    refine hK _ ?_
    clear hK K
    try refine stepEnil0 ?_
    go_wp2_with fail
    go_ret3
    exact RefOut.same H.out (by repeat (first | (with_reducible exact Below.refl _ _) | (with_reducible refine Below.setCell ?_ ?_ _) | (with_reducible refine Below.alloc ?_ ?_ _) | (with_reducible refine Below.drewN ?_ _) | (with_reducible refine Below.drew ?_) | (with_reducible exact Nat.le_refl _) | (focus (simp only [World.size_alloc, World.size_setCell, World.size_drew, World.size_drewN]; omega)) | omega | exact Nat.le_refl _ | (focus (simp; done)) | (focus (simp; omega))))
  · have h2 : (es.length : Int) < cv := by omega
    have h1' : decide (cv < 1) = false := by simpa using h1
    clear hv' h1
    go_enter Try.func39, Try.ntmps39
    go_wp2_with fail
    refine wp_region_now0 [2, 5, 8] [(0, 0), (1, 0), (2, 2), (3, 0), (4, 0), (5, 2), (6, 0), (7, 0), (8, 2), (9, 0), (10, 0), (11, 0)] (by kernel_rfl) (by kernel_rfl) rfl (by kernel_rfl) ?_
    refine stepE0 rfl rfl (fun K hK => ?_)
    go_simp
    refine hK _ ?_
    clear hK K
    refine stepE0 rfl rfl (fun K hK => ?_)
    go_simp
    refine hK _ ?_
    clear hK K
    refine stepE2 rfl rfl ?_ (fun w1 hS => ?_) (fun K hK => ?_)
    rotate_left
    focus (obtain rfl : w1 = _ := hS; go_simp; rfl)
    go_simp
    refine hK _ ?_
    clear hK K
    refine stepE0 rfl rfl (fun K hK => ?_)
    go_simp
    refine hK _ ?_
    clear hK K
    refine stepE0 rfl rfl (fun K hK => ?_)
    go_simp
    refine hK _ ?_
    clear hK K
    refine stepE2 rfl rfl ?_ (fun w1 hS => ?_) (fun K hK => ?_)
    rotate_left
    focus (obtain rfl : w1 = _ := hS; go_simp; rfl)
    go_simp
    refine hK _ ?_
    clear hK K
    refine stepE0 rfl rfl (fun K hK => ?_)
    go_simp
    refine hK _ ?_
    clear hK K
    refine stepE0 rfl rfl (fun K hK => ?_)
    go_simp
    refine hK _ ?_
    clear hK K
    refine stepE2 rfl rfl ?_ (fun w1 hS => ?_) (fun K hK => ?_)
    rotate_left
    focus (obtain rfl : w1 = _ := hS; go_simp; rfl)
    go_simp
    refine hK _ ?_
    clear hK K
    refine stepE0 rfl rfl (fun K hK => ?_)
    go_simp
    refine hK _ ?_
    clear hK K
    refine stepE0 rfl rfl (fun K hK => ?_)
    go_simp
    refine hK _ ?_
    clear hK K
    refine stepE0 rfl rfl (fun K hK => ?_)
    go_simp
    refine hK _ ?_
    clear hK K
    try refine stepEnil0 ?_
    go_wp2_with fail
    go_ret3
    exact RefOut.same H.out (by repeat (first | (with_reducible exact Below.refl _ _) | (with_reducible refine Below.setCell ?_ ?_ _) | (with_reducible refine Below.alloc ?_ ?_ _) | (with_reducible refine Below.drewN ?_ _) | (with_reducible refine Below.drew ?_) | (with_reducible exact Nat.le_refl _) | (focus (simp only [World.size_alloc, World.size_setCell, World.size_drew, World.size_drewN]; omega)) | omega | exact Nat.le_refl _ | (focus (simp; done)) | (focus (simp; omega))))
set_option maxRecDepth 100000 in
set_option maxHeartbeats 2000000 in
theorem ref_stale (base : Nat) (v : Value) (es : List Ent) (c : Cmd) (j : Nat) (x : Ent) (w : World) (h : w.ownsRow base 128 6 v es.length (es.flatMap Ent.row)) (hk : 2 ≤ c.kind) (hk2 : c.kind ≤ 4) (hv : c.vol = (j : Int) + 1) (hx : es[j]? = some x) (hne : x.epoch ≠ c.epoch) :
    Calls Try.prog 39 #[v, .agg #[.int .i64 c.kind, .int .i64 c.vol, .int .i64 c.epoch, .int .i64 c.spot, .int .i64 c.node, .int .i64 c.n0, .int .i64 c.n1, .int .i64 c.n2]] w
      (RefOut w base es 0 13) := by
  have H := Lib.hid h
  obtain ⟨g, cap, rfl, hg, hgb, hj, q0, q1, q2, q3, q4, q5⟩ := row_ent19 h j x hx
  clear h hx
  obtain ⟨k, cv, ce, cs, cn, c0, c1, c2⟩ := c
  obtain ⟨xv, xe, x0, x1, x2, xs⟩ := x
  have d1 : decide (k < 1) = false := by have : 2 ≤ k := hk; simp; omega
  have d2 : decide (4 < k) = false := by have : k ≤ 4 := hk2; simp; omega
  have d3 : (k == 1) = false := by have : 2 ≤ k := hk; simp; omega
  clear hk hk2
  have hv' : cv = (j : Int) + 1 := hv
  clear hv
  subst hv'
  have d4 : (xe != ce) = true := by have : xe ≠ ce := hne; simpa using this
  clear hne
  have hle : es.length ≤ maxLen := (reads_of_owns H.out).2.elim (fun h => by have := h.2; omega) (fun ⟨_, _, _, h, _⟩ => h)
  have hle' : es.length ≤ 9223372036854775807 := hle
  have e1 : IntKind.i64.wrap ((j : Int) + 1 - 1) = (j : Int) := by rw [show (j : Int) + 1 - 1 = j by omega]; exact IntWalk.i64_in _ (by omega)
  go_enter Try.func39, Try.ntmps39
  go_wp2_with fail
  refine wp_region_now0 [2, 5, 8] [(0, 0), (1, 0), (2, 2), (3, 0), (4, 0), (5, 2), (6, 0), (7, 0), (8, 2), (9, 0), (10, 0), (11, 0)] (by kernel_rfl) (by kernel_rfl) rfl (by kernel_rfl) ?_
  refine stepE0 rfl rfl (fun K hK => ?_)
  go_simp
  refine hK _ ?_
  clear hK K
  refine stepE0 rfl rfl (fun K hK => ?_)
  go_simp
  refine hK _ ?_
  clear hK K
  refine stepE2 rfl rfl ?_ (fun w1 hS => ?_) (fun K hK => ?_)
  rotate_left
  focus (obtain rfl : w1 = _ := hS; go_simp; rfl)
  go_simp
  refine hK _ ?_
  clear hK K
  refine stepE0 rfl rfl (fun K hK => ?_)
  go_simp
  refine hK _ ?_
  clear hK K
  refine stepE0 rfl rfl (fun K hK => ?_)
  go_simp
  refine hK _ ?_
  clear hK K
  refine stepE2 rfl rfl ?_ (fun w1 hS => ?_) (fun K hK => ?_)
  rotate_left
  focus (obtain rfl : w1 = _ := hS; go_simp; rfl)
  go_simp
  refine hK _ ?_
  clear hK K
  refine stepE0 rfl rfl (fun K hK => ?_)
  go_simp
  refine hK _ ?_
  clear hK K
  refine stepE0 rfl rfl (fun K hK => ?_)
  go_simp
  refine hK _ ?_
  clear hK K
  refine stepE2 rfl rfl ?_ (fun w1 hS => ?_) (fun K hK => ?_)
  rotate_left
  focus (obtain rfl : w1 = _ := hS; go_simp; rfl)
  go_simp
  refine hK _ ?_
  clear hK K
  refine stepE0 rfl rfl (fun K hK => ?_)
  go_simp
  refine hK _ ?_
  clear hK K
  refine stepE0 rfl rfl (fun K hK => ?_)
  go_simp
  refine hK _ ?_
  clear hK K
  refine stepE0 rfl rfl (fun K hK => ?_)
  go_simp
  refine hK _ ?_
  clear hK K
  try refine stepEnil0 ?_
  go_wp2_with fail
  go_ret3
  exact RefOut.same H.out (by repeat (first | (with_reducible exact Below.refl _ _) | (with_reducible refine Below.setCell ?_ ?_ _) | (with_reducible refine Below.alloc ?_ ?_ _) | (with_reducible refine Below.drewN ?_ _) | (with_reducible refine Below.drew ?_) | (with_reducible exact Nat.le_refl _) | (focus (simp only [World.size_alloc, World.size_setCell, World.size_drew, World.size_drewN]; omega)) | omega | exact Nat.le_refl _ | (focus (simp; done)) | (focus (simp; omega))))
end Go.Proofs.Ytigkcbnlbdiimaa

/- corncribref19.Do: the errors of a volume that is there. -/
namespace Go.Proofs.Ytigkcbnlbdiimaa
open Go.RowKit
theorem err_ways {x : Ent} {c : Cmd} (hk : 2 ≤ c.kind) (hk2 : c.kind ≤ 4) (h : turnE x c ≠ 0) :
    (c.kind = 2 ∧ x.shut = true ∧ turnE x c = 10) ∨ (c.kind = 3 ∧ x.shut = false ∧ turnE x c = 8) ∨
    (c.kind = 4 ∧ decide (c.spot < 0) = true ∧ turnE x c = 1) ∨ (c.kind = 4 ∧ decide (c.spot < 0) = false ∧ decide (2 < c.spot) = true ∧ turnE x c = 1) ∨
    (c.kind = 4 ∧ decide (c.spot < 0) = false ∧ decide (2 < c.spot) = false ∧ placeB c.node = false ∧ turnE x c = 1) ∨
    (c.kind = 4 ∧ decide (c.spot < 0) = false ∧ decide (2 < c.spot) = false ∧ placeB c.node = true ∧ (x.n0 == c.node) = true ∧ turnE x c = 8) ∨
    (c.kind = 4 ∧ decide (c.spot < 0) = false ∧ decide (2 < c.spot) = false ∧ placeB c.node = true ∧ (x.n0 == c.node) = false ∧ (x.n1 == c.node) = true ∧ turnE x c = 8) ∨
    (c.kind = 4 ∧ decide (c.spot < 0) = false ∧ decide (2 < c.spot) = false ∧ placeB c.node = true ∧ (x.n0 == c.node) = false ∧ (x.n1 == c.node) = false ∧ (x.n2 == c.node) = true ∧ turnE x c = 8) := by
  by_cases h2 : c.kind = 2
  · left
    cases hs : x.shut
    · simp [turnE, h2, hs] at h
    · exact ⟨h2, rfl, by simp [turnE, h2, hs]⟩
  by_cases h3 : c.kind = 3
  · right; left
    cases hs : x.shut
    · exact ⟨h3, rfl, by simp [turnE, h3, hs]⟩
    · simp [turnE, h3, hs] at h
  have h4 : c.kind = 4 := by omega
  right; right
  have e : turnE x c = errNode x c := by simp [turnE, h4]
  rw [e] at h ⊢
  unfold errNode at h ⊢
  by_cases a1 : c.spot < 0
  · left; exact ⟨h4, by simpa using a1, by rw [if_pos (.inl a1)]⟩
  by_cases a2 : 2 < c.spot
  · right; left; exact ⟨h4, by simpa using a1, by simpa using a2, by rw [if_pos (.inr (.inl (by omega)))]⟩
  right; right
  cases a3 : placeB c.node
  · left; exact ⟨h4, by simpa using a1, by simpa using a2, rfl, by rw [if_pos (.inr (.inr rfl))]⟩
  right
  rw [a3] at h
  rw [if_neg (by intro h'; rcases h' with h' | h' | h' <;> first | omega | cases h')] at h ⊢
  by_cases b0 : x.n0 = c.node
  · left; exact ⟨h4, by simpa using a1, by simpa using a2, rfl, by simpa using b0, by rw [if_pos (.inl b0)]⟩
  by_cases b1 : x.n1 = c.node
  · right; left; exact ⟨h4, by simpa using a1, by simpa using a2, rfl, by simpa using b0, by simpa using b1, by rw [if_pos (.inr (.inl b1))]⟩
  by_cases b2 : x.n2 = c.node
  · right; right; exact ⟨h4, by simpa using a1, by simpa using a2, rfl, by simpa using b0, by simpa using b1, by simpa using b2, by rw [if_pos (.inr (.inr b2))]⟩
  · rw [if_neg (by rintro (h' | h' | h'); exact b0 h'; exact b1 h'; exact b2 h')] at h
    exact absurd rfl h
set_option maxRecDepth 100000 in
set_option maxHeartbeats 4000000 in
theorem ref_err (base : Nat) (v : Value) (es : List Ent) (c : Cmd) (j : Nat) (x : Ent) (w : World) (h : w.ownsRow base 128 6 v es.length (es.flatMap Ent.row)) (hk : 2 ≤ c.kind) (hk2 : c.kind ≤ 4) (hv : c.vol = (j : Int) + 1) (hx : es[j]? = some x) (he : x.epoch = c.epoch) (ht : turnE x c ≠ 0) :
    Calls Try.prog 39 #[v, .agg #[.int .i64 c.kind, .int .i64 c.vol, .int .i64 c.epoch, .int .i64 c.spot, .int .i64 c.node, .int .i64 c.n0, .int .i64 c.n1, .int .i64 c.n2]] w
      (RefOut w base es 0 (turnE x c)) := by
  have hw := err_ways hk hk2 ht
  clear ht hk hk2
  generalize turnE x c = r at *
  have H := Lib.hid h
  obtain ⟨g, cap, rfl, hg, hgb, hj, q0, q1, q2, q3, q4, q5⟩ := row_ent19 h j x hx
  clear h hx
  obtain ⟨k, cv, ce, cs, cn, c0, c1, c2⟩ := c
  obtain ⟨xv, xe, x0, x1, x2, xs⟩ := x
  have hv' : cv = (j : Int) + 1 := hv
  clear hv
  subst hv'
  have he' : xe = ce := he
  clear he
  subst he'
  have hle : es.length ≤ maxLen := (reads_of_owns H.out).2.elim (fun h => by have := h.2; omega) (fun ⟨_, _, _, h, _⟩ => h)
  have hle' : es.length ≤ 9223372036854775807 := hle
  have e1 : IntKind.i64.wrap ((j : Int) + 1 - 1) = (j : Int) := by rw [show (j : Int) + 1 - 1 = j by omega]; exact IntWalk.i64_in _ (by omega)
  simp only at hw q0 q1 q2 q3 q4 q5
  rcases hw with ⟨rfl, rfl, rfl⟩ | ⟨rfl, rfl, rfl⟩ | ⟨rfl, d1, rfl⟩ | ⟨rfl, d1, d2, rfl⟩ | ⟨rfl, d1, d2, d3, rfl⟩ | ⟨rfl, d1, d2, d3, d4, rfl⟩ | ⟨rfl, d1, d2, d3, d4, d5, rfl⟩ | ⟨rfl, d1, d2, d3, d4, d5, d6, rfl⟩
  all_goals
    go_enter Try.func39, Try.ntmps39
    go_wp2_with fail
    refine wp_region_now0 [2, 5, 8] [(0, 0), (1, 0), (2, 2), (3, 0), (4, 0), (5, 2), (6, 0), (7, 0), (8, 2), (9, 0), (10, 0), (11, 0)] (by kernel_rfl) (by kernel_rfl) rfl (by kernel_rfl) ?_
    refine stepE0 rfl rfl (fun K hK => ?_)
    go_simp
    refine hK _ ?_
    clear hK K
    refine stepE0 rfl rfl (fun K hK => ?_)
    go_simp
    refine hK _ ?_
    clear hK K
    refine stepE2 rfl rfl ?_ (fun w1 hS => ?_) (fun K hK => ?_)
    rotate_left
    focus (obtain rfl : w1 = _ := hS; go_simp; rfl)
    go_simp
    refine hK _ ?_
    clear hK K
    refine stepE0 rfl rfl (fun K hK => ?_)
    go_simp
    refine hK _ ?_
    clear hK K
    refine stepE0 rfl rfl (fun K hK => ?_)
    go_simp
    refine hK _ ?_
    clear hK K
    refine stepE2 rfl rfl ?_ (fun w1 hS => ?_) (fun K hK => ?_)
    rotate_left
    focus (obtain rfl : w1 = _ := hS; go_simp; rfl)
    go_simp
    refine hK _ ?_
    clear hK K
    refine stepE0 rfl rfl (fun K hK => ?_)
    go_simp
    refine hK _ ?_
    clear hK K
    refine stepE0 rfl rfl (fun K hK => ?_)
    go_simp
    refine hK _ ?_
    clear hK K
    refine stepE2 rfl rfl ?_ (fun w1 hS => ?_) (fun K hK => ?_)
    rotate_left
    focus (obtain rfl : w1 = _ := hS; go_simp; rfl)
    go_simp
    refine hK _ ?_
    clear hK K
    refine stepE0 rfl rfl (fun K hK => ?_)
    go_simp
    refine hK _ ?_
    clear hK K
    refine stepE0 rfl rfl (fun K hK => ?_)
    go_simp
    refine hK _ ?_
    clear hK K
    refine stepE0 rfl rfl (fun K hK => ?_)
    go_simp
    refine hK _ ?_
    clear hK K
    try refine stepEnil0 ?_
    go_wp2_with (go_at_call 69; refine (near_any _ _).mono ?_; rintro e w' ⟨rfl, rfl⟩; simp only [d3])
    go_ret3
    exact RefOut.same H.out (by repeat (first | (with_reducible exact Below.refl _ _) | (with_reducible refine Below.setCell ?_ ?_ _) | (with_reducible refine Below.alloc ?_ ?_ _) | (with_reducible refine Below.drewN ?_ _) | (with_reducible refine Below.drew ?_) | (with_reducible exact Nat.le_refl _) | (focus (simp only [World.size_alloc, World.size_setCell, World.size_drew, World.size_drewN]; omega)) | omega | exact Nat.le_refl _ | (focus (simp; done)) | (focus (simp; omega))))
end Go.Proofs.Ytigkcbnlbdiimaa

/- corncribref19.Do: what changes a volume. -/
namespace Go.Proofs.Ytigkcbnlbdiimaa
open Go.RowKit
theorem entry19_info : (Try.prog.info? 128).map (fun i => (i.zero, i.size, i.bytes)) = some (some (.agg #[.int .i64 0, .int .i64 0, .int .i64 0, .int .i64 0, .int .i64 0, .bool false]), 6, 48) := by kernel_rfl
theorem RefOut.put {w W0 W : World} {base gg cap j : Nat} {es : List Ent} (y : Ent) (n : Int) (hW : W = (setCellsAt W0 gg (j * 6) y.row).drew)
    (h : W0.ownsRow base 128 6 (.slice (some ⟨gg, 0, none⟩) es.length cap) es.length (es.flatMap Ent.row)) (hb : Below w.heap.size w W0) (hj : j < es.length) (hg : w.heap.size ≤ gg) (hn : n = y.epoch) :
    RefOut w base (es.set j y) n 0 (.returned (.tuple #[.slice (some ⟨gg, 0, none⟩) es.length cap, .int .i64 n, .int .i64 0])) W := by
  subst hn
  have hk := setCellsAt_keeps gg y.row (j * 6) W0
  have hr := ownsRow_struct Ent.row 6 Ent.row_len es j y hj h
  generalize setCellsAt W0 gg (j * 6) y.row = X at *
  subst hW
  refine ⟨_, rfl, ?_, (hb.trans (hk.below (B := w.heap.size) hb.size (fun k e => by rw [e]; exact hg))).drew⟩
  rw [List.length_set]
  exact hr.drew
theorem lit_at {w : World} {base k : Nat} (hk : w.heap.size = k) (hb : base ≤ k) : (w.alloc (.cells #[] 128)).ownsRow base 128 6 (.slice (some ⟨k, 0, none⟩) 0 0) 0 [] := by
  subst hk
  exact World.ownsRow_lit w #[] 0 hb (by unfold maxLen; omega) rfl
theorem turn_ways {x : Ent} {c : Cmd} (hk : 2 ≤ c.kind) (hk2 : c.kind ≤ 4) (h : turnE x c = 0) :
    (c.kind = 2 ∧ x.shut = false ∧ turnX x c = ⟨x.vol, wrapI (x.epoch + 1), x.n0, x.n1, x.n2, true⟩) ∨ (c.kind = 3 ∧ x.shut = true ∧ turnX x c = ⟨x.vol, wrapI (x.epoch + 1), x.n0, x.n1, x.n2, false⟩) ∨
    (c.kind = 4 ∧ placeB c.node = true ∧ (x.n0 == c.node) = false ∧ (x.n1 == c.node) = false ∧ (x.n2 == c.node) = false ∧
      ((c.spot = 0 ∧ turnX x c = ⟨x.vol, wrapI (x.epoch + 1), c.node, x.n1, x.n2, x.shut⟩) ∨ (c.spot = 1 ∧ turnX x c = ⟨x.vol, wrapI (x.epoch + 1), x.n0, c.node, x.n2, x.shut⟩) ∨ (c.spot = 2 ∧ turnX x c = ⟨x.vol, wrapI (x.epoch + 1), x.n0, x.n1, c.node, x.shut⟩))) := by
  by_cases h2 : c.kind = 2
  · left
    cases hs : x.shut
    · exact ⟨h2, rfl, by simp [turnX, h2]⟩
    · simp [turnE, h2, hs] at h
  by_cases h3 : c.kind = 3
  · right; left
    cases hs : x.shut
    · simp [turnE, h3, hs] at h
    · exact ⟨h3, rfl, by simp [turnX, h3]⟩
  have h4 : c.kind = 4 := by omega
  right; right
  have e : turnE x c = errNode x c := by simp [turnE, h4]
  rw [e] at h
  unfold errNode at h
  by_cases a1 : c.spot < 0 ∨ 3 ≤ c.spot ∨ placeB c.node = false
  · rw [if_pos a1] at h; cases h
  rw [if_neg a1] at h
  by_cases b0 : x.n0 = c.node ∨ x.n1 = c.node ∨ x.n2 = c.node
  · rw [if_pos b0] at h; cases h
  have hp : placeB c.node = true := by
    cases hp : placeB c.node
    · exact absurd (.inr (.inr hp)) a1
    · rfl
  have n0 : x.n0 ≠ c.node := fun e => b0 (.inl e)
  have n1 : x.n1 ≠ c.node := fun e => b0 (.inr (.inl e))
  have n2 : x.n2 ≠ c.node := fun e => b0 (.inr (.inr e))
  have l0 : ¬ c.spot < 0 := fun e => a1 (.inl e)
  have l3 : ¬ 3 ≤ c.spot := fun e => a1 (.inr (.inl e))
  refine ⟨h4, hp, by simpa using n0, by simpa using n1, by simpa using n2, ?_⟩
  by_cases s0 : c.spot = 0
  · left; exact ⟨s0, by simp [turnX, h4, s0]⟩
  by_cases s1 : c.spot = 1
  · right; left; exact ⟨s1, by simp [turnX, h4, s1]⟩
  · have s2 : c.spot = 2 := by omega
    right; right; exact ⟨s2, by simp [turnX, h4, s2]⟩
set_option maxRecDepth 100000 in
set_option maxHeartbeats 4000000 in
theorem ref_turn (base : Nat) (v : Value) (es : List Ent) (c : Cmd) (j : Nat) (x : Ent) (w : World) (h : w.ownsRow base 128 6 v es.length (es.flatMap Ent.row)) (hk : 2 ≤ c.kind) (hk2 : c.kind ≤ 4) (hv : c.vol = (j : Int) + 1) (hx : es[j]? = some x) (he : x.epoch = c.epoch) (ht : turnE x c = 0) (hl : es.length ≤ 100000) :
    Calls Try.prog 39 #[v, .agg #[.int .i64 c.kind, .int .i64 c.vol, .int .i64 c.epoch, .int .i64 c.spot, .int .i64 c.node, .int .i64 c.n0, .int .i64 c.n1, .int .i64 c.n2]] w
      (RefOut w base (es.set j (turnX x c)) (turnX x c).epoch 0) := by
  have hw := turn_ways hk hk2 ht
  clear ht hk hk2
  generalize turnX x c = y at *
  obtain ⟨i0, hi, hz0, hz1, hz2⟩ := info_parts entry19_info
  have HI := Lib.hid hi
  have HZ0 := Lib.hid hz0
  have HZ1 := Lib.hid hz1
  have HZ2 := Lib.hid hz2
  clear hi hz0 hz1 hz2
  have H := Lib.hid h
  obtain ⟨g, cap, rfl, hg, hgb, hj, q0, q1, q2, q3, q4, q5⟩ := row_ent19 h j x hx
  have HX := Lib.hid hx
  clear h hx
  obtain ⟨k, cv, ce, cs, cn, c0, c1, c2⟩ := c
  obtain ⟨xv, xe, x0, x1, x2, xs⟩ := x
  have hv' : cv = (j : Int) + 1 := hv
  clear hv
  subst hv'
  have he' : xe = ce := he
  clear he
  subst he'
  have e1 : IntKind.i64.wrap ((j : Int) + 1 - 1) = (j : Int) := by rw [show (j : Int) + 1 - 1 = j by omega]; exact IntWalk.i64_in _ (by omega)
  simp only at hw q0 q1 q2 q3 q4 q5
  rcases hw with ⟨rfl, rfl, rfl⟩ | ⟨rfl, rfl, rfl⟩ | ⟨rfl, d3, d4, d5, d6, ⟨rfl, rfl⟩ | ⟨rfl, rfl⟩ | ⟨rfl, rfl⟩⟩
  all_goals
    go_enter Try.func39, Try.ntmps39
    go_wp2_with fail
    refine wp_region_now0 [2, 5, 8] [(0, 0), (1, 0), (2, 2), (3, 0), (4, 0), (5, 2), (6, 0), (7, 0), (8, 2), (9, 0), (10, 0), (11, 0)] (by kernel_rfl) (by kernel_rfl) rfl (by kernel_rfl) ?_
    refine stepE0 rfl rfl (fun K hK => ?_)
    go_simp
    refine hK _ ?_
    clear hK K
    refine stepE0 rfl rfl (fun K hK => ?_)
    go_simp
    refine hK _ ?_
    clear hK K
    refine stepE2 rfl rfl ?_ (fun w1 hS => ?_) (fun K hK => ?_)
    rotate_left
    focus (obtain rfl : w1 = _ := hS; go_simp; rfl)
    go_simp
    refine hK _ ?_
    clear hK K
    refine stepE0 rfl rfl (fun K hK => ?_)
    go_simp
    refine hK _ ?_
    clear hK K
    refine stepE0 rfl rfl (fun K hK => ?_)
    go_simp
    refine hK _ ?_
    clear hK K
    refine stepE2 rfl rfl ?_ (fun w1 hS => ?_) (fun K hK => ?_)
    rotate_left
    focus (obtain rfl : w1 = _ := hS; go_simp; rfl)
    go_simp
    refine hK _ ?_
    clear hK K
    refine stepE0 rfl rfl (fun K hK => ?_)
    go_simp
    refine hK _ ?_
    clear hK K
    refine stepE0 rfl rfl (fun K hK => ?_)
    go_simp
    refine hK _ ?_
    clear hK K
    refine stepE2 rfl rfl ?_ (fun w1 hS => ?_) (fun K hK => ?_)
    rotate_left
    focus (obtain rfl : w1 = _ := hS; go_simp; rfl)
    go_simp
    refine hK _ ?_
    clear hK K
    refine stepE0 rfl rfl (fun K hK => ?_)
    go_simp
    refine hK _ ?_
    clear hK K
    refine stepE0 rfl rfl (fun K hK => ?_)
    go_simp
    refine hK _ ?_
    clear hK K
    refine stepE0 rfl rfl (fun K hK => ?_)
    go_simp
    refine hK _ ?_
    clear hK K
    try refine stepEnil0 ?_
    go_wp2_with (first
      | (go_at_call 69; refine (near_any _ _).mono ?_; rintro e w' ⟨rfl, rfl⟩; simp only [d3])
      | (at_builtin; refine wpList_append_lies _ rfl _ _ 72 rfl base 128 i0 (.agg #[.int .i64 0, .int .i64 0, .int .i64 0, .int .i64 0, .int .i64 0, .bool false]) 6 48 Try.underlying72 HI.out HZ0.out HZ1.out HZ2.out rfl (by decide) (.slice (some ⟨w.heap.size + 2, 0, none⟩) 0 0) 0 [] rfl (lit_at (by simp) (by omega)) ⟨g, 0, none⟩ es.length cap (es.flatMap Ent.row) rfl H.out.1 (fun j u hu => cell_later (by repeat (first | (with_reducible exact Below.refl _ _) | (with_reducible refine Below.setCell ?_ ?_ _) | (with_reducible refine Below.alloc ?_ ?_ _) | (with_reducible refine Below.drewN ?_ _) | (with_reducible refine Below.drew ?_) | (with_reducible exact Nat.le_refl _) | (focus (simp only [World.size_alloc, World.size_setCell, World.size_drew, World.size_drewN]; omega)) | omega | exact Nat.le_refl _ | (focus (simp; done)) | (focus (simp; omega)))) (H.out.cells (g := g) rfl j u hu)) (Ent.one es) (by omega) (by unfold maxLen; omega) (by omega) (by simp; omega) _ rfl ?_; intro gg cap2 w2 hown hgrow hat hlt2; have kc := fun (o : Nat) => grown_cell (b := w.heap.size) (o := o) hgrow (by simp; omega) (by simp [Value.ownBlock]); have kx := fun (o : Nat) => grown_cell (b := w.heap.size + 1) (o := o) hgrow (by simp) (by simp [Value.ownBlock]); have kf := fun (o : Nat) => hown.frozenAt o; have hown' : w2.ownsRow base 128 6 (.slice (some ⟨gg, 0, none⟩) es.length cap2) es.length (es.flatMap Ent.row) := (by simpa using hown); obtain ⟨g3, c3, e3, hg3, _, _, s0, s1, s2, s3, s4, s5⟩ := row_ent19 hown' j _ HX.out; obtain ⟨e3', -, -⟩ := slice_inj e3; have e4 : gg = g3 := (by simpa using e3'); subst e4; simp only at s0 s1 s2 s3 s4 s5; clear e3 e3'; have HO := Lib.hid hown'; have HG := Lib.hid hgrow; have hgg : w.heap.size + 2 ≤ gg := (by rcases hat with h | h <;> simp [Value.ownBlock] at h <;> omega); have HGG := Lib.hid hgg; have hgne : w.heap.size + 1 ≠ gg := (by omega); have hgne2 : gg ≠ w.heap.size + 1 := (by omega); clear hgg hown hown' hgrow hat))
    have hj0 : (0 : Int) ≤ (j : Int) := by omega
    have hj1 : (j : Int) < (es.length : Int) := by omega
    go_wp2_with fail
    refine wp_region_now0 [2] [(0, 0), (1, 0), (2, 2), (3, 0), (4, 0), (5, 0)] (by kernel_rfl) (by kernel_rfl) rfl (by kernel_rfl) ?_
    refine stepE0 rfl rfl (fun K hK => ?_)
    go_simp
    refine hK _ ?_
    clear hK K
    refine stepE0 rfl rfl (fun K hK => ?_)
    go_simp
    refine hK _ ?_
    clear hK K
    refine stepE2 rfl rfl ?_ (fun w1 hS => ?_) (fun K hK => ?_)
    rotate_left
    focus (obtain rfl : w1 = _ := hS; go_simp; rfl)
    go_simp
    refine hK _ ?_
    clear hK K
    refine stepE0 rfl rfl (fun K hK => ?_)
    go_simp
    refine hK _ ?_
    clear hK K
    refine stepE0 rfl rfl (fun K hK => ?_)
    go_simp
    refine hK _ ?_
    clear hK K
    refine stepE0 rfl rfl (fun K hK => ?_)
    go_simp
    refine hK _ ?_
    clear hK K
    try refine stepEnil0 ?_
    go_wp2_with fail
    go_ret3
    refine RefOut.put (cap := cap2) ⟨xv, wrapI (xe + 1), _, _, _, _⟩ _ rfl HO.out ?_ hj (by have := HGG.out; omega) rfl
    exact Below.grown (by repeat (first | (with_reducible exact Below.refl _ _) | (with_reducible refine Below.setCell ?_ ?_ _) | (with_reducible refine Below.alloc ?_ ?_ _) | (with_reducible refine Below.drewN ?_ _) | (with_reducible refine Below.drew ?_) | (with_reducible exact Nat.le_refl _) | (focus (simp only [World.size_alloc, World.size_setCell, World.size_drew, World.size_drewN]; omega)) | omega | exact Nat.le_refl _ | (focus (simp; done)) | (focus (simp; omega)))) HG.out (by simp; omega) (by simp [Value.ownBlock])
end Go.Proofs.Ytigkcbnlbdiimaa

/- XOrder with a choice: where one of two effects may come up first. -/
namespace Go.Proofs.Ytigkcbnlbdiimaa
open Go.RowKit
inductive Plan where
  | nil
  | op (i k : Nat) (rest : Plan)
  | two (i : Nat) (pi : Plan) (j : Nat) (pj : Plan)
def Plan.len : Plan → Nat
  | .nil => 0
  | .op _ _ r => r.len + 1
  | .two _ p _ _ => p.len + 1
def okPlan (ops : Array Oper) (rds : List Nat) : Bool → Array Bool → Plan → Bool
  | _, listed, .nil => (Region.ready .any ops listed).isEmpty
  | has, listed, .op i k rest => (match ops[i]? with
    | some oi => (Region.ready .any ops listed).contains i &&
      (match k with
       | 0 => freeOf ops rds false listed i oi && okPlan ops rds has (listed.setIfInBounds i true) rest
       | 1 => (Region.ready .any ops listed == [i]) && okPlan ops rds (has && needs ops rds i) (listed.setIfInBounds i true) rest
       | _ => has && freeOf ops rds true listed i oi && okPlan ops rds has (listed.setIfInBounds i true) rest)
    | none => false)
  | has, listed, .two i pi j pj => (ops[i]?).isSome && (ops[j]?).isSome && (Region.ready .any ops listed == [i, j]) && (pi.len == pj.len) &&
      okPlan ops rds (has && needs ops rds i) (listed.setIfInBounds i true) pi && okPlan ops rds (has && needs ops rds j) (listed.setIfInBounds j true) pj
section
variable {P : Program} {ops : Array Oper} {Q : Exit → Go.Act → World → Prop} {S : World → Prop} {rds : List Nat}
def wpT (P : Program) (ops : Array Oper) (rds : List Nat) (Q : Exit → Go.Act → World → Prop) (S : World → Prop) : Plan → Go.Act → World → Prop
  | .nil, a, w => Q .normal a w
  | .op i k rest, a, w => match ops[i]? with
    | none => False
    | some oi => match k with
      | 0 => ∃ v, YieldsT P ops (fun _ => True) oi v a ∧ wpT P ops rds Q S rest (a.put oi.dst v) w
      | 1 => wpOp P ops Q i (fun a' w' => (needs ops rds i = true → S w → S w') ∧ wpT P ops rds Q S rest a' w') a w
      | _ => ∃ v, YieldsT P ops S oi v a ∧ wpT P ops rds Q S rest (a.put oi.dst v) w
  | .two i pi j pj, a, w => wpOp P ops Q i (fun a' w' => (needs ops rds i = true → S w → S w') ∧ wpT P ops rds Q S pi a' w') a w ∧
      wpOp P ops Q j (fun a' w' => (needs ops rds j = true → S w → S w') ∧ wpT P ops rds Q S pj a' w') a w
theorem wpN_of_T (hsel : ∀ (j : Nat) (o : Oper) cs b, ops[j]? = some o → o.op ≠ .select cs b) (hQ : ∀ c a d v w, Q (.panic c) (a.put d v) w → Q (.panic c) a w) :
    ∀ (l : Plan) (has : Bool) (listed : Array Bool) (a : Go.Act) (w : World), Closed ops listed → okPlan ops rds has listed l = true → (has = true → S w) →
      wpT P ops rds Q S l a w → wpAnyN P ops rds Q S l.len listed a w
  | .nil, has, listed, a, w, _, hok, _, h => ⟨by simpa [okPlan] using hok, h⟩
  | .two i pi j pj, has, listed, a, w, hcl, hok, hS, h => by
    simp only [okPlan, Bool.and_eq_true, beq_iff_eq] at hok
    obtain ⟨⟨⟨⟨⟨_, _⟩, hr⟩, hlen⟩, ho1⟩, ho2⟩ := hok
    have hri : i ∈ Region.ready .any ops listed := by rw [hr]; simp
    have hrj : j ∈ Region.ready .any ops listed := by rw [hr]; simp
    refine ⟨fun e => (by rw [e] at hr; cases hr), fun m hm => ?_⟩
    rw [hr] at hm
    rcases List.mem_cons.1 hm with hmi | hm
    · subst hmi
      refine wpOp_mono (fun a' w' h' => ⟨h'.1, wpN_of_T hsel hQ pi (has && needs ops rds m) _ a' w' (hcl.ready hri) ho1 (fun e => ?_) h'.2⟩) h.1
      simp only [Bool.and_eq_true] at e
      exact h'.1 e.2 (hS e.1)
    · have hmj : m = j := by simpa using hm
      subst hmj
      refine wpOp_mono (fun a' w' h' => ⟨h'.1, ?_⟩) h.2
      have := wpN_of_T hsel hQ pj (has && needs ops rds m) _ a' w' (hcl.ready hrj) ho2 (fun e => by
        simp only [Bool.and_eq_true] at e
        exact h'.1 e.2 (hS e.1)) h'.2
      rwa [← hlen] at this
  | .op i k rest, has, listed, a, w, hcl, hok, hS, h => by
    cases hi : ops[i]? with
    | none => simp [okPlan, hi] at hok
    | some oi =>
      simp only [okPlan, hi, Bool.and_eq_true, List.contains_iff_mem] at hok
      obtain ⟨hr, hok⟩ := hok
      simp only [wpT, hi] at h
      match k, hok, h with
      | 0, hok, h =>
        simp only [Bool.and_eq_true] at hok
        obtain ⟨v, hy, h⟩ := h
        refine wpAnyN_first (T := fun _ => True) (rd := false) hi hsel (fun c a w => hQ c a _ _ w) (fun e => by cases e) (fun e => by cases e) (fun _ _ => trivial) rest.len listed a w hcl (free_spec hok.1) hr trivial hy ?_
        exact wpN_of_T hsel hQ rest has _ _ w (hcl.ready hr) hok.2 hS h
      | 1, hok, h =>
        simp only [Bool.and_eq_true, beq_iff_eq] at hok
        refine ⟨fun e => (by rw [e] at hr; cases hr), fun j hj => ?_⟩
        rw [hok.1] at hj
        have hji : j = i := by simpa using hj
        subst hji
        refine wpOp_mono (fun a' w' h' => ⟨h'.1, wpN_of_T hsel hQ rest (has && needs ops rds j) _ a' w' (hcl.ready hr) hok.2 (fun e => ?_) h'.2⟩) h
        simp only [Bool.and_eq_true] at e
        exact h'.1 e.2 (hS e.1)
      | k + 2, hok, h =>
        simp only [Bool.and_eq_true] at hok
        obtain ⟨v, hy, h⟩ := h
        refine wpAnyN_first (T := S) (rd := true) hi hsel (fun c a w => hQ c a _ _ w) (fun _ _ h => h) (fun _ _ h => h) (fun e => by cases e) rest.len listed a w hcl (free_spec hok.1.2) hr (hS hok.1.1) hy ?_
        exact wpN_of_T hsel hQ rest has _ _ w (hcl.ready hr) hok.2 hS h
theorem wp_region_plan0 {id : Nat} {a : Go.Act} {w : World} (S : World → Prop) (rds : List Nat) (l : Plan) (hm : P.follows .mixedOrders = true) (hsel : Region.noSelect ops = true)
    (hlen : l.len = ops.size) (hok : okPlan ops rds true (Array.replicate ops.size false) l = true)
    (hS : S w.drew) (h : wpT P ops rds (onlyNormal Q) S l a w.drew) : (Code.region id ops true).wp P Q a w := by
  refine wp_mono (?_ : (Code.region id ops true).wp P (onlyNormal Q) a w) (fun e a w h => by cases e <;> first | exact h | exact False.elim h)
  refine wp_region_any hm (wpAny_of_N (rds := rds) (S := S) _ _ _ _ ?_)
  rw [← hlen]
  refine wpN_of_T (fun j o cs b => Region.noSelect_spec hsel j o cs b) (fun _ _ _ _ _ h => h) l true _ a _ ?_ (by rw [hlen]; exact hok) (fun _ => hS) h
  intro j o ho hj
  rcases Nat.lt_or_ge j l.len with h' | h'
  · simp [h'] at hj
  · have := (Array.getElem?_eq_some_iff.1 ho).1
    omega
section
variable {o : Oper} {i : Nat} {rest : Plan} {a : Go.Act} {w : World}
theorem stepTnil0 (h : Q .normal a w) : wpT P ops rds (onlyNormal Q) S .nil a w := h
theorem stepT0 (ho : ops[i]? = some o) (hw : Region.wanted o (yielded ops a.tmps) = true)
    (h : ∀ K : Go.Act → Prop, (∀ a, wpT P ops rds Q S rest a w → K a) → ∃ v, (∀ w1 : World, (execOp a.eval o).run P w1 = .ok (.value v) w1) ∧ K (a.put o.dst v)) : wpT P ops rds Q S (.op i 0 rest) a w := by
  obtain ⟨v, h1, h2⟩ := h _ (fun _ h => h)
  simp only [wpT, ho]
  exact ⟨v, .inl ⟨hw, fun w1 _ => h1 w1⟩, h2⟩
theorem stepT2 (ho : ops[i]? = some o) (hw : Region.wanted o (yielded ops a.tmps) = true) (v : Value) (h1 : ∀ w1 : World, S w1 → (execOp a.eval o).run P w1 = .ok (.value v) w1)
    (h : ∀ K : Go.Act → Prop, (∀ a, wpT P ops rds Q S rest a w → K a) → K (a.put o.dst v)) : wpT P ops rds Q S (.op i 2 rest) a w := by
  have h2 := h _ (fun _ h => h)
  simp only [wpT, ho]
  exact ⟨v, .inl ⟨hw, h1⟩, h2⟩
theorem stepT1 (ho : ops[i]? = some o) (hw : Region.wanted o (yielded ops a.tmps) = true) (hn : needs ops rds i = false)
    (h : ∀ K : Go.Act → World → Prop, (∀ a' w', wpT P ops rds Q S rest a' w' → K a' w') → o.wp P a w K Q) : wpT P ops rds Q S (.op i 1 rest) a w := by
  simp only [wpT, ho, wpOp, hw, if_true]
  exact .inl (h _ fun a' w' h => ⟨fun e => absurd e (by rw [hn]; simp), h⟩)
theorem stepT1S (ho : ops[i]? = some o) (hw : Region.wanted o (yielded ops a.tmps) = true)
    (h : ∀ K : Go.Act → World → Prop, (∀ a' w', S w' ∧ wpT P ops rds Q S rest a' w' → K a' w') → o.wp P a w K Q) : wpT P ops rds Q S (.op i 1 rest) a w := by
  simp only [wpT, ho, wpOp, hw, if_true]
  exact .inl (h _ fun a' w' h => ⟨fun _ _ => h.1, h.2⟩)
theorem stepTx0 (ho : ops[i]? = some o) (hw : Region.wanted o (yielded ops a.tmps) = false) (h : wpT P ops rds Q S rest (a.put o.dst undef) w) : wpT P ops rds Q S (.op i 0 rest) a w := by
  simp only [wpT, ho]
  exact ⟨undef, .inr ⟨hw, rfl⟩, h⟩
theorem stepTx2 (ho : ops[i]? = some o) (hw : Region.wanted o (yielded ops a.tmps) = false) (h : wpT P ops rds Q S rest (a.put o.dst undef) w) : wpT P ops rds Q S (.op i 2 rest) a w := by
  simp only [wpT, ho]
  exact ⟨undef, .inr ⟨hw, rfl⟩, h⟩
theorem stepTx1 (ho : ops[i]? = some o) (hw : Region.wanted o (yielded ops a.tmps) = false) (h : wpT P ops rds Q S rest (a.put o.dst undef) w) : wpT P ops rds Q S (.op i 1 rest) a w := by
  simp only [wpT, ho, wpOp, hw, Bool.false_eq_true, if_false]
  exact ⟨fun _ h => h, h⟩
theorem stepTnil (h : Q .normal a w) : wpT P ops rds Q S .nil a w := h
theorem stepTtwo {pi pj : Plan} {j : Nat} (h1 : wpT P ops rds Q S (.op i 1 pi) a w) (h2 : wpT P ops rds Q S (.op j 1 pj) a w) (hi : (ops[i]?).isSome = true) (hj : (ops[j]?).isSome = true) : wpT P ops rds Q S (.two i pi j pj) a w := by
  obtain ⟨oi, hi⟩ := Option.isSome_iff_exists.1 hi
  obtain ⟨oj, hj⟩ := Option.isSome_iff_exists.1 hj
  simp only [wpT, hi] at h1
  simp only [wpT, hj] at h2
  exact ⟨h1, h2⟩
end
end
end Go.Proofs.Ytigkcbnlbdiimaa

/- corncribref19.Do: a new volume. (Draft: not built.) -/
namespace Go.Proofs.Ytigkcbnlbdiimaa
open Go.RowKit
theorem heap_last {w : World} {k : Nat} (o : Obj) (hk : w.heap.size = k) : (w.alloc o).heap[k]? = some o := by
  subst hk
  exact heap_alloc_new w o
theorem heap_prev {w : World} {k : Nat} (o o2 : Obj) (hk : w.heap.size = k) : ((w.alloc o).alloc o2).heap[k]? = some o := by
  subst hk
  exact (Below.heap_alloc _ _ _ (by simp)).trans (heap_alloc_new w o)
set_option maxRecDepth 100000 in
set_option maxHeartbeats 4000000 in
theorem ref_new (base : Nat) (v : Value) (es : List Ent) (c : Cmd) (w : World) (h : w.ownsRow base 128 6 v es.length (es.flatMap Ent.row)) (hk : c.kind = 1) (ht : threeB c.n0 c.n1 c.n2 = true) (hl : es.length < 4096) (hbase : base ≤ w.heap.size) :
    Calls Try.prog 39 #[v, .agg #[.int .i64 c.kind, .int .i64 c.vol, .int .i64 c.epoch, .int .i64 c.spot, .int .i64 c.node, .int .i64 c.n0, .int .i64 c.n1, .int .i64 c.n2]] w
      (RefOut w base (es ++ [⟨(es.length : Int) + 1, 1, c.n0, c.n1, c.n2, false⟩]) ((es.length : Int) + 1) 0) := by
  obtain ⟨i0, hi, hz0, hz1, hz2⟩ := info_parts entry19_info
  have HI := Lib.hid hi
  have HZ0 := Lib.hid hz0
  have HZ1 := Lib.hid hz1
  have HZ2 := Lib.hid hz2
  clear hi hz0 hz1 hz2
  have H := Lib.hid h
  obtain ⟨a, cap, rfl⟩ := ownsRow_len h
  clear h
  obtain ⟨k, cv, ce, cs, cn, c0, c1, c2⟩ := c
  have hk' : k = 1 := hk
  subst hk'
  clear hk
  obtain ⟨ha, hb, hc, h1, h2, h3⟩ := three_yes ht
  clear ht
  simp only at ha hb hc h1 h2 h3
  have hl' : (es.length : Int) < 4096 := by omega
  have hsum : IntKind.i64.wrap ((es.length : Int) + 1) = (es.length : Int) + 1 := IntWalk.i64_in _ (by omega)
  go_enter Try.func39, Try.ntmps39
  go_wp2_with fail
  refine wp_region_now0 [2, 5, 8] [(0, 0), (1, 0), (2, 2), (3, 0), (4, 0), (5, 2), (6, 0), (7, 0), (8, 2), (9, 0), (10, 0), (11, 0)] (by kernel_rfl) (by kernel_rfl) rfl (by kernel_rfl) ?_
  refine stepE0 rfl rfl (fun K hK => ?_)
  go_simp
  refine hK _ ?_
  clear hK K
  refine stepE0 rfl rfl (fun K hK => ?_)
  go_simp
  refine hK _ ?_
  clear hK K
  refine stepE2 rfl rfl ?_ (fun w1 hS => ?_) (fun K hK => ?_)
  rotate_left
  focus (obtain rfl : w1 = _ := hS; go_simp; rfl)
  go_simp
  refine hK _ ?_
  clear hK K
  refine stepE0 rfl rfl (fun K hK => ?_)
  go_simp
  refine hK _ ?_
  clear hK K
  refine stepE0 rfl rfl (fun K hK => ?_)
  go_simp
  refine hK _ ?_
  clear hK K
  refine stepE2 rfl rfl ?_ (fun w1 hS => ?_) (fun K hK => ?_)
  rotate_left
  focus (obtain rfl : w1 = _ := hS; go_simp; rfl)
  go_simp
  refine hK _ ?_
  clear hK K
  refine stepE0 rfl rfl (fun K hK => ?_)
  go_simp
  refine hK _ ?_
  clear hK K
  refine stepE0 rfl rfl (fun K hK => ?_)
  go_simp
  refine hK _ ?_
  clear hK K
  refine stepE2 rfl rfl ?_ (fun w1 hS => ?_) (fun K hK => ?_)
  rotate_left
  focus (obtain rfl : w1 = _ := hS; go_simp; rfl)
  go_simp
  refine hK _ ?_
  clear hK K
  refine stepE0 rfl rfl (fun K hK => ?_)
  go_simp
  refine hK _ ?_
  clear hK K
  refine stepE0 rfl rfl (fun K hK => ?_)
  go_simp
  refine hK _ ?_
  clear hK K
  refine stepE0 rfl rfl (fun K hK => ?_)
  go_simp
  refine hK _ ?_
  clear hK K
  try refine stepEnil0 ?_
  go_wp2_with (go_at_call 69; refine (near_any _ _).mono ?_; rintro e w' ⟨rfl, rfl⟩; simp only [ha, hb, hc])
  obtain ⟨SS, HSD⟩ : ∃ SS : World → Prop, Hid (SS = fun w' => w'.cell? ⟨w.heap.size, 5, none⟩ = some (.int .i64 c0) ∧ w'.cell? ⟨w.heap.size, 6, none⟩ = some (.int .i64 c1) ∧ w'.cell? ⟨w.heap.size, 7, none⟩ = some (.int .i64 c2)) := ⟨_, Lib.hid rfl⟩
  refine wp_region_plan0 SS [7] (.op 1 0 (.op 3 0 (.op 4 0 (.op 5 0 (.op 6 0 (.op 7 2 (.op 8 0 (.op 11 0 (.op 12 0 (.op 13 0 (.two 0 (.two 2 (.op 9 1 (.op 10 1 (.op 14 0 (.op 15 0 (.op 16 0 .nil))))) 9 (.op 2 1 (.op 10 1 (.op 14 0 (.op 15 0 (.op 16 0 .nil)))))) 9 (.op 0 1 (.op 2 1 (.op 10 1 (.op 14 0 (.op 15 0 (.op 16 0 .nil))))))))))))))))) (by kernel_rfl) (by kernel_rfl) rfl (by kernel_rfl) ?_ ?_
  focus (rw [HSD.out]; refine ⟨?_, ?_, ?_⟩ <;> go_simp)
  refine stepT0 rfl rfl (fun K hK => ?_)
  go_simp
  refine hK _ ?_
  clear hK K
  refine stepT0 rfl rfl (fun K hK => ?_)
  go_simp
  refine hK _ ?_
  clear hK K
  refine stepT0 rfl rfl (fun K hK => ?_)
  go_simp
  refine hK _ ?_
  clear hK K
  refine stepT0 rfl rfl (fun K hK => ?_)
  go_simp
  refine hK _ ?_
  clear hK K
  refine stepT0 rfl rfl (fun K hK => ?_)
  go_simp
  refine hK _ ?_
  clear hK K
  refine stepT2 rfl rfl ?_ (fun w1 hS => ?_) (fun K hK => ?_)
  rotate_left
  focus (rw [HSD.out] at hS; obtain ⟨s0, s1, s2⟩ := hS; go_simp; rfl)
  go_simp
  refine hK _ ?_
  clear hK K
  refine stepT0 rfl rfl (fun K hK => ?_)
  go_simp
  refine hK _ ?_
  clear hK K
  refine stepT0 rfl rfl (fun K hK => ?_)
  go_simp
  refine hK _ ?_
  clear hK K
  refine stepT0 rfl rfl (fun K hK => ?_)
  go_simp
  refine hK _ ?_
  clear hK K
  refine stepT0 rfl rfl (fun K hK => ?_)
  go_simp
  refine hK _ ?_
  clear hK K
  refine stepTtwo ?_ ?_ (by kernel_rfl) (by kernel_rfl)
  ·
    refine stepT1S rfl rfl (fun K hK => ?_)
    go_wp2
    refine ⟨by rw [HSD.out]; exact (by refine ⟨?_, ?_, ?_⟩ <;> go_simp), ?_⟩
    refine stepTtwo ?_ ?_ (by kernel_rfl) (by kernel_rfl)
    ·
      refine stepT1S rfl rfl (fun K hK => ?_)
      (refine wp_append_reads _ _ _ 72 rfl w.heap.size 128 i0 (.agg #[.int .i64 0, .int .i64 0, .int .i64 0, .int .i64 0, .int .i64 0, .bool false]) 6 48 Try.underlying72 HI.out HZ0.out HZ1.out HZ2.out rfl (by decide) (.slice (some ⟨w.heap.size + 1, 0, none⟩) 0 0) 0 [] rfl (lit_at (by simp) (by omega)) (.slice a es.length cap) es.length (es.flatMap Ent.row) rfl (reads_of_owns (ownsRow_below H.out (by repeat (first | (with_reducible exact Below.refl _ _) | (with_reducible refine Below.setCell ?_ ?_ _) | (with_reducible refine Below.alloc ?_ ?_ _) | (with_reducible refine Below.drewN ?_ _) | (with_reducible refine Below.drew ?_) | (with_reducible exact Nat.le_refl _) | (focus (simp only [World.size_alloc, World.size_setCell, World.size_drew, World.size_drewN]; omega)) | omega | exact Nat.le_refl _ | (focus (simp; done)) | (focus (simp; omega)))))) (Ent.one es) (by unfold maxLen; omega) (by omega) (by first | (simp; done) | (simp; omega)) ?_; intro v1 w1 hown1 hgrow1 hat1; have kc := fun (o : Nat) => grown_cell (b := w.heap.size) (o := o) hgrow1 (by first | (simp; done) | (simp; omega)) (by simp [Value.ownBlock]); have hz1 := hgrow1.size; simp only [World.size_alloc, World.size_drew] at hz1;  have HO1 := Lib.hid hown1; have HG1 := Lib.hid hgrow1; have HA1 := Lib.hid hat1; clear hown1 hgrow1 hat1; go_wp2)
      refine ⟨by rw [HSD.out]; exact (by refine ⟨(kc 5).trans ?_, (kc 6).trans ?_, (kc 7).trans ?_⟩ <;> go_simp), ?_⟩
      refine stepT1 rfl rfl (by kernel_rfl) (fun K hK => ?_)
      go_wp2
      refine stepT1 rfl rfl (by kernel_rfl) (fun K hK => ?_)
      (refine wp_append_lies _ _ _ 72 rfl w.heap.size 128 i0 (.agg #[.int .i64 0, .int .i64 0, .int .i64 0, .int .i64 0, .int .i64 0, .bool false]) 6 48 Try.underlying72 HI.out HZ0.out HZ1.out HZ2.out rfl (by decide) v1 (0 + es.length) ([] ++ es.flatMap Ent.row) rfl (HO1.out.alloc _) ⟨w1.heap.size, 0, none⟩ 1 1 [.int .i64 ((es.length : Int) + 1), .int .i64 1, .int .i64 c0, .int .i64 c1, .int .i64 c2, .bool false] rfl rfl (World.news_of_block (cs := #[.int .i64 ((es.length : Int) + 1), .int .i64 1, .int .i64 c0, .int .i64 c1, .int .i64 c2, .bool false]) (t := 128) (fr := (0, 0)) (heap_alloc_new w1 _)) (by simp [Value.oneCell']) (by omega) (by unfold maxLen; omega) (by omega) (by first | omega | (simp; done) | (simp; omega)) _ rfl ?_; intro gg cap2 w2 hown2 hgrow2 hat2 hlt2; go_wp2)
      refine stepT0 rfl rfl (fun K hK => ?_)
      go_simp
      refine hK _ ?_
      clear hK K
      refine stepT0 rfl rfl (fun K hK => ?_)
      go_simp
      refine hK _ ?_
      clear hK K
      refine stepT0 rfl rfl (fun K hK => ?_)
      go_simp
      refine hK _ ?_
      clear hK K
      try refine stepTnil0 ?_
      clear HSD SS
      (have hrow : ∀ k, v1.ownBlock = some k → w.heap.size ≤ k := (fun k hk => (HO1.out.lt k hk).1); go_wp2; go_ret3; refine ⟨_, rfl, (by simpa [Ent.row] using ownsRow_mono hown2 hbase), ?_⟩; refine Below.grown ?_ hgrow2 (by first | omega | (simp; done) | (simp; omega)) hrow; first | exact Below.grown (by repeat (first | (with_reducible exact Below.refl _ _) | (with_reducible refine Below.setCell ?_ ?_ _) | (with_reducible refine Below.alloc ?_ ?_ _) | (with_reducible refine Below.drewN ?_ _) | (with_reducible refine Below.drew ?_) | (with_reducible exact Nat.le_refl _) | (focus (simp only [World.size_alloc, World.size_setCell, World.size_drew, World.size_drewN]; omega)) | omega | exact Nat.le_refl _ | (focus (simp; done)) | (focus (simp; omega)))) HG1.out (by first | omega | (simp; done) | (simp; omega)) (by simp [Value.ownBlock]) | exact (Below.grown (by repeat (first | (with_reducible exact Below.refl _ _) | (with_reducible refine Below.setCell ?_ ?_ _) | (with_reducible refine Below.alloc ?_ ?_ _) | (with_reducible refine Below.drewN ?_ _) | (with_reducible refine Below.drew ?_) | (with_reducible exact Nat.le_refl _) | (focus (simp only [World.size_alloc, World.size_setCell, World.size_drew, World.size_drewN]; omega)) | omega | exact Nat.le_refl _ | (focus (simp; done)) | (focus (simp; omega)))) HG1.out (by first | omega | (simp; done) | (simp; omega)) (by simp [Value.ownBlock])).alloc (by omega) _)
    ·
      refine stepT1 rfl rfl (by kernel_rfl) (fun K hK => ?_)
      go_wp2
      refine stepT1S rfl rfl (fun K hK => ?_)
      (refine wp_append_reads _ _ _ 72 rfl w.heap.size 128 i0 (.agg #[.int .i64 0, .int .i64 0, .int .i64 0, .int .i64 0, .int .i64 0, .bool false]) 6 48 Try.underlying72 HI.out HZ0.out HZ1.out HZ2.out rfl (by decide) (.slice (some ⟨w.heap.size + 1, 0, none⟩) 0 0) 0 [] rfl (((lit_at (w := w.alloc (.cells #[.int .i64 1, .int .i64 cv, .int .i64 ce, .int .i64 cs, .int .i64 cn, .int .i64 c0, .int .i64 c1, .int .i64 c2] 35)) (k := w.heap.size + 1) (by simp) (by omega)).alloc (.cells #[.int .i64 ((es.length : Int) + 1), .int .i64 1, .int .i64 c0, .int .i64 c1, .int .i64 c2, .bool false] 128))) (.slice a es.length cap) es.length (es.flatMap Ent.row) rfl (reads_of_owns (ownsRow_below H.out (by repeat (first | (with_reducible exact Below.refl _ _) | (with_reducible refine Below.setCell ?_ ?_ _) | (with_reducible refine Below.alloc ?_ ?_ _) | (with_reducible refine Below.drewN ?_ _) | (with_reducible refine Below.drew ?_) | (with_reducible exact Nat.le_refl _) | (focus (simp only [World.size_alloc, World.size_setCell, World.size_drew, World.size_drewN]; omega)) | omega | exact Nat.le_refl _ | (focus (simp; done)) | (focus (simp; omega)))))) (Ent.one es) (by unfold maxLen; omega) (by omega) (by first | (simp; done) | (simp; omega)) ?_; intro v1 w1 hown1 hgrow1 hat1; have kc := fun (o : Nat) => grown_cell (b := w.heap.size) (o := o) hgrow1 (by first | (simp; done) | (simp; omega)) (by simp [Value.ownBlock]); have hz1 := hgrow1.size; simp only [World.size_alloc, World.size_drew] at hz1; have HB1 := Lib.hid (hgrow1.block (w.heap.size + 2) (by first | (simp; done) | (simp; omega)) (by simp [Value.ownBlock])); have HO1 := Lib.hid hown1; have HG1 := Lib.hid hgrow1; have HA1 := Lib.hid hat1; clear hown1 hgrow1 hat1; go_wp2)
      refine ⟨by rw [HSD.out]; exact (by refine ⟨(kc 5).trans ?_, (kc 6).trans ?_, (kc 7).trans ?_⟩ <;> go_simp), ?_⟩
      refine stepT1 rfl rfl (by kernel_rfl) (fun K hK => ?_)
      (refine wp_append_lies _ _ _ 72 rfl w.heap.size 128 i0 (.agg #[.int .i64 0, .int .i64 0, .int .i64 0, .int .i64 0, .int .i64 0, .bool false]) 6 48 Try.underlying72 HI.out HZ0.out HZ1.out HZ2.out rfl (by decide) v1 (0 + es.length) ([] ++ es.flatMap Ent.row) rfl (HO1.out) ⟨w.heap.size + 2, 0, none⟩ 1 1 [.int .i64 ((es.length : Int) + 1), .int .i64 1, .int .i64 c0, .int .i64 c1, .int .i64 c2, .bool false] rfl rfl (World.news_of_block (cs := #[.int .i64 ((es.length : Int) + 1), .int .i64 1, .int .i64 c0, .int .i64 c1, .int .i64 c2, .bool false]) (t := 128) (fr := (0, 0)) (HB1.out.trans (heap_last (w := (w.alloc (.cells #[.int .i64 1, .int .i64 cv, .int .i64 ce, .int .i64 cs, .int .i64 cn, .int .i64 c0, .int .i64 c1, .int .i64 c2] 35)).alloc (.cells #[] 128)) (.cells #[.int .i64 ((es.length : Int) + 1), .int .i64 1, .int .i64 c0, .int .i64 c1, .int .i64 c2, .bool false] 128) (by simp)))) (by simp [Value.oneCell']) (by omega) (by unfold maxLen; omega) (by omega) (by first | omega | (simp; done) | (simp; omega)) _ rfl ?_; intro gg cap2 w2 hown2 hgrow2 hat2 hlt2; go_wp2)
      refine stepT0 rfl rfl (fun K hK => ?_)
      go_simp
      refine hK _ ?_
      clear hK K
      refine stepT0 rfl rfl (fun K hK => ?_)
      go_simp
      refine hK _ ?_
      clear hK K
      refine stepT0 rfl rfl (fun K hK => ?_)
      go_simp
      refine hK _ ?_
      clear hK K
      try refine stepTnil0 ?_
      clear HSD SS
      (have hrow : ∀ k, v1.ownBlock = some k → w.heap.size ≤ k := (fun k hk => (HO1.out.lt k hk).1); go_wp2; go_ret3; refine ⟨_, rfl, (by simpa [Ent.row] using ownsRow_mono hown2 hbase), ?_⟩; refine Below.grown ?_ hgrow2 (by first | omega | (simp; done) | (simp; omega)) hrow; first | exact Below.grown (by repeat (first | (with_reducible exact Below.refl _ _) | (with_reducible refine Below.setCell ?_ ?_ _) | (with_reducible refine Below.alloc ?_ ?_ _) | (with_reducible refine Below.drewN ?_ _) | (with_reducible refine Below.drew ?_) | (with_reducible exact Nat.le_refl _) | (focus (simp only [World.size_alloc, World.size_setCell, World.size_drew, World.size_drewN]; omega)) | omega | exact Nat.le_refl _ | (focus (simp; done)) | (focus (simp; omega)))) HG1.out (by first | omega | (simp; done) | (simp; omega)) (by simp [Value.ownBlock]) | exact (Below.grown (by repeat (first | (with_reducible exact Below.refl _ _) | (with_reducible refine Below.setCell ?_ ?_ _) | (with_reducible refine Below.alloc ?_ ?_ _) | (with_reducible refine Below.drewN ?_ _) | (with_reducible refine Below.drew ?_) | (with_reducible exact Nat.le_refl _) | (focus (simp only [World.size_alloc, World.size_setCell, World.size_drew, World.size_drewN]; omega)) | omega | exact Nat.le_refl _ | (focus (simp; done)) | (focus (simp; omega)))) HG1.out (by first | omega | (simp; done) | (simp; omega)) (by simp [Value.ownBlock])).alloc (by omega) _)
  ·
    refine stepT1 rfl rfl (by kernel_rfl) (fun K hK => ?_)
    go_wp2
    refine stepT1S rfl rfl (fun K hK => ?_)
    go_wp2
    refine ⟨by rw [HSD.out]; exact (by refine ⟨?_, ?_, ?_⟩ <;> go_simp), ?_⟩
    refine stepT1S rfl rfl (fun K hK => ?_)
    (refine wp_append_reads _ _ _ 72 rfl w.heap.size 128 i0 (.agg #[.int .i64 0, .int .i64 0, .int .i64 0, .int .i64 0, .int .i64 0, .bool false]) 6 48 Try.underlying72 HI.out HZ0.out HZ1.out HZ2.out rfl (by decide) (.slice (some ⟨w.heap.size + 2, 0, none⟩) 0 0) 0 [] rfl (lit_at (by simp) (by omega)) (.slice a es.length cap) es.length (es.flatMap Ent.row) rfl (reads_of_owns (ownsRow_below H.out (by repeat (first | (with_reducible exact Below.refl _ _) | (with_reducible refine Below.setCell ?_ ?_ _) | (with_reducible refine Below.alloc ?_ ?_ _) | (with_reducible refine Below.drewN ?_ _) | (with_reducible refine Below.drew ?_) | (with_reducible exact Nat.le_refl _) | (focus (simp only [World.size_alloc, World.size_setCell, World.size_drew, World.size_drewN]; omega)) | omega | exact Nat.le_refl _ | (focus (simp; done)) | (focus (simp; omega)))))) (Ent.one es) (by unfold maxLen; omega) (by omega) (by first | (simp; done) | (simp; omega)) ?_; intro v1 w1 hown1 hgrow1 hat1; have kc := fun (o : Nat) => grown_cell (b := w.heap.size) (o := o) hgrow1 (by first | (simp; done) | (simp; omega)) (by simp [Value.ownBlock]); have hz1 := hgrow1.size; simp only [World.size_alloc, World.size_drew] at hz1; have HB1 := Lib.hid (hgrow1.block (w.heap.size + 1) (by first | (simp; done) | (simp; omega)) (by simp [Value.ownBlock])); have HO1 := Lib.hid hown1; have HG1 := Lib.hid hgrow1; have HA1 := Lib.hid hat1; clear hown1 hgrow1 hat1; go_wp2)
    refine ⟨by rw [HSD.out]; exact (by refine ⟨(kc 5).trans ?_, (kc 6).trans ?_, (kc 7).trans ?_⟩ <;> go_simp), ?_⟩
    refine stepT1 rfl rfl (by kernel_rfl) (fun K hK => ?_)
    (refine wp_append_lies _ _ _ 72 rfl w.heap.size 128 i0 (.agg #[.int .i64 0, .int .i64 0, .int .i64 0, .int .i64 0, .int .i64 0, .bool false]) 6 48 Try.underlying72 HI.out HZ0.out HZ1.out HZ2.out rfl (by decide) v1 (0 + es.length) ([] ++ es.flatMap Ent.row) rfl (HO1.out) ⟨w.heap.size + 1, 0, none⟩ 1 1 [.int .i64 ((es.length : Int) + 1), .int .i64 1, .int .i64 c0, .int .i64 c1, .int .i64 c2, .bool false] rfl rfl (World.news_of_block (cs := #[.int .i64 ((es.length : Int) + 1), .int .i64 1, .int .i64 c0, .int .i64 c1, .int .i64 c2, .bool false]) (t := 128) (fr := (0, 0)) (HB1.out.trans (heap_prev (w := w.alloc (.cells #[.int .i64 1, .int .i64 cv, .int .i64 ce, .int .i64 cs, .int .i64 cn, .int .i64 c0, .int .i64 c1, .int .i64 c2] 35)) (.cells #[.int .i64 ((es.length : Int) + 1), .int .i64 1, .int .i64 c0, .int .i64 c1, .int .i64 c2, .bool false] 128) (.cells #[] 128) (by simp)))) (by simp [Value.oneCell']) (by omega) (by unfold maxLen; omega) (by omega) (by first | omega | (simp; done) | (simp; omega)) _ rfl ?_; intro gg cap2 w2 hown2 hgrow2 hat2 hlt2; go_wp2)
    refine stepT0 rfl rfl (fun K hK => ?_)
    go_simp
    refine hK _ ?_
    clear hK K
    refine stepT0 rfl rfl (fun K hK => ?_)
    go_simp
    refine hK _ ?_
    clear hK K
    refine stepT0 rfl rfl (fun K hK => ?_)
    go_simp
    refine hK _ ?_
    clear hK K
    try refine stepTnil0 ?_
    clear HSD SS
    (have hrow : ∀ k, v1.ownBlock = some k → w.heap.size ≤ k := (fun k hk => (HO1.out.lt k hk).1); go_wp2; go_ret3; refine ⟨_, rfl, (by simpa [Ent.row] using ownsRow_mono hown2 hbase), ?_⟩; refine Below.grown ?_ hgrow2 (by first | omega | (simp; done) | (simp; omega)) hrow; first | exact Below.grown (by repeat (first | (with_reducible exact Below.refl _ _) | (with_reducible refine Below.setCell ?_ ?_ _) | (with_reducible refine Below.alloc ?_ ?_ _) | (with_reducible refine Below.drewN ?_ _) | (with_reducible refine Below.drew ?_) | (with_reducible exact Nat.le_refl _) | (focus (simp only [World.size_alloc, World.size_setCell, World.size_drew, World.size_drewN]; omega)) | omega | exact Nat.le_refl _ | (focus (simp; done)) | (focus (simp; omega)))) HG1.out (by first | omega | (simp; done) | (simp; omega)) (by simp [Value.ownBlock]) | exact (Below.grown (by repeat (first | (with_reducible exact Below.refl _ _) | (with_reducible refine Below.setCell ?_ ?_ _) | (with_reducible refine Below.alloc ?_ ?_ _) | (with_reducible refine Below.drewN ?_ _) | (with_reducible refine Below.drew ?_) | (with_reducible exact Nat.le_refl _) | (focus (simp only [World.size_alloc, World.size_setCell, World.size_drew, World.size_drewN]; omega)) | omega | exact Nat.le_refl _ | (focus (simp; done)) | (focus (simp; omega)))) HG1.out (by first | omega | (simp; done) | (simp; omega)) (by simp [Value.ownBlock])).alloc (by omega) _)
end Go.Proofs.Ytigkcbnlbdiimaa

/- corncribref19.Do whole. -/
namespace Go.Proofs.Ytigkcbnlbdiimaa
open Go.RowKit
theorem ref_do_any (base : Nat) (v : Value) (es : List Ent) (c : Cmd) (w : World) (h : w.ownsRow base 128 6 v es.length (es.flatMap Ent.row)) (hl : es.length ≤ 4096) (hbase : base ≤ w.heap.size) :
    Calls Try.prog 39 #[v, .agg #[.int .i64 c.kind, .int .i64 c.vol, .int .i64 c.epoch, .int .i64 c.spot, .int .i64 c.node, .int .i64 c.n0, .int .i64 c.n1, .int .i64 c.n2]] w
      (RefOut w base (doEs es c) (doN es c) (doK es c)) := by
  by_cases h1 : c.kind = 1
  · cases h2 : threeB c.n0 c.n1 c.n2
    · have e1 : doEs es c = es := by simp [doEs, h1, h2]
      have e2 : doN es c = 0 := by simp [doN, h1, h2]
      have e3 : (doK es c : Int) = 1 := by simp [doK, h1, h2]
      rw [e1, e2, e3]
      exact ref_arg base v es c w h h1 h2
    · by_cases h3 : es.length < 4096
      · have e1 : doEs es c = es ++ [⟨(es.length : Int) + 1, 1, c.n0, c.n1, c.n2, false⟩] := by simp [doEs, h1, h2, h3]
        have e2 : doN es c = (es.length : Int) + 1 := by simp [doN, h1, h2, h3]
        have e3 : (doK es c : Int) = 0 := by simp [doK, h1, h2, h3]
        rw [e1, e2, e3]
        exact ref_new base v es c w h h1 h2 h3 hbase
      · have e1 : doEs es c = es := by simp [doEs, h1, h2, h3]
        have e2 : doN es c = 0 := by simp [doN, h1, h2, h3]
        have e3 : (doK es c : Int) = 11 := by simp [doK, h1, h2, h3]
        rw [e1, e2, e3]
        exact ref_full base v es c w h h1 h2 (by omega)
  · by_cases hk : c.kind = 2 ∨ c.kind = 3 ∨ c.kind = 4
    · by_cases hv : 1 ≤ c.vol ∧ c.vol ≤ es.length
      · obtain ⟨j, hj⟩ : ∃ j : Nat, c.vol = (j : Int) + 1 := ⟨(c.vol - 1).toNat, by omega⟩
        have hjl : j < es.length := by omega
        have hx : es[j]? = some es[j] := List.getElem?_eq_getElem hjl
        have hvj : (c.vol - 1).toNat = j := by omega
        generalize es[j] = x at hx
        by_cases he : x.epoch = c.epoch
        · by_cases ht : turnE x c = 0
          · have e1 : doEs es c = es.set j (turnX x c) := by rw [doEs, if_neg h1, if_pos hk, if_pos hv, hvj, hx]; exact if_pos ⟨he, ht⟩
            have e2 : doN es c = (turnX x c).epoch := by rw [doN, if_neg h1, if_pos hk, if_pos hv, hvj, hx]; exact if_pos ⟨he, ht⟩
            have e3 : (doK es c : Int) = 0 := by rw [doK, if_neg h1, if_pos hk, if_pos hv, hvj, hx]; show ((if x.epoch = c.epoch then turnE x c else 13 : Nat) : Int) = 0; rw [if_pos he, ht]; rfl
            rw [e1, e2, e3]
            exact ref_turn base v es c j x w h (by omega) (by omega) hj hx he ht (by omega)
          · have e1 : doEs es c = es := by rw [doEs, if_neg h1, if_pos hk, if_pos hv, hvj, hx]; exact if_neg (fun e => ht e.2)
            have e2 : doN es c = 0 := by rw [doN, if_neg h1, if_pos hk, if_pos hv, hvj, hx]; exact if_neg (fun e => ht e.2)
            have e3 : (doK es c : Int) = (turnE x c : Int) := by rw [doK, if_neg h1, if_pos hk, if_pos hv, hvj, hx]; show ((if x.epoch = c.epoch then turnE x c else 13 : Nat) : Int) = _; rw [if_pos he]
            rw [e1, e2, e3]
            exact ref_err base v es c j x w h (by omega) (by omega) hj hx he ht
        · have e1 : doEs es c = es := by rw [doEs, if_neg h1, if_pos hk, if_pos hv, hvj, hx]; exact if_neg (fun e => he e.1)
          have e2 : doN es c = 0 := by rw [doN, if_neg h1, if_pos hk, if_pos hv, hvj, hx]; exact if_neg (fun e => he e.1)
          have e3 : (doK es c : Int) = 13 := by rw [doK, if_neg h1, if_pos hk, if_pos hv, hvj, hx]; show ((if x.epoch = c.epoch then turnE x c else 13 : Nat) : Int) = _; rw [if_neg he]; rfl
          rw [e1, e2, e3]
          exact ref_stale base v es c j x w h (by omega) (by omega) hj hx he
      · have e1 : doEs es c = es := by rw [doEs, if_neg h1, if_pos hk, if_neg hv]
        have e2 : doN es c = 0 := by rw [doN, if_neg h1, if_pos hk, if_neg hv]
        have e3 : (doK es c : Int) = 6 := by rw [doK, if_neg h1, if_pos hk, if_neg hv]; rfl
        rw [e1, e2, e3]
        exact ref_none base v es c w h (by omega) (by omega) (by omega)
    · have e1 : doEs es c = es := by rw [doEs, if_neg h1, if_neg hk]
      have e2 : doN es c = 0 := by rw [doN, if_neg h1, if_neg hk]
      have e3 : (doK es c : Int) = 1 := by rw [doK, if_neg h1, if_neg hk]; rfl
      rw [e1, e2, e3]
      exact ref_wild base v es c w h (by omega)
end Go.Proofs.Ytigkcbnlbdiimaa

/- Bytes as values; what is read from memory. -/
namespace Go.Proofs.Ytigkcbnlbdiimaa
open Go.RowKit
/-- A byte as a value. -/
def bv (x : UInt8) : Value := .int .u8 (x.toNat : Int)
theorem bv_one (bs : List UInt8) : ∀ u ∈ bs.map bv, u.oneCell' = true := by
  intro u hu
  obtain ⟨x, _, rfl⟩ := List.mem_map.1 hu
  rfl
theorem spot_none {w : World} {a : Addr} {u : Value} (h : w.cell? a = some u) : a = ⟨a.block, a.off, none⟩ := by
  have hs : a.spot = none := by
    cases hs : a.spot with
    | none => rfl
    | some s => simp [World.cell?, hs] at h; split at h <;> simp_all
  cases a
  simp_all
theorem reads_addr {w : World} {v : Value} {n : Nat} {xs : List Value} (h : Reads w 1 v n xs) (hn : 0 < n) :
    ∃ b o c, v = .slice (some ⟨b, o, none⟩) n c ∧ b < w.heap.size ∧ n ≤ maxLen ∧ ∀ (j : Nat) (u : Value), xs[j]? = some u → w.cell? ⟨b, o + j, none⟩ = some u := by
  obtain ⟨hl, ⟨_, h0⟩ | ⟨a, c, rfl, hm, hc⟩⟩ := h
  · omega
  · have h0 : xs[0]? = some xs[0] := List.getElem?_eq_getElem (by omega)
    have h1 := hc 0 _ h0
    have ha : a = ⟨a.block, a.off, none⟩ := spot_none (by simpa [Addr.add] using h1)
    have hb := World.block_lt_of_cell? w _ h1
    refine ⟨a.block, a.off, c, by rw [← ha], by simpa [Addr.add] using hb, hm, fun j u hu => ?_⟩
    have h2 := hc j u hu
    have e : a.add j = ⟨a.block, a.off + j, none⟩ := by
      rw [ha]
      unfold Addr.add
      split
      · rename_i hz; rw [hz]; rfl
      · rfl
    rwa [e] at h2
theorem reads_len {w : World} {sz : Nat} {v : Value} {n : Nat} {xs : List Value} (h : Reads w sz v n xs) : ∃ a c, v = .slice a n c := by
  obtain ⟨_, ⟨rfl, rfl⟩ | ⟨a, c, rfl, _⟩⟩ := h
  · exact ⟨none, 0, rfl⟩
  · exact ⟨some a, c, rfl⟩
theorem sl_inj {a b : Option Addr} {n m c d : Nat} (h : Value.slice a n c = .slice b m d) : a = b ∧ n = m ∧ c = d := by simpa using h
theorem Reads.below {w w' : World} {sz : Nat} {v : Value} {n : Nat} {xs : List Value} (h : Reads w sz v n xs) (hb : Below w.heap.size w w') : Reads w' sz v n xs := by
  refine ⟨h.1, h.2.imp id ?_⟩
  rintro ⟨a, c, rfl, hn, hc⟩
  exact ⟨a, c, rfl, hn, fun j u hu => cell_later hb (hc j u hu)⟩
theorem Reads.le {w : World} {sz : Nat} {v : Value} {n : Nat} {xs : List Value} (h : Reads w sz v n xs) : n ≤ maxLen := by
  obtain ⟨_, ⟨_, rfl⟩ | ⟨_, _, _, h, _⟩⟩ := h
  · exact Nat.zero_le _
  · exact h
end Go.Proofs.Ytigkcbnlbdiimaa

/- Bytes read from memory, and corncribref01.Same at any two lists of bytes. No condition but that they are read. -/
namespace Go.Proofs.Ytigkcbnlbdiimaa
open Go.RowKit
set_option maxRecDepth 100000 in
set_option maxHeartbeats 1000000 in
theorem same_any (va vb : Value) (xs ys : List UInt8) (w : World) (ha : Reads w 1 va xs.length (xs.map bv)) (hb : Reads w 1 vb ys.length (ys.map bv)) :
    Calls Try.prog 23 #[va, vb] w fun e w' => e = .returned (.bool (decide (xs = ys))) ∧ Below w.heap.size w w' := by
  obtain ⟨a1, c1, rfl⟩ := reads_len ha
  obtain ⟨a2, c2, rfl⟩ := reads_len hb
  by_cases hl : xs.length = ys.length
  · have hdl : ((xs.length : Int) != (ys.length : Int)) = false := by rw [hl]; simp
    have HL := Lib.hid hl
    have HA := Lib.hid ha
    have HB := Lib.hid hb
    clear hl ha hb
    go_enter Try.func23, Try.ntmps23
    go_wp2
    go_loopw [5] (fun i wr => ∃ k : Nat, k ≤ xs.length ∧ i = .int .i64 k ∧ xs.take k = ys.take k ∧ Below w.heap.size w wr) (fun i _ => xs.length - (intOf i).toNat)
    case atStart => exact ⟨0, Nat.zero_le _, rfl, rfl, Below.refl _ _⟩
    case round =>
      obtain ⟨k, hk, rfl, ht, hbw⟩ := hrel
      have HT := Lib.hid ht
      have HBW := Lib.hid hbw
      clear ht hbw
      by_cases hlt : k < xs.length
      · have hlt2 : k < ys.length := by have := HL.out; omega
        obtain ⟨b1, o1, _, e1, hb1, hm1, hc1⟩ := reads_addr HA.out (by omega)
        obtain ⟨b2, o2, _, e2, hb2, hm2, hc2⟩ := reads_addr HB.out (by omega)
        obtain ⟨rfl, -, rfl⟩ := sl_inj e1
        obtain ⟨rfl, -, rfl⟩ := sl_inj e2
        have k1 := (HBW.out.cell (p := ⟨b1, o1 + k, none⟩) hb1).trans (hc1 k (bv xs[k]) (by rw [List.getElem?_map, List.getElem?_eq_getElem hlt]; rfl))
        have k2 := (HBW.out.cell (p := ⟨b2, o2 + k, none⟩) hb2).trans (hc2 k (bv ys[k]) (by rw [List.getElem?_map, List.getElem?_eq_getElem hlt2]; rfl))
        unfold maxLen at hm1 hm2
        clear e1 e2 hc1 hc2
        have hi0 : (0 : Int) ≤ (k : Int) := by omega
        have hi1 : (k : Int) < (xs.length : Int) := by omega
        have hi2 : (k : Int) < (ys.length : Int) := by omega
        have HX := Lib.hid (show xs.take (k + 1) = xs.take k ++ [xs[k]] by rw [List.take_succ_eq_append_getElem hlt])
        have HY := Lib.hid (show ys.take (k + 1) = ys.take k ++ [ys[k]] by rw [List.take_succ_eq_append_getElem hlt2])
        unfold bv at k1 k2
        obtain ⟨x, hx⟩ : ∃ x, xs[k] = x := ⟨_, rfl⟩
        obtain ⟨y, hy⟩ : ∃ y, ys[k] = y := ⟨_, rfl⟩
        have HXX := Lib.hid hx
        have HYY := Lib.hid hy
        rw [hx] at k1
        rw [hy] at k2
        clear hx hy
        by_cases hxy : x = y
        · have hxe : ((x.toNat : Int) != (y.toNat : Int)) = false := by rw [hxy]; simp
          have HXY := Lib.hid hxy
          clear hxy
          go_wp2_with fail
          refine wp_region_now0 [3, 7] [(0, 0), (1, 0), (2, 0), (3, 2), (4, 0), (5, 0), (6, 0), (7, 2), (8, 0)] (by kernel_rfl) (by kernel_rfl) rfl (by kernel_rfl) ?_
          refine stepE0 rfl rfl (fun K hK => ?_)
          go_simp
          refine hK _ ?_
          clear hK K
          refine stepE0 rfl rfl (fun K hK => ?_)
          go_simp
          refine hK _ ?_
          clear hK K
          refine stepE0 rfl rfl (fun K hK => ?_)
          go_simp
          refine hK _ ?_
          clear hK K
          refine stepE2 rfl rfl ?_ (fun w1 hS => ?_) (fun K hK => ?_)
          rotate_left
          focus (obtain rfl : w1 = _ := hS; go_simp; rfl)
          go_simp
          refine hK _ ?_
          clear hK K
          refine stepE0 rfl rfl (fun K hK => ?_)
          go_simp
          refine hK _ ?_
          clear hK K
          refine stepE0 rfl rfl (fun K hK => ?_)
          go_simp
          refine hK _ ?_
          clear hK K
          refine stepE0 rfl rfl (fun K hK => ?_)
          go_simp
          refine hK _ ?_
          clear hK K
          refine stepE2 rfl rfl ?_ (fun w1 hS => ?_) (fun K hK => ?_)
          rotate_left
          focus (obtain rfl : w1 = _ := hS; go_simp; rfl)
          go_simp
          refine hK _ ?_
          clear hK K
          refine stepE0 rfl rfl (fun K hK => ?_)
          go_simp
          refine hK _ ?_
          clear hK K
          try refine stepEnil0 ?_
          go_wp2_with fail
          go_roundw
          case rel => exact ⟨k + 1, by omega, by go_num, by rw [HX.out, HY.out, HT.out, HXX.out, HYY.out, HXY.out], HBW.out.drew⟩
          case measure => simp [intOf]; omega
        · have hxe : ((x.toNat : Int) != (y.toNat : Int)) = true := by
            rw [bne_iff_ne]
            intro h
            exact hxy (UInt8.toNat_inj.1 (by omega))
          have HXY := Lib.hid hxy
          clear hxy
          go_wp2_with fail
          refine wp_region_now0 [3, 7] [(0, 0), (1, 0), (2, 0), (3, 2), (4, 0), (5, 0), (6, 0), (7, 2), (8, 0)] (by kernel_rfl) (by kernel_rfl) rfl (by kernel_rfl) ?_
          refine stepE0 rfl rfl (fun K hK => ?_)
          go_simp
          refine hK _ ?_
          clear hK K
          refine stepE0 rfl rfl (fun K hK => ?_)
          go_simp
          refine hK _ ?_
          clear hK K
          refine stepE0 rfl rfl (fun K hK => ?_)
          go_simp
          refine hK _ ?_
          clear hK K
          refine stepE2 rfl rfl ?_ (fun w1 hS => ?_) (fun K hK => ?_)
          rotate_left
          focus (obtain rfl : w1 = _ := hS; go_simp; rfl)
          go_simp
          refine hK _ ?_
          clear hK K
          refine stepE0 rfl rfl (fun K hK => ?_)
          go_simp
          refine hK _ ?_
          clear hK K
          refine stepE0 rfl rfl (fun K hK => ?_)
          go_simp
          refine hK _ ?_
          clear hK K
          refine stepE0 rfl rfl (fun K hK => ?_)
          go_simp
          refine hK _ ?_
          clear hK K
          refine stepE2 rfl rfl ?_ (fun w1 hS => ?_) (fun K hK => ?_)
          rotate_left
          focus (obtain rfl : w1 = _ := hS; go_simp; rfl)
          go_simp
          refine hK _ ?_
          clear hK K
          refine stepE0 rfl rfl (fun K hK => ?_)
          go_simp
          refine hK _ ?_
          clear hK K
          try refine stepEnil0 ?_
          go_wp2_with fail
          go_ret
          refine ⟨ret_bool (decide_eq_false fun h => HXY.out ?_).symm, HBW.out.drew⟩
          subst h
          rw [← HXX.out, ← HYY.out]
      · go_wp2_with fail
        go_ret
        refine ⟨ret_bool (decide_eq_true ?_).symm, HBW.out⟩
        have := HT.out
        rwa [List.take_of_length_le (by omega), List.take_of_length_le (by have := HL.out; omega)] at this
  · have hdl : ((xs.length : Int) != (ys.length : Int)) = true := by rw [bne_iff_ne]; omega
    have HL := Lib.hid hl
    clear hl ha hb
    go_enter Try.func23, Try.ntmps23
    go_wp2
    go_ret
    exact ⟨ret_bool (decide_eq_false fun h => HL.out (by rw [h])).symm, Below.refl _ _⟩
end Go.Proofs.Ytigkcbnlbdiimaa

/- A region that draws its order, walked once, inside a fence (a round of a range over a function): as the text without a fence. The condition on the region is closed. Whatever the program. -/
namespace Go.Proofs.Ytigkcbnlbdiimaa
open Go.RowKit

section
variable {F : Fence} {n : Nat} {P : Program} {ops : Array Oper} {Q : Exit → Act → World → Prop} {S : World → Prop} {rds : List Nat}
def noDefer (ops : Array Oper) : Bool := ops.all fun o => match o.op with | .defer _ => false | _ => true
theorem noDefer_spec (h : noDefer ops = true) {i : Nat} {o : Oper} (ho : ops[i]? = some o) (r : Option Nat) (f : Operand → Value) : o.semAt r f = execOp f o := by
  refine Oper.semAt_eq r f o fun c hc => ?_
  have h1 := Array.all_eq_true'.1 h o (Array.mem_of_getElem? ho)
  rw [hc] at h1
  cases h1
/-- As wpAnyIn, and S is said behind each operation behind which it is needed. -/
def wpAnyNI (F : Fence) (n : Nat) (P : Program) (ops : Array Oper) (rds : List Nat) (Q : Exit → Act → World → Prop) (S : World → Prop) : Nat → Array Bool → Act → World → Prop
  | 0, listed, a, w => Region.ready .any ops listed = [] ∧ Q .normal a w
  | fuel + 1, listed, a, w =>
    (Region.ready .any ops listed = [] → Q .normal a w) ∧
    ∀ i ∈ Region.ready .any ops listed, wpOpIn F n P ops Q i (fun a' w' => (needs ops rds i = true → S w → S w') ∧ wpAnyNI F n P ops rds Q S fuel (listed.setIfInBounds i true) a' w') a w
theorem wpAnyI_of_N : ∀ (fuel : Nat) (listed : Array Bool) (a : Act) (w : World), wpAnyNI F n P ops rds Q S fuel listed a w → wpAnyIn F n P .any ops Q fuel listed a w
  | 0, _, _, _, h => h
  | fuel + 1, listed, a, w, h => ⟨h.1, fun i hi => wpOpIn_mono (fun a' w' h' => wpAnyI_of_N fuel _ a' w' h'.2) (h.2 i hi)⟩
/-- It yields, and is about to call nothing. -/
def YieldsI (P : Program) (ops : Array Oper) (T : World → Prop) (o : Oper) (v : Value) (a : Act) : Prop := YieldsT P ops T o v a ∧ ∀ w, o.about P w a.eval = none
theorem YieldsI.wpOp {T : World → Prop} {i : Nat} {o : Oper} {v : Value} {a : Act} (hd : noDefer ops = true) (hi : ops[i]? = some o) (hy : YieldsI P ops T o v a)
    {K : Act → World → Prop} {w : World} (hT : T w) (h : K (a.put o.dst v) w) : wpOpIn F n P ops Q i K a w := by
  unfold Go.wpOpIn
  simp only [hi]
  have hab : ∀ f, o.about P w a.eval = some f → F.fn f := fun f hf => by rw [hy.2 w] at hf; cases hf
  rcases hy.1 with ⟨hw, hv⟩ | ⟨hw, rfl⟩
  · simp only [hw, if_true, Oper.wpIn, noDefer_spec hd hi, hv w hT, Oper.uponIn]; exact ⟨hab, h⟩
  · simp only [hw, Bool.false_eq_true, if_false]; exact ⟨hab, h⟩
theorem YieldsI.of_same {T : World → Prop} {o : Oper} {v : Value} {a a' : Act} (hy : YieldsI P ops T o v a) (he : execOp a'.eval o = execOp a.eval o)
    (hw : Region.wanted o (yielded ops a'.tmps) = Region.wanted o (yielded ops a.tmps)) (hb : ∀ w, o.about P w a'.eval = o.about P w a.eval) : YieldsI P ops T o v a' :=
  ⟨hy.1.of_same he hw, fun w => by rw [hb w]; exact hy.2 w⟩
theorem wpOpI_putT {T : World → Prop} {j : Nat} {oi oj : Oper} {v : Value} (hd : noDefer ops = true) (hj : ops[j]? = some oj) (hap : oi.apart ops oj = true)
    (hsi : ∀ cs b, oi.op ≠ .select cs b) (hsj : ∀ cs b, oj.op ≠ .select cs b)
    (hQ : ∀ c a w, Q (.panic c) (a.put oi.dst v) w → Q (.panic c) a w) {K : Act → World → Prop} {a : Act} {w : World}
    (hy : YieldsI P ops T oi v a) (h : wpOpIn F n P ops Q j K (a.put oi.dst v) w) :
    wpOpIn F n P ops Q j (fun a' w' => YieldsI P ops T oi v a' ∧ K (a'.put oi.dst v) w') a w := by
  obtain ⟨h1, h2, h3⟩ := Oper.apart_spec hap
  have keep : ∀ (a : Act), YieldsI P ops T oi v a → ∀ u, YieldsI P ops T oi v (a.put oj.dst u) := fun a hy u =>
    hy.of_same (execOp_put oi hsi a oj.dst u h3) (wanted_put oi a oj.dst u h3) (fun w => about_put oi w a oj.dst u h3)
  have keepD : ∀ d, YieldsI P ops T oi v { a with defers := d :: a.defers } := fun d => hy.of_same rfl rfl (fun _ => rfl)
  have hsem : ∀ (r : Option Nat) (f : Operand → Value), oj.semAt r f = execOp f oj := fun r f => noDefer_spec hd hj r f
  unfold wpOpIn at *
  simp only [hj] at *
  rw [wanted_put oj a oi.dst v h1, about_put oj w a oi.dst v h1] at h
  split
  · rename_i hw
    simp only [hw, if_true] at h
    unfold Oper.wpIn at *
    rw [about_put oj w a oi.dst v h1] at h
    refine ⟨h.1, ?_⟩
    have h := h.2
    rw [hsem, execOp_put oj hsj a oi.dst v h1] at h
    rw [hsem]
    generalize (execOp a.eval oj).run P w = r at *
    cases r with
    | ok x w' =>
      cases x <;> simp only [Oper.uponIn] at h ⊢
      case value u => exact ⟨keep a hy u, by rw [← Act.put_comm a v u h2]; exact h⟩
      case skip => exact ⟨keep a hy _, by rw [← Act.put_comm a v undef h2]; exact h⟩
      case defer d =>
        refine ⟨keep _ (keepD d) _, ?_⟩
        rw [← Act.put_comm _ v undef h2, ← Act.put_defers]
        exact h
      case enter f args =>
        refine ⟨h.1, CallsIn.mono h.2 fun e w'' he => ?_⟩
        cases e with
        | returned u => exact ⟨keep a hy u, by rw [← Act.put_comm a v u h2]; exact he⟩
        | panicked c => exact hQ _ _ _ he
        | outgrown => exact he
      case row row args => exact ⟨h.1, RowsIn.mono h.2 fun u w'' he => ⟨keep a hy u, by rw [← Act.put_comm a v u h2]; exact he⟩⟩
      case round l f tmps assign body =>
        refine ⟨h.1, RoundIn.mono h.2 fun e w'' he => ?_⟩
        cases e with
        | returned u => exact ⟨keep a hy u, by rw [← Act.put_comm a v u h2]; exact he⟩
        | panicked c => exact hQ _ _ _ he
        | outgrown => exact he
    | halt x w' =>
      cases x <;> simp only [Oper.uponIn] at h ⊢
      case panic u => exact hQ _ _ _ h
  · rename_i hw
    simp only [hw] at h
    exact ⟨h.1, keep a hy _, by rw [← Act.put_comm a v undef h2]; exact h.2⟩

theorem wpAnyNI_first {T : World → Prop} {i : Nat} {oi : Oper} {v : Value} {rd : Bool} (hd : noDefer ops = true) (hi : ops[i]? = some oi) (hsel : ∀ (j : Nat) (o : Oper) cs b, ops[j]? = some o → o.op ≠ .select cs b)
    (hQ : ∀ c a w, Q (.panic c) (a.put oi.dst v) w → Q (.panic c) a w) (hTS : rd = true → ∀ w, S w → T w) (hST : rd = true → ∀ w, T w → S w) (hT0 : rd = false → ∀ w, T w) :
    ∀ (fuel : Nat) (listed : Array Bool) (a : Act) (w : World), Closed ops listed →
      (∀ j oj, ops[j]? = some oj → j ≠ i → listed.getD j true = false → waitsFor ops ops.size j i = true ∨ (oi.apart ops oj = true ∧ (rd = true → needs ops rds j = true))) →
      i ∈ Region.ready .any ops listed → T w → YieldsI P ops T oi v a →
      wpAnyNI F n P ops rds Q S fuel (listed.setIfInBounds i true) (a.put oi.dst v) w → wpAnyNI F n P ops rds Q S (fuel + 1) listed a w := by
  intro fuel
  induction fuel with
  | zero =>
    intro listed a w _ _ hr hT hy H
    refine ⟨fun h => (by rw [h] at hr; cases hr), fun j hj => ?_⟩
    by_cases hji : j = i
    · subst hji; exact hy.wpOp hd hi hT ⟨fun _ h => h, H⟩
    · have := ready_mono hj hji
      rw [H.1] at this
      cases this
  | succ fuel ih =>
    intro listed a w hcl hfree hr hT hy H
    refine ⟨fun h => (by rw [h] at hr; cases hr), fun j hj => ?_⟩
    by_cases hji : j = i
    · subst hji; exact hy.wpOp hd hi hT ⟨fun _ h => h, H⟩
    · have h1 := H.2 j (ready_mono hj hji)
      obtain ⟨hjun, oj, hoj, hall⟩ := mem_ready.1 hj
      have hiun := (mem_ready.1 hr).1
      have hnot : ¬ waitsFor ops ops.size j i = true := fun hw => by
        have h1 := hcl.waits _ j i oj hoj hall hw
        have h2 := getD_true_of_false h1
        rw [hiun] at h2
        cases h2
      obtain ⟨hap, hnd⟩ := (hfree j oj hoj hji hjun).resolve_left hnot
      have h2 := wpOpI_putT hd hoj hap (fun cs b => hsel i oi cs b hi) (fun cs b => hsel j oj cs b hoj) hQ hy h1
      have hfree' : ∀ k ok, ops[k]? = some ok → k ≠ i → (listed.setIfInBounds j true).getD k true = false →
          waitsFor ops ops.size k i = true ∨ (oi.apart ops ok = true ∧ (rd = true → needs ops rds k = true)) := fun k ok hk hki hun => by
        refine hfree k ok hk hki ?_
        by_cases hjk : j = k
        · subst hjk; exact hjun
        · rw [getD_set_ne true hjk] at hun; exact hun
      refine wpOpIn_mono (fun a' w' h3 => ?_) h2
      obtain ⟨h4, h5, h6⟩ := h3
      refine ⟨h5, ?_⟩
      have hT' : T w' := by
        cases hrd : rd with
        | true => exact hTS hrd w' (h5 (hnd hrd) (hST hrd w hT))
        | false => exact hT0 hrd w'
      refine ih (listed.setIfInBounds j true) a' w' (hcl.ready hj) hfree' (ready_mono hr (Ne.symm hji)) hT' h4 ?_
      rw [Array.setIfInBounds_comm _ _ hji]
      exact h6

/-- The walk: each operation once. -/
def wpEI (F : Fence) (n : Nat) (P : Program) (ops : Array Oper) (rds : List Nat) (Q : Exit → Act → World → Prop) (S : World → Prop) : List (Nat × Nat) → Act → World → Prop
  | [], a, w => Q .normal a w
  | (i, k) :: rest, a, w => match ops[i]? with
    | none => False
    | some oi => match k with
      | 0 => ∃ v, YieldsI P ops (fun _ => True) oi v a ∧ wpEI F n P ops rds Q S rest (a.put oi.dst v) w
      | 1 => wpOpIn F n P ops Q i (fun a' w' => (needs ops rds i = true → S w → S w') ∧ wpEI F n P ops rds Q S rest a' w') a w
      | _ => ∃ v, YieldsI P ops S oi v a ∧ wpEI F n P ops rds Q S rest (a.put oi.dst v) w
theorem wpNI_of_E (hd : noDefer ops = true) (hsel : ∀ (j : Nat) (o : Oper) cs b, ops[j]? = some o → o.op ≠ .select cs b) (hQ : ∀ c a d v w, Q (.panic c) (a.put d v) w → Q (.panic c) a w) :
    ∀ (l : List (Nat × Nat)) (has : Bool) (listed : Array Bool) (a : Act) (w : World), Closed ops listed → okOrder ops rds has listed l = true → (has = true → S w) →
      wpEI F n P ops rds Q S l a w → wpAnyNI F n P ops rds Q S l.length listed a w
  | [], has, listed, a, w, _, hok, _, h => ⟨by simpa [okOrder] using hok, h⟩
  | (i, k) :: rest, has, listed, a, w, hcl, hok, hS, h => by
    cases hi : ops[i]? with
    | none => simp [okOrder, hi] at hok
    | some oi =>
      simp only [okOrder, hi, Bool.and_eq_true, List.contains_iff_mem] at hok
      obtain ⟨hr, hok⟩ := hok
      simp only [wpEI, hi] at h
      match k, hok, h with
      | 0, hok, h =>
        simp only [Bool.and_eq_true] at hok
        obtain ⟨v, hy, h⟩ := h
        refine wpAnyNI_first (T := fun _ => True) (rd := false) hd hi hsel (fun c a w => hQ c a _ _ w) (fun e => by cases e) (fun e => by cases e) (fun _ _ => trivial) rest.length listed a w hcl (free_spec hok.1) hr trivial hy ?_
        exact wpNI_of_E hd hsel hQ rest has _ _ w (hcl.ready hr) hok.2 hS h
      | 1, hok, h =>
        simp only [Bool.and_eq_true, beq_iff_eq] at hok
        refine ⟨fun e => (by rw [e] at hr; cases hr), fun j hj => ?_⟩
        rw [hok.1] at hj
        have hji : j = i := by simpa using hj
        subst hji
        refine wpOpIn_mono (fun a' w' h' => ⟨h'.1, wpNI_of_E hd hsel hQ rest (has && needs ops rds j) _ a' w' (hcl.ready hr) hok.2 (fun e => ?_) h'.2⟩) h
        simp only [Bool.and_eq_true] at e
        exact h'.1 e.2 (hS e.1)
      | k + 2, hok, h =>
        simp only [Bool.and_eq_true] at hok
        obtain ⟨v, hy, h⟩ := h
        refine wpAnyNI_first (T := S) (rd := true) hd hi hsel (fun c a w => hQ c a _ _ w) (fun _ _ h => h) (fun _ _ h => h) (fun e => by cases e) rest.length listed a w hcl (free_spec hok.1.2) hr (hS hok.1.1) hy ?_
        exact wpNI_of_E hd hsel hQ rest has _ _ w (hcl.ready hr) hok.2 hS h
/-- The region, from its walk. -/
theorem wpIn_region_order {id : Nat} {a : Act} {w : World} (S : World → Prop) (rds : List Nat) (l : List (Nat × Nat)) (hm : P.follows .mixedOrders = true) (hd : noDefer ops = true) (hsel : Region.noSelect ops = true)
    (hlen : l.length = ops.size) (hok : okOrder ops rds true (Array.replicate ops.size false) l = true) (hQ : ∀ c a d v w, Q (.panic c) (a.put d v) w → Q (.panic c) a w)
    (hS : S w.drew) (h : wpEI F n P ops rds Q S l a w.drew) : (Code.region id ops true).wpIn F n P Q a w := by
  refine wpIn_region_any hm (wpAnyI_of_N (rds := rds) (S := S) _ _ _ _ ?_)
  rw [← hlen]
  refine wpNI_of_E hd (fun j o cs b => Region.noSelect_spec hsel j o cs b) hQ l true _ a _ ?_ (by rw [hlen]; exact hok) (fun _ => hS) h
  intro j o ho hj
  rcases Nat.lt_or_ge j l.length with h' | h'
  · simp [h'] at hj
  · have := (Array.getElem?_eq_some_iff.1 ho).1
    omega
theorem wpIn_region_now {id : Nat} {a : Act} {w : World} (rds : List Nat) (l : List (Nat × Nat)) (hm : P.follows .mixedOrders = true) (hd : noDefer ops = true) (hsel : Region.noSelect ops = true)
    (hlen : l.length = ops.size) (hok : okOrder ops rds true (Array.replicate ops.size false) l = true) (hQ : ∀ c a d v w, Q (.panic c) (a.put d v) w → Q (.panic c) a w)
    (h : wpEI F n P ops rds Q (fun w' => w' = w.drew) l a w.drew) : (Code.region id ops true).wpIn F n P Q a w :=
  wpIn_region_order (fun w' => w' = w.drew) rds l hm hd hsel hlen hok hQ rfl h
theorem wpIn_region_order0 {id : Nat} {a : Act} {w : World} (S : World → Prop) (rds : List Nat) (l : List (Nat × Nat)) (hm : P.follows .mixedOrders = true) (hd : noDefer ops = true) (hsel : Region.noSelect ops = true)
    (hlen : l.length = ops.size) (hok : okOrder ops rds true (Array.replicate ops.size false) l = true)
    (hS : S w.drew) (h : wpEI F n P ops rds (onlyNormal Q) S l a w.drew) : (Code.region id ops true).wpIn F n P Q a w :=
  wpIn_mono (wpIn_region_order (Q := onlyNormal Q) S rds l hm hd hsel hlen hok (fun _ _ _ _ _ h => h) hS h) (fun e a w h => by cases e <;> first | exact h | exact False.elim h)
theorem wpIn_region_now0 {id : Nat} {a : Act} {w : World} (rds : List Nat) (l : List (Nat × Nat)) (hm : P.follows .mixedOrders = true) (hd : noDefer ops = true) (hsel : Region.noSelect ops = true)
    (hlen : l.length = ops.size) (hok : okOrder ops rds true (Array.replicate ops.size false) l = true)
    (h : wpEI F n P ops rds (onlyNormal Q) (fun w' => w' = w.drew) l a w.drew) : (Code.region id ops true).wpIn F n P Q a w :=
  wpIn_region_order0 (fun w' => w' = w.drew) rds l hm hd hsel hlen hok rfl h
section
variable {o : Oper} {i : Nat} {rest : List (Nat × Nat)} {a : Act} {w : World}
theorem stepInil0 (h : Q .normal a w) : wpEI F n P ops rds (onlyNormal Q) S [] a w := h
theorem stepI0 (ho : ops[i]? = some o) (hw : Region.wanted o (yielded ops a.tmps) = true) (hab : ∀ w, o.about P w a.eval = none)
    (h : ∀ K : Act → Prop, (∀ a, wpEI F n P ops rds Q S rest a w → K a) → ∃ v, (∀ w1 : World, (execOp a.eval o).run P w1 = .ok (.value v) w1) ∧ K (a.put o.dst v)) : wpEI F n P ops rds Q S ((i, 0) :: rest) a w := by
  obtain ⟨v, h1, h2⟩ := h _ (fun _ h => h)
  simp only [wpEI, ho]
  exact ⟨v, ⟨.inl ⟨hw, fun w1 _ => h1 w1⟩, hab⟩, h2⟩
theorem stepI2 (ho : ops[i]? = some o) (hw : Region.wanted o (yielded ops a.tmps) = true) (hab : ∀ w, o.about P w a.eval = none) (v : Value) (h1 : ∀ w1 : World, S w1 → (execOp a.eval o).run P w1 = .ok (.value v) w1)
    (h : ∀ K : Act → Prop, (∀ a, wpEI F n P ops rds Q S rest a w → K a) → K (a.put o.dst v)) : wpEI F n P ops rds Q S ((i, 2) :: rest) a w := by
  have h2 := h _ (fun _ h => h)
  simp only [wpEI, ho]
  exact ⟨v, ⟨.inl ⟨hw, h1⟩, hab⟩, h2⟩
theorem stepI1 (ho : ops[i]? = some o) (hw : Region.wanted o (yielded ops a.tmps) = true) (hn : needs ops rds i = false)
    (h : ∀ K : Act → World → Prop, (∀ a' w', wpEI F n P ops rds Q S rest a' w' → K a' w') → o.wpIn F n P a w K Q) : wpEI F n P ops rds Q S ((i, 1) :: rest) a w := by
  simp only [wpEI, ho, wpOpIn, hw, if_true]
  exact h _ fun a' w' h => ⟨fun e => absurd e (by rw [hn]; simp), h⟩
theorem stepI1S (ho : ops[i]? = some o) (hw : Region.wanted o (yielded ops a.tmps) = true)
    (h : ∀ K : Act → World → Prop, (∀ a' w', S w' ∧ wpEI F n P ops rds Q S rest a' w' → K a' w') → o.wpIn F n P a w K Q) : wpEI F n P ops rds Q S ((i, 1) :: rest) a w := by
  simp only [wpEI, ho, wpOpIn, hw, if_true]
  exact h _ fun a' w' h => ⟨fun _ _ => h.1, h.2⟩
theorem stepInil (h : Q .normal a w) : wpEI F n P ops rds Q S [] a w := h
end
end
end Go.Proofs.Ytigkcbnlbdiimaa

/- Package pack: the parts of Put. -/
namespace Go.Proofs.Ytigkcbnlbdiimaa
open Go.RowKit Go.Shelf
attribute [local go_sem] Oper.semAt_some
/-- slices.Clone at []byte,byte. -/
theorem clone_info_Byte : (Try.prog.info? 5).map (fun i => (i.zero, i.size, i.bytes)) = some (some (.int .u8 0), 1, 1) := by kernel_rfl
set_option maxRecDepth 100000 in
set_option maxHeartbeats 1000000 in
theorem clone_Byte (v : Value) (n : Nat) (xs : List Value) (w : World) (h : Reads w 1 v n xs) (h1 : ∀ u ∈ xs, u.oneCell' = true) (hb : n * 1 ≤ 140737488355328) :
    Calls Try.prog 83 #[v] w (CloneOut w 5 1 v n xs) := by
  obtain ⟨i0, hi, hz0, hz1, hz2⟩ := info_parts clone_info_Byte
  obtain ⟨hlen, ⟨rfl, rfl⟩ | ⟨a, c, rfl, hm, hcell⟩⟩ := h
  · have hx : xs = [] := List.eq_nil_of_length_eq_zero (by simpa using hlen)
    subst hx
    clear hi hz0 hz1 hz2 hlen h1 hb
    have hne := fun (wx : World) => Lib.run_eql_slice_nil (P := Try.prog) wx 44 5 none 0 0 0 0 Try.underlying44
    go_enter Try.func83, Try.ntmps83
    go_wp2
    go_ret
    exact ⟨_, rfl, World.ownsRow_nil _ _ _ _, Iff.rfl, Below.refl _ _⟩
  · have hne := fun (wx : World) => Lib.run_eql_slice_nil (P := Try.prog) wx 44 5 (some a) n c 0 0 Try.underlying44
    have HI := Lib.hid hi
    have HZ0 := Lib.hid hz0
    have HZ1 := Lib.hid hz1
    have HZ2 := Lib.hid hz2
    have HL := Lib.hid hlen
    have HC := Lib.hid hcell
    have H1 := Lib.hid h1
    clear hi hz0 hz1 hz2 hlen hcell h1
    go_enter Try.func83, Try.ntmps83
    go_wp2_with (at_builtin; refine wpList_append_own _ rfl _ _ 44 rfl w.heap.size 5 i0 (.int .u8 0) 1 1 Try.underlying44 HI.out HZ0.out HZ1.out HZ2.out rfl (by decide) (.slice (some ⟨w.heap.size, 0, none⟩) 0 0) 0 [] rfl (World.ownsRow_lit w #[] 0 (Nat.le_refl _) (by unfold maxLen; omega) rfl) a n c xs rfl HL.out (fun j u hu => cell_later ((Below.refl _ _).alloc (Nat.le_refl _) _) (HC.out j u hu)) H1.out (by omega) (by omega) (by simp) ?_; intro v' w1 hown' hgrow hnil)
    go_ret
    exact ⟨_, rfl, by simpa using hown', by simpa using hnil, (((Below.refl _ _).alloc (Nat.le_refl _) _).grown hgrow (by simp) (by simp [Value.ownBlock]))⟩
set_option maxHeartbeats 400000 in
theorem sized_any (k : Int) (w : World) : Calls Try.prog 81 #[.int .i64 k] w fun e w' => e = .returned (.bool (k == 1 || k == 2 || k == 4 || k == 8)) ∧ w = w' := by
  go_enter Try.func81, Try.ntmps81
  go_wp2
  all_goals
    go_ret
    exact ⟨ret_bool (by simp [*]), rfl⟩
theorem byte_cast (n k : Nat) : ((n / 256 ^ k % 256 : Nat) : Int) = (n : Int) / 2 ^ (8 * k) % 256 := by
  rw [Int.natCast_emod, Int.natCast_ediv, Int.natCast_pow, show ((256 : Nat) : Int) = 2 ^ 8 from rfl, ← Int.pow_mul]
  rfl
theorem part_byte (n k : Nat) (hk : k < 8) (B : Nat) (w : World) (hn : n < 18446744073709551616) (hc : w.cell? ⟨B, 0, none⟩ = some (.int .u64 n)) :
    Calls Try.prog 84 #[.int .i64 k, .pointer (some ⟨B, 0, none⟩)] w fun e w' => e = .returned (.int .u8 ((n / 256 ^ k % 256 : Nat) : Int)) ∧ w = w' := by
  go_enter Try.func84, Try.ntmps84
  go_wp2
  go_ret
  exact ⟨ret_int (byte_cast n k).symm, rfl⟩
theorem fits_cast (n k : Nat) (hk : k ≠ 8) : decide (n < 256 ^ k) = ((k : Int) == 8 || (n : Int) / 2 ^ (8 * k) == 0) := by
  have h1 : ((k : Int) == 8) = false := beq_eq_false_iff_ne.2 (by omega)
  rw [h1, Bool.false_or, Bool.eq_iff_iff, decide_eq_true_iff, beq_iff_eq]
  have h2 : (n : Int) / 2 ^ (8 * k) = ((n / 256 ^ k : Nat) : Int) := by
    rw [Int.natCast_ediv, Int.natCast_pow, show ((256 : Nat) : Int) = 2 ^ 8 from rfl, ← Int.pow_mul]
  rw [h2]
  have h3 := Nat.div_eq_zero_iff_lt (x := n) (k := 256 ^ k) (Nat.pow_pos (by omega))
  omega
set_option maxHeartbeats 400000 in
theorem fits_any (n : Nat) (k : Nat) (hn : n < 18446744073709551616) (hk : k = 1 ∨ k = 2 ∨ k = 4 ∨ k = 8) (w : World) :
    Calls Try.prog 82 #[.int .u64 n, .int .i64 k] w fun e w' => e = .returned (.bool (decide (n < 256 ^ k))) ∧ w = w' := by
  by_cases h8 : k = 8
  · subst h8
    have hd : decide (n < 256 ^ 8) = true := by simpa using hn
    rw [hd]
    clear hd hk
    have H := Lib.hid hn
    clear hn
    go_enter Try.func82, Try.ntmps82
    go_wp2
    go_ret
    exact ⟨rfl, rfl⟩
  · have HD := Lib.hid (fits_cast n k h8)
    have hk9 : k < 8 := by omega
    have HK := Lib.hid hk
    clear hk
    go_enter Try.func82, Try.ntmps82
    go_wp2
    go_ret
    exact ⟨ret_bool (by rw [HD.out]), rfl⟩
/-- The byte k of a number. -/
def nthByte (n k : Nat) : UInt8 := UInt8.ofNat (n / 256 ^ k)
theorem part_any (n k : Nat) (hk : k < 8) (B : Nat) (w : World) (hn : n < 18446744073709551616) (hc : w.cell? ⟨B, 0, none⟩ = some (.int .u64 n)) :
    Calls Try.prog 84 #[.int .i64 k, .pointer (some ⟨B, 0, none⟩)] w fun e w' => e = .returned (.int .u8 ((nthByte n k).toNat : Int)) ∧ w = w' := by
  have h := part_byte n k hk B w hn hc
  have e : (Value.int .u8 ((nthByte n k).toNat : Int)) = .int .u8 ((n / 256 ^ k % 256 : Nat) : Int) := by
    unfold nthByte
    rw [UInt8.toNat_ofNat']
  rw [e]
  exact h
/-- Two blocks lie as they lay. -/
def Kept (b c : Nat) (W W' : World) : Prop := W'.heap[b]? = W.heap[b]? ∧ W'.heap[c]? = W.heap[c]?
theorem Kept.refl (b c : Nat) (W : World) : Kept b c W W := ⟨rfl, rfl⟩
theorem Kept.trans {b c : Nat} {A B C : World} (h : Kept b c A B) (k : Kept b c B C) : Kept b c A C := ⟨k.1.trans h.1, k.2.trans h.2⟩
theorem Kept.cell1 {b c : Nat} {W W' : World} (h : Kept b c W W') (o : Nat) : W'.cell? ⟨b, o, none⟩ = W.cell? ⟨b, o, none⟩ := World.cell?_of_block (a := ⟨b, o, none⟩) h.1
theorem Kept.cell2 {b c : Nat} {W W' : World} (h : Kept b c W W') (o : Nat) : W'.cell? ⟨c, o, none⟩ = W.cell? ⟨c, o, none⟩ := World.cell?_of_block (a := ⟨c, o, none⟩) h.2
/-- Backward: what has come when the indices down to m are over. -/
def backL (L m : Nat) : List (Fin L) := ((List.finRange L).drop m).reverse
theorem backL_len (L m : Nat) : (backL L m).length = L - m := by simp [backL]
theorem backL_all (L : Nat) : backL L L = [] := by simp [backL, List.drop_eq_nil_of_le]
theorem backL_step (L j : Nat) (h : j < L) : backL L j = backL L (j + 1) ++ [⟨j, h⟩] := by
  unfold backL
  rw [List.drop_eq_getElem_cons (by simpa using h)]
  simp
def backEnc (zs : List UInt8) (i : Fin zs.length) : Array Value := #[.int .i64 (i.val : Int), .int .u8 (zs[i.val].toNat : Int)]
set_option maxRecDepth 100000 in
set_option maxHeartbeats 2000000 in
theorem back1_in (F : Fence) (n : Nat) (hF : F.fn 92) (hro : F.round = none) (hn : 1 ≤ n) (l Bs b off cap : Nat) (zs : List UInt8) (hreach : zs.length ≤ maxLen) (J Jx : List (Fin zs.length) → World → Prop)
    (hY : ∀ pre x W, J pre W → pre.length < zs.length → YieldAt F (n - 1) Try.prog l (backEnc zs x) W fun e W' =>
      (e = .returned (.bool true) ∧ J (pre ++ [x]) W' ∧ Kept b Bs W W') ∨ (e = .returned (.bool false) ∧ Jx (pre ++ [x]) W'))
    (W : World) (hBs : W.cell? ⟨Bs, 0, none⟩ = some (.slice (some ⟨b, off, none⟩) zs.length cap)) (hc : ∀ j (h : j < zs.length), W.cell? ⟨b, off + j, none⟩ = some (.int .u8 (zs[j].toNat : Int))) (h0 : J [] W) :
    CallsIn F n Try.prog 92 #[.func (.yield l) #[] #[], .pointer (some ⟨Bs, 0, none⟩)] W fun e W' => (∃ v, e = .returned v) ∧
      ((∃ ys, ys = backL zs.length 0 ∧ J ys W') ∨ (∃ pre, (∃ k, k ≤ zs.length ∧ pre = backL zs.length k) ∧ Jx pre W')) := by
  unfold maxLen at hreach
  have HC := Lib.hid hc
  clear hc
  refine callsIn_of_wp Try.func92 rfl hF ?_ hro
  simp only [Try.ntmps92, List.size_toArray, List.length_cons, List.length_nil, Nat.reduceAdd, Nat.reduceSub, Array.replicate_succ, Array.replicate_zero, List.push_toArray, List.append_toArray, List.nil_append, List.cons_append]
  gi_wp2
  gi_loopw [3] (fun i wr => ∃ m : Nat, m ≤ zs.length ∧ i = .int .i64 ((m : Int) - 1) ∧ J (backL zs.length m) wr ∧ Kept b Bs W wr)
    (fun i _ => (intOf i + 1).toNat)
  case atStart => exact ⟨zs.length, Nat.le_refl _, rfl, by rw [backL_all]; exact h0, Kept.refl _ _ _⟩
  case round =>
    obtain ⟨m, hm, rfl, hJ, hnx⟩ := hrel
    have hBs' := (hnx.cell2 0).trans hBs
    rcases m with _ | j
    · have HJ := Lib.hid hJ
      clear hJ
      gi_wp2
      go_end0
      exact ⟨⟨_, rfl⟩, .inl ⟨_, rfl, HJ.out⟩⟩
    · have hcx := (hnx.cell1 (off + j)).trans (HC.out j (by omega))
      have hjl : j < zs.length := by omega
      have HF := Lib.hid (backL_step zs.length j hjl)
      obtain ⟨fn, tmps, assign, body, hy, hR⟩ := hY _ ⟨j, hjl⟩ wr hJ (by rw [backL_len]; omega)
      dsimp only [backEnc] at hy
      have e1 : ((j + 1 : Nat) : Int) - 1 = (j : Int) := by omega
      rw [e1]
      clear e1 hJ
      gi_wp2
      refine hR.mono ?_
      rintro e W3 (⟨rfl, hJ3, hk3⟩ | ⟨rfl, hJx3⟩)
      · have HJ := Lib.hid hJ3
        have hk := hnx.trans hk3
        clear hJ3 hk3 hnx
        gi_wp2
        go_roundw
        case rel => exact ⟨j, by omega, rfl, by rw [HF.out]; exact HJ.out, hk⟩
        case measure => first | (simp [intOf]; done) | (simp [intOf]; omega)
      · have HJ := Lib.hid hJx3
        clear hJx3
        gi_wp2
        refine bodyPost_ret (results_none rfl _ _ _) rfl ?_
        exact ⟨⟨_, rfl⟩, .inr ⟨_, ⟨j, by omega, HF.out.symm⟩, HJ.out⟩⟩
set_option maxHeartbeats 1000000 in
theorem back_any (a : Option Addr) (len cap : Nat) (w : World) :
    Calls Try.prog 85 #[.slice a len cap] w fun e w' => e = .returned (.func (.func 92) #[] #[.pointer (some ⟨w.heap.size, 0, none⟩)]) ∧ w.alloc (.cells #[.slice a len cap] 44) = w' := by
  go_enter Try.func85, Try.ntmps85
  go_wp2
  go_ret
  exact ⟨rfl, rfl⟩
theorem back_stops (F : Fence) (n : Nat) (hF : F.fn 92) (hro : F.round = none) (hn : 1 ≤ n) (Bs b off cap : Nat) (zs : List UInt8) (hreach : zs.length ≤ maxLen) (w : World) (hBs : Bs < w.heap.size) (hb : b < w.heap.size)
    (hc : w.cell? ⟨Bs, 0, none⟩ = some (.slice (some ⟨b, off, none⟩) zs.length cap)) (hI : ∀ j (h : j < zs.length), w.cell? ⟨b, off + j, none⟩ = some (.int .u8 (zs[j].toNat : Int))) :
    SeqStopsK F n Try.prog 92 #[.pointer (some ⟨Bs, 0, none⟩)] (backEnc zs) (Kept b Bs) (fun ys => ys = backL zs.length 0)
      (fun pre => ∃ k, k ≤ zs.length ∧ pre = backL zs.length k) zs.length w := fun l J Jx W hW _ _ hY h0 =>
  back1_in F n hF hro hn l Bs b off cap zs hreach J Jx hY W ((hW.cell (p := ⟨Bs, 0, none⟩) hBs).trans hc) (fun j hj => (hW.cell (p := ⟨b, off + j, none⟩) hb).trans (hI j hj)) h0
theorem kept_put {b c : Nat} {w : World} (hb : b < w.heap.size) (hc : c < w.heap.size) (W : World) (l : Nat) (o o' : Obj) (hl : w.heap.size ≤ l) (_ : W.heap[l]? = some o) (_ : o.isCells = false) (_ : o.isWalk = false) : Kept b c W (W.putObj l o') := by
  constructor <;> (simp only [World.putObj]; rw [Array.getElem?_setIfInBounds]; rw [if_neg (by omega)])
/-- The temporaries behind the assignment to one left side. -/
def assignAct (a : Act) (ps : Array Tmp) (vs : Array Value) (d p : Tmp) : Act :=
  { tmps := (((ps.zip vs).foldl (fun t (p, v) => t.setIfInBounds p v) a.tmps)).setIfInBounds d ((((ps.zip vs).foldl (fun t (p, v) => t.setIfInBounds p v) a.tmps)).getD p undef), defers := [] }
theorem wpIn_assign_one {F : Fence} {n : Nat} {P : Program} {Q : Exit → Act → World → Prop} {id : Nat} {d p : Tmp} {ty : TypeId} {po : String} {a : Act} {w : World}
    (h : Q .normal (a.put (some d) (a.tmps.getD p undef)) w) : (Code.region id #[{ dst := some d, op := .assign (.tmp p), type := ty, pos := po, after := #[], guard := none }] false).wpIn F n P Q a w := by
  refine wpIn_region ?_
  show wpOpsIn F n P _ Q [0] a w
  simp only [wpOpsIn, List.getElem?_toArray, List.getElem?_cons_zero, Region.wanted, if_true]
  unfold Oper.wpIn
  refine ⟨fun f hf => (by cases hf), ?_⟩
  rw [Oper.semAt_eq _ _ _ (by intro c hc; cases hc)]
  exact h
/-- A range over a function whose one variable is assigned. -/
theorem wpIn_rangeFunc_one {F : Fence} {n : Nat} {P : Program} {α : Type} {g : Operand} {ps : Array Tmp} {id : Nat} {d p : Tmp} {ty : TypeId} {po : String} {body : Code} {Q : Exit → Act → World → Prop} {a : Act} {w : World}
    (hro : F.round = none) (h1 : 1 ≤ n) {gf : Nat} {lb : Array Value} (hg : a.eval g = .func (.func gf) #[] lb) (hFg : F.fn gf) (eg : ∀ args w, (callFunc gf args).run P w = .ok (.enter gf args) w)
    {encs : α → Array Value} {Kp : World → World → Prop} {S Sp : List α → Prop} {N : Nat} {w0 : World} (hseq : SeqStopsK F (n - 1) P gf lb encs Kp S Sp N w0)
    (hKt : ∀ {A B C : World}, Kp A B → Kp B C → Kp A C) (hKb : ∀ (W : World) (l : Nat) (o o' : Obj), w.heap.size ≤ l → W.heap[l]? = some o → o.isCells = false → o.isWalk = false → Kp W (W.putObj l o')) (hb0 : Below w0.heap.size w0 w) (hps : ∀ x, (encs x).size = ps.size)
    (I : List α → World → Prop) (Ix : Code → List α → World → Prop) (hI : OwnFrom w.heap.size I) (hIx : ∀ c, OwnFrom w.heap.size (Ix c)) (h0 : I [] w)
    (hbody : ∀ (l : Nat) (pre : List α) (x : α) (W : World), I pre W → pre.length < N → body.wpIn (F.inRound l) (n - 1 - 1) P (ownPostG w.heap.size Kp I Ix (pre ++ [x]) W) (assignAct a ps (encs x) d p) W)
    (hdone : ∀ (D : Nat) (xs : List α) (W : World), w.heap.size ≤ D → S xs → I xs W → W.heap[D]? = some (.deferred (some [])) → Q .normal { a with defers := { target := .collected D, args := #[] } :: a.defers } W)
    (hstop : ∀ (D : Nat) (c : Code) (pre : List α) (W : World), w.heap.size ≤ D → Sp pre → Ix c pre W → W.heap[D]? = some (.deferred (some [])) → c.wpIn F n P Q { a with defers := { target := .collected D, args := #[] } :: a.defers } W) :
    (Code.rangeFunc g ps (Code.region id #[{ dst := some d, op := .assign (.tmp p), type := ty, pos := po, after := #[], guard := none }] false) body).wpIn F n P Q a w :=
  wpIn_rangeFunc_ownG hro h1 hg hFg eg hseq hKt hKb hb0 hps I Ix hI hIx h0 (fun x => assignAct a ps (encs x) d p)
    (fun l x W K hK => wpIn_assign_one hK) hbody hdone hstop
end Go.Proofs.Ytigkcbnlbdiimaa

/- Package pack: what Put holds while it works. -/
namespace Go.Proofs.Ytigkcbnlbdiimaa
open Go.RowKit Go.Shelf
/-- The boxes of Put: the number's at Bn, out's at Bo, rest's at Br. -/
structure PutSt (w0 w : World) (Bn Bo Br n : Nat) (vo : Value) (os : List UInt8) (vr : Value) (rs : List UInt8) : Prop where
  bel : Below w0.heap.size w0 w
  hn : w.heap[Bn]? = some (.cells #[.int .u64 n] 114 (0, 0))
  ho : w.heap[Bo]? = some (.cells #[vo] 44 (0, 0))
  hr : w.heap[Br]? = some (.cells #[vr] 44 (0, 0))
  ro : w.ownsRow w0.heap.size 5 1 vo os.length (os.map bv)
  rr : w.ownsRow w0.heap.size 5 1 vr rs.length (rs.map bv)
  low : w0.heap.size ≤ Bn ∧ w0.heap.size ≤ Bo ∧ w0.heap.size ≤ Br
  ne : Bn ≠ Bo ∧ Bn ≠ Br ∧ Bo ≠ Br
  no : vo.ownBlock ≠ some Bn ∧ vo.ownBlock ≠ some Bo ∧ vo.ownBlock ≠ some Br
  nr : vr.ownBlock ≠ some Bn ∧ vr.ownBlock ≠ some Bo ∧ vr.ownBlock ≠ some Br
  apart : ∀ g, vo.ownBlock = some g → vr.ownBlock ≠ some g
theorem PutSt.lt {w0 w : World} {Bn Bo Br n : Nat} {vo : Value} {os : List UInt8} {vr : Value} {rs : List UInt8} (h : PutSt w0 w Bn Bo Br n vo os vr rs) : Bn < w.heap.size ∧ Bo < w.heap.size ∧ Br < w.heap.size :=
  ⟨(Array.getElem?_eq_some_iff.1 h.hn).1, (Array.getElem?_eq_some_iff.1 h.ho).1, (Array.getElem?_eq_some_iff.1 h.hr).1⟩
theorem PutSt.cells {w0 w : World} {Bn Bo Br n : Nat} {vo : Value} {os : List UInt8} {vr : Value} {rs : List UInt8} (h : PutSt w0 w Bn Bo Br n vo os vr rs) :
    w.cell? ⟨Bn, 0, none⟩ = some (.int .u64 n) ∧ w.cell? ⟨Bo, 0, none⟩ = some vo ∧ w.cell? ⟨Br, 0, none⟩ = some vr ∧ w.frozen? ⟨Bo, 0, none⟩ = false ∧ w.frozen? ⟨Br, 0, none⟩ = false :=
  ⟨by rw [cell_of_row w Bn 0 _ _ _ h.hn]; rfl, by rw [cell_of_row w Bo 0 _ _ _ h.ho]; rfl, by rw [cell_of_row w Br 0 _ _ _ h.hr]; rfl, frozen_of_row w Bo 0 _ _ h.ho, frozen_of_row w Br 0 _ _ h.hr⟩
theorem PutSt.keep {w0 w w' : World} {Bn Bo Br n : Nat} {vo : Value} {os : List UInt8} {vr : Value} {rs : List UInt8} (h : PutSt w0 w Bn Bo Br n vo os vr rs) (hb : Below w.heap.size w w') : PutSt w0 w' Bn Bo Br n vo os vr rs := by
  obtain ⟨h1, h2, h3⟩ := h.lt
  exact ⟨h.bel.trans (hb.mono h.bel.size), (hb.block _ h1).trans h.hn, (hb.block _ h2).trans h.ho, (hb.block _ h3).trans h.hr,
    ownsRow_at h.ro (fun k hk => hb.block k (h.ro.lt k hk).2), ownsRow_at h.rr (fun k hk => hb.block k (h.rr.lt k hk).2), h.low, h.ne, h.no, h.nr, h.apart⟩
theorem PutSt.drew {w0 w : World} {Bn Bo Br n : Nat} {vo : Value} {os : List UInt8} {vr : Value} {rs : List UInt8} (h : PutSt w0 w Bn Bo Br n vo os vr rs) : PutSt w0 w.drew Bn Bo Br n vo os vr rs :=
  h.keep ((Below.refl _ w).drew)
/-- An append to rest, stored back. -/
theorem PutSt.onRest {w0 w w2 : World} {Bn Bo Br n g cap m : Nat} {vo : Value} {os : List UInt8} {vr : Value} {rs ns : List UInt8} (h : PutSt w0 w Bn Bo Br n vo os vr rs)
    (hg : w.grownBy w2 vr.ownBlock) (hown : w2.ownsRow w0.heap.size 5 1 (.slice (some ⟨g, 0, none⟩) m cap) m ((rs ++ ns).map bv)) (hm : m = (rs ++ ns).length) (hat : vr.ownBlock = some g ∨ g = w.heap.size) :
    PutSt w0 (w2.setCell ⟨Br, 0, none⟩ (.slice (some ⟨g, 0, none⟩) m cap)) Bn Bo Br n vo os (.slice (some ⟨g, 0, none⟩) m cap) (rs ++ ns) := by
  subst hm
  obtain ⟨h1, h2, h3⟩ := h.lt
  obtain ⟨e1, e2, e3⟩ := h.ne
  have hgn : g ≠ Bn ∧ g ≠ Bo ∧ g ≠ Br := by
    obtain ⟨x1, x2, x3⟩ := h.nr
    rcases hat with h' | h'
    · refine ⟨fun e => x1 (by rw [h', e]), fun e => x2 (by rw [h', e]), fun e => x3 (by rw [h', e])⟩
    · omega
  have b1 := hg.block Bn h1 (fun e => h.nr.1 e.symm)
  have b2 := hg.block Bo h2 (fun e => h.nr.2.1 e.symm)
  have b3 := hg.block Br h3 (fun e => h.nr.2.2 e.symm)
  refine ⟨(h.bel.grown hg h.bel.size (fun k e => (h.rr.lt k e).1)).setCell h.low.2.2 _, (heap_setCell_other w2 _ Bn _ e2).trans (b1.trans h.hn), (heap_setCell_other w2 _ Bo _ e3).trans (b2.trans h.ho), heap_setCell_same w2 Br 0 _ _ _ (b3.trans h.hr),
    ownsRow_at (ownsRow_at h.ro (fun k hk => hg.block k (h.ro.lt k hk).2 (fun e => h.apart k hk e.symm))) (fun k hk => heap_setCell_other w2 _ k _ (fun e => h.no.2.2 (by rw [hk, e]))), ownsRow_at hown (fun k hk => heap_setCell_other w2 _ k _ (fun e => hgn.2.2 (by have h1 : g = k := (by simpa [Value.ownBlock] using hk); exact h1.trans e))),
    h.low, h.ne, h.no, ⟨fun e => hgn.1 (by simpa [Value.ownBlock] using e), fun e => hgn.2.1 (by simpa [Value.ownBlock] using e), fun e => hgn.2.2 (by simpa [Value.ownBlock] using e)⟩, ?_⟩
  intro k hk e
  have e' : g = k := by simpa [Value.ownBlock] using e
  subst e'
  rcases hat with h' | h'
  · exact h.apart g hk h'
  · have := (h.ro.lt g hk).2; omega
/-- An append to out, stored back. -/
theorem PutSt.onOut {w0 w w2 : World} {Bn Bo Br n g cap m : Nat} {vo : Value} {os ns : List UInt8} {vr : Value} {rs : List UInt8} (h : PutSt w0 w Bn Bo Br n vo os vr rs)
    (hg : w.grownBy w2 vo.ownBlock) (hown : w2.ownsRow w0.heap.size 5 1 (.slice (some ⟨g, 0, none⟩) m cap) m ((os ++ ns).map bv)) (hm : m = (os ++ ns).length) (hat : vo.ownBlock = some g ∨ g = w.heap.size) :
    PutSt w0 (w2.setCell ⟨Bo, 0, none⟩ (.slice (some ⟨g, 0, none⟩) m cap)) Bn Bo Br n (.slice (some ⟨g, 0, none⟩) m cap) (os ++ ns) vr rs := by
  subst hm
  obtain ⟨h1, h2, h3⟩ := h.lt
  obtain ⟨e1, e2, e3⟩ := h.ne
  have hgn : g ≠ Bn ∧ g ≠ Bo ∧ g ≠ Br := by
    obtain ⟨x1, x2, x3⟩ := h.no
    rcases hat with h' | h'
    · refine ⟨fun e => x1 (by rw [h', e]), fun e => x2 (by rw [h', e]), fun e => x3 (by rw [h', e])⟩
    · omega
  have b1 := hg.block Bn h1 (fun e => h.no.1 e.symm)
  have b2 := hg.block Bo h2 (fun e => h.no.2.1 e.symm)
  have b3 := hg.block Br h3 (fun e => h.no.2.2 e.symm)
  refine ⟨(h.bel.grown hg h.bel.size (fun k e => (h.ro.lt k e).1)).setCell h.low.2.1 _, (heap_setCell_other w2 _ Bn _ e1).trans (b1.trans h.hn), heap_setCell_same w2 Bo 0 _ _ _ (b2.trans h.ho), (heap_setCell_other w2 _ Br _ (fun e => e3 e.symm)).trans (b3.trans h.hr),
    ownsRow_at hown (fun k hk => heap_setCell_other w2 _ k _ (fun e => hgn.2.1 (by have h1 : g = k := (by simpa [Value.ownBlock] using hk); exact h1.trans e))), ownsRow_at (ownsRow_at h.rr (fun k hk => hg.block k (h.rr.lt k hk).2 (fun e => h.apart k e.symm hk))) (fun k hk => heap_setCell_other w2 _ k _ (fun e => h.nr.2.1 (by rw [hk, e]))),
    h.low, h.ne, ⟨fun e => hgn.1 (by simpa [Value.ownBlock] using e), fun e => hgn.2.1 (by simpa [Value.ownBlock] using e), fun e => hgn.2.2 (by simpa [Value.ownBlock] using e)⟩, h.nr, ?_⟩
  intro k hk e
  have e' : g = k := by simpa [Value.ownBlock] using hk
  subst e'
  rcases hat with h' | h'
  · exact h.apart g h' e
  · have := (h.rr.lt g e).2; omega
theorem PutSt.start (w w1 : World) (n : Nat) (a1 : Option Addr) (nb c1 : Nat) (bs : List UInt8) (hnb : nb = bs.length) (x : UInt8) (hB : Below w.heap.size w w1) (kb : w1.heap[w.heap.size]? = some (.cells #[.int .u64 n] 114 (0, 0)))
    (ho : w1.ownsRow (w.heap.size + 1) 5 1 (.slice a1 nb c1) nb (bs.map bv)) (hz : w.heap.size < w1.heap.size) :
    PutSt w (((w1.alloc (.cells #[.slice a1 nb c1] 44)).alloc (.cells #[.int .u8 (x.toNat : Int)] 5)).alloc (.cells #[.slice (some ⟨w1.heap.size + 1, 0, none⟩) 1 1] 44))
      w.heap.size w1.heap.size (w1.heap.size + 1 + 1) n (.slice a1 nb c1) bs (.slice (some ⟨w1.heap.size + 1, 0, none⟩) 1 1) [x] := by
  subst hnb
  have hlt := ho.lt
  have h1 : ∀ k, k < w1.heap.size → (((w1.alloc (.cells #[.slice a1 bs.length c1] 44)).alloc (.cells #[.int .u8 (x.toNat : Int)] 5)).alloc (.cells #[.slice (some ⟨w1.heap.size + 1, 0, none⟩) 1 1] 44)).heap[k]? = w1.heap[k]? := fun k hk => by
    rw [Below.heap_alloc _ _ _ (by simp; omega), Below.heap_alloc _ _ _ (by simp; omega), Below.heap_alloc _ _ _ hk]
  refine ⟨((hB.alloc (by omega) _).alloc (by simp; omega) _).alloc (by simp; omega) _, (h1 _ hz).trans kb, ?_, ?_, ownsRow_at (ownsRow_mono ho (by omega)) (fun k hk => h1 k (hlt k hk).2), ?_, ⟨Nat.le_refl _, by omega, by omega⟩, ⟨by omega, by omega, by omega⟩,
    ⟨fun e => by have := hlt _ e; omega, fun e => by have := hlt _ e; omega, fun e => by have := hlt _ e; omega⟩, ⟨by simp [Value.ownBlock]; omega, by simp [Value.ownBlock], by simp [Value.ownBlock]⟩, fun g hg => by have := hlt _ hg; simp [Value.ownBlock]; omega⟩
  · rw [Below.heap_alloc _ _ _ (by simp; omega), Below.heap_alloc _ _ _ (by simp)]
    exact heap_alloc_new _ _
  · have := heap_alloc_new ((w1.alloc (.cells #[.slice a1 bs.length c1] 44)).alloc (.cells #[.int .u8 (x.toNat : Int)] 5)) (.cells #[.slice (some ⟨w1.heap.size + 1, 0, none⟩) 1 1] 44)
    simpa using this
  · have h2 := (World.ownsRow_lit (base := w.heap.size) (e := 5) (size := 1) (w1.alloc (.cells #[.slice a1 bs.length c1] 44)) #[.int .u8 (x.toNat : Int)] 1 (by simp; omega) (by unfold maxLen; omega) rfl).alloc (.cells #[.slice (some ⟨w1.heap.size + 1, 0, none⟩) 1 1] 44)
    simpa [bv] using h2
theorem wpIn_append_lies {P : Program} {F : Fence} {nn : Nat} (w : World) {o : Oper} {a : Act} {K : Act → World → Prop} {Q : Exit → Act → World → Prop} (s x : Operand) (t : TypeId)
    (ho : o.op = .call { callee := .builtin .append, args := #[s, x], argTypes := #[t, t] })
    (base : Nat) (e : TypeId) (i : TypeInfo) (z : Value) (size bytes : Nat) (ht : P.underlying t = some (.slice e)) (hi : P.info? e = some i) (hz : i.zero = some z)
    (hsize : i.size = size) (hby : i.bytes = bytes) (hzs : z.cells.size = size) (hsz : 0 < size)
    (v : Value) (n : Nat) (xs : List Value) (hs : a.eval s = v) (hown : w.ownsRow base e size v n xs)
    (ad : Addr) (m c : Nat) (news : List Value) (hx : a.eval x = .slice (some ad) m c) (hl : news.length = m * size) (hnews : ∀ j u, news[j]? = some u → w.cell? (ad.add j) = some u) (h1 : ∀ u ∈ news, u.oneCell' = true)
    (hm : 0 < m) (h63 : n + m ≤ maxLen) (hbytes : (n + m) * bytes ≤ 140737488355328) (hbase : base ≤ w.heap.size) (H : Nat) (hH : w.heap.size = H)
    (h : ∀ g cap w', w'.ownsRow base e size (.slice (some ⟨g, 0, none⟩) (n + m) cap) (n + m) (xs ++ news) → w.grownBy w' v.ownBlock → (v.ownBlock = some g ∨ g = H) → g < w'.heap.size → K (a.put o.dst (.slice (some ⟨g, 0, none⟩) (n + m) cap)) w') : o.wpIn F nn P a w K Q := by
  obtain ⟨g, cap, w', hr, h2, h3, h4, h5⟩ := run_append_lies (P := P) w t o.type base e i z size bytes ht hi hz hsize hby hzs hsz v n xs hown ad m c news hl hnews h1 hm h63 hbytes hbase H hH
  unfold Oper.wpIn
  refine ⟨fun f hf => ?_, ?_⟩
  · simp [Oper.about, ho, resolve, Target.leads] at hf
  · rw [Oper.semAt_eq _ _ _ (by rw [ho]; intro c hc; cases hc)]
    unfold execOp
    simp only [ho, resolve, invoke, builtin, Sem.run_bind, Sem.run_pure, Result.andThen_ok, List.map_toArray, List.map_cons, List.map_nil, hs, hx, hr]
    exact h g cap w' h2 h3 h4 h5
theorem owns_cells {w : World} {base : Nat} {e : TypeId} {size n : Nat} {v : Value} {xs : List Value} (h : w.ownsRow base e size v n xs) (k : Nat) (hk : v.ownBlock = some k) : ∃ cs t f, w.heap[k]? = some (.cells cs t f) := by
  rcases h.2 with ⟨rfl, _⟩ | ⟨g, cap, cur, rfl, _, hg, _⟩
  · cases hk
  · have e : g = k := by simpa [Value.ownBlock] using hk
    subst e
    exact ⟨_, _, _, hg⟩
theorem PutSt.grown {w0 w w' : World} {Bn Bo Br n : Nat} {vo : Value} {os : List UInt8} {vr : Value} {rs : List UInt8} {row : Option Nat} {B : Nat} (h : PutSt w0 w Bn Bo Br n vo os vr rs) (hg : w.grownBy w' row)
    (hB : w0.heap.size ≤ B) (hr : ∀ r, row = some r → B ≤ r ∧ ∃ o : Obj, w.heap[r]? = some o ∧ o.isCells = false) : PutSt w0 w' Bn Bo Br n vo os vr rs := by
  obtain ⟨h1, h2, h3⟩ := h.lt
  have key : ∀ (k : Nat) (cs : Array Value) (t : TypeId) (f : Nat × Nat), w.heap[k]? = some (Obj.cells cs t f) → w'.heap[k]? = w.heap[k]? := fun k cs t f hk => hg.block k (Array.getElem?_eq_some_iff.1 hk).1 (fun e => by
    obtain ⟨_, o, ho, hc⟩ := hr k e.symm
    rw [hk] at ho
    cases ho
    cases hc)
  refine ⟨h.bel.grown hg h.bel.size (fun k e => Nat.le_trans hB (hr k e).1), (key _ _ _ _ h.hn).trans h.hn, (key _ _ _ _ h.ho).trans h.ho, (key _ _ _ _ h.hr).trans h.hr,
    ownsRow_at h.ro (fun k hk => ?_), ownsRow_at h.rr (fun k hk => ?_), h.low, h.ne, h.no, h.nr, h.apart⟩
  · obtain ⟨cs, t, f, hc⟩ := owns_cells h.ro k hk
    exact key k cs t f hc
  · obtain ⟨cs, t, f, hc⟩ := owns_cells h.rr k hk
    exact key k cs t f hc
theorem owns_len {w : World} {base : Nat} {e : TypeId} {size n : Nat} {v : Value} {xs : List Value} (h : w.ownsRow base e size v n xs) : ∃ a m c, v = .slice a m c ∧ Hid (m = n) := by
  obtain ⟨a, c, rfl⟩ := ownsRow_len h
  exact ⟨a, n, c, rfl, Lib.hid rfl⟩
theorem owns_cap {w : World} {base : Nat} {e : TypeId} {size n c : Nat} {a : Addr} {xs : List Value} (h : w.ownsRow base e size (.slice (some a) n c) n xs) : n ≤ c ∧ c ≤ 9223372036854775807 := by
  rcases h.2 with ⟨h1, _⟩ | ⟨g, cap, cur, h1, _, _, h2, h3, _⟩
  · cases h1
  · obtain ⟨_, _, rfl⟩ : some a = some ⟨g, 0, none⟩ ∧ n = n ∧ c = cap := by simpa using h1
    exact ⟨h2, h3⟩
end Go.Proofs.Ytigkcbnlbdiimaa

/- Package pack: Put at each size. (Written by wip/genput.py.) -/
namespace Go.Proofs.Ytigkcbnlbdiimaa
open Go.RowKit Go.Shelf
attribute [local go_sem] Oper.semAt_some
theorem byte_info : (Try.prog.info? 5).map (fun i => (i.zero, i.size, i.bytes)) = some (some (.int .u8 0), 1, 1) := by kernel_rfl
set_option maxRecDepth 100000 in
set_option maxHeartbeats 8000000 in
theorem put_4 (v : Value) (bs : List UInt8) (n : Nat) (w : World) (h : Reads w 1 v bs.length (bs.map bv)) (hlen : bs.length ≤ 70368744177664) (hn : n < 18446744073709551616) (hfit : n < 256 ^ 4) :
    Calls Try.prog 60 #[v, .int .u64 n, .int .i64 4] w fun e w' => ∃ v', e = .returned (.tuple #[v', .nilIface]) ∧ w'.ownsRow w.heap.size 5 1 v' (bs ++ (List.range 4).map (nthByte n)).length ((bs ++ (List.range 4).map (nthByte n)).map bv) ∧ Below w.heap.size w w' := by
  have hfit' : decide (n < 256 ^ 4) = true := by simpa using hfit
  have HF := Lib.hid hfit'
  have HR := Lib.hid h
  clear hfit' hfit h
  obtain ⟨i0, hi, hz0, hz1, hz2⟩ := info_parts byte_info
  have HI := Lib.hid hi
  have HZ0 := Lib.hid hz0
  have HZ1 := Lib.hid hz1
  have HZ2 := Lib.hid hz2
  clear hi hz0 hz1 hz2
  refine (callsIn_wide (n := 4)).1 ?_
  refine callsIn_of_wp_marks Try.func60 rfl trivial ?_ rfl
  simp only [Try.ntmps60, List.size_toArray, List.length_cons, List.length_nil, Nat.reduceAdd, Nat.reduceSub, Array.replicate_succ, Array.replicate_zero, List.push_toArray, List.append_toArray, List.nil_append, List.cons_append]
  refine wpIn_wide.2 ?_
  go_wp2_with fail
  refine (sized_any 4 _).mono ?_
  rintro e w1 ⟨rfl, rfl⟩
  go_wp2_with fail
  refine (fits_any n 4 hn (by omega) _).mono ?_
  rintro e w1 ⟨rfl, rfl⟩
  rw [HF.out]
  go_wp2_with fail
  refine (clone_Byte v bs.length (bs.map bv) _ (HR.out.below (by repeat (first | (with_reducible exact Below.refl _ _) | (with_reducible refine Below.setCell ?_ ?_ _) | (with_reducible refine Below.alloc ?_ ?_ _) | (with_reducible refine Below.drewN ?_ _) | (with_reducible refine Below.drew ?_) | (with_reducible exact Nat.le_refl _) | (focus (simp only [World.size_alloc, World.size_setCell, World.size_drew, World.size_drewN]; omega)) | omega | exact Nat.le_refl _ | (focus (simp; done)) | (focus (simp; omega))))) (bv_one bs) (by omega)).mono ?_
  rintro e w1 ⟨v1, rfl, ho1, _, hb1⟩
  have hz1 := hb1.size
  simp only [World.size_alloc] at hz1
  have kn : w1.cell? ⟨w.heap.size, 0, none⟩ = some (.int .u64 n) := by rw [hb1.cell (by simp)]; simp
  have kb : w1.heap[w.heap.size]? = some (.cells #[.int .u64 n] 114 (0, 0)) := (hb1.block _ (by simp)).trans (heap_alloc_new _ _)
  have hz1' : w.heap.size < w1.heap.size := by omega
  have HB1 := Lib.hid (Below.trans (B := w.heap.size) (a := w) (by repeat (first | (with_reducible exact Below.refl _ _) | (with_reducible refine Below.setCell ?_ ?_ _) | (with_reducible refine Below.alloc ?_ ?_ _) | (with_reducible refine Below.drewN ?_ _) | (with_reducible refine Below.drew ?_) | (with_reducible exact Nat.le_refl _) | (focus (simp only [World.size_alloc, World.size_setCell, World.size_drew, World.size_drewN]; omega)) | omega | exact Nat.le_refl _ | (focus (simp; done)) | (focus (simp; omega)))) (hb1.mono (by simp)))
  simp only [World.size_alloc] at ho1
  obtain ⟨a1, c1, rfl⟩ := ownsRow_len ho1
  have KB := Lib.hid kb
  have HO1 := Lib.hid ho1
  clear ho1 hb1 hz1 kb
  go_wp2_with fail
  refine Calls.mono (part_any n 0 (by omega) w.heap.size _ hn ?_) ?_
  focus (go_simp)
  rintro e w2 ⟨rfl, rfl⟩
  go_wp2_with fail
  have hst := PutSt.start w w1 n a1 bs.length c1 bs rfl (nthByte n 0) HB1.out KB.out HO1.out hz1'
  obtain ⟨W0, hW⟩ : ∃ W0, (((w1.alloc (.cells #[.slice a1 bs.length c1] 44)).alloc (.cells #[.int .u8 ((nthByte n 0).toNat : Int)] 5)).alloc (.cells #[.slice (some ⟨w1.heap.size + 1, 0, none⟩) 1 1] 44)) = W0 := ⟨_, rfl⟩
  rw [hW] at hst ⊢
  clear hW kn hz1' HO1 KB HB1
  generalize w1.heap.size + 1 + 1 = Br at *
  generalize w1.heap.size + 1 = Bq0 at *
  generalize w1.heap.size = Bo at *
  have HST := Lib.hid hst
  clear hst
  obtain ⟨kn, ko, kr, fo, fr⟩ := HST.out.cells
  obtain ⟨ln, lo, lr⟩ := HST.out.lt
  have hlow := HST.out.bel.size
  obtain ⟨SS, HSD⟩ : ∃ SS : World → Prop, Hid (SS = fun w' => w'.cell? ⟨Br, 0, none⟩ = some (.slice (some ⟨Bq0, 0, none⟩) 1 1)) := ⟨_, Lib.hid rfl⟩
  refine wp_region_order0 SS [0] [(0, 2), (1, 0), (3, 0), (2, 1), (4, 1), (5, 1), (6, 1), (7, 1)] (by kernel_rfl) (by kernel_rfl) rfl (by kernel_rfl) ?_ ?_
  focus (rw [HSD.out]; exact kr)
  refine stepE2 rfl rfl ?_ (fun w1 hS => ?_) (fun K hK => ?_)
  rotate_left
  focus (rw [HSD.out] at hS; have s0 : w1.cell? _ = some _ := hS; go_simp; rfl)
  go_simp
  refine hK _ ?_
  clear hK K
  refine stepE0 rfl rfl (fun K hK => ?_)
  go_simp
  refine hK _ ?_
  clear hK K
  refine stepE0 rfl rfl (fun K hK => ?_)
  go_simp
  refine hK _ ?_
  clear hK K
  refine stepE1S rfl rfl (fun K hK => ?_)
  (go_wp2_with fail; refine Calls.mono (part_any n 3 (by omega) w.heap.size _ hn ?_) ?_; (focus (exact kn)); rintro e w2 ⟨rfl, rfl⟩; go_wp2)
  refine ⟨by rw [HSD.out]; exact (by show World.cell? _ _ = some _; go_simp), ?_⟩
  refine stepE1S rfl rfl (fun K hK => ?_)
  (go_wp2_with fail; refine Calls.mono (part_any n 2 (by omega) w.heap.size _ hn ?_) ?_; (focus (exact kn)); rintro e w2 ⟨rfl, rfl⟩; go_wp2)
  refine ⟨by rw [HSD.out]; exact (by show World.cell? _ _ = some _; go_simp), ?_⟩
  refine stepE1S rfl rfl (fun K hK => ?_)
  go_wp2
  refine ⟨by rw [HSD.out]; exact (by show World.cell? _ _ = some _; go_simp), ?_⟩
  refine stepE1 rfl rfl (by kernel_rfl) (fun K hK => ?_)
  (refine wp_append_lies _ _ _ 44 rfl w.heap.size 5 i0 (.int .u8 0) 1 1 Try.underlying44 HI.out HZ0.out HZ1.out HZ2.out rfl (by decide) (.slice (some ⟨Bq0, 0, none⟩) 1 1) 1 ([nthByte n 0].map bv) rfl ((HST.out.rr.alloc _).drew) ⟨W0.heap.size, 0, none⟩ 2 2 [.int .u8 ((nthByte n 3).toNat : Int), .int .u8 ((nthByte n 2).toNat : Int)] rfl rfl (World.news_of_block (heap_alloc_new W0 _)) (by simp [Value.oneCell']) (by omega) (by unfold maxLen; omega) (by omega) (by simp; omega) _ rfl ?_; intro g cp w2 hown2 hgrow hat hlt2; have HP := Lib.hid (PutSt.onRest (ns := [nthByte n 3, nthByte n 2]) (HST.out.drew.keep ((Below.refl _ _).alloc (Nat.le_refl _) _)) hgrow hown2 rfl (by simpa using hat)); have hkb := World.cell?_of_block (a := ⟨Br, 0, none⟩) (hgrow.block Br (by simp; omega) (fun e => HST.out.nr.2.2 e.symm)); have hkf := World.frozen?_of_block (a := ⟨Br, 0, none⟩) (hgrow.block Br (by simp; omega) (fun e => HST.out.nr.2.2 e.symm)); clear hgrow hown2 hat; go_wp2)
  refine stepE1 rfl rfl (by kernel_rfl) (fun K hK => ?_)
  go_wp2
  try refine stepEnil0 ?_
  clear HSD SS
  have hst : PutSt w (w2.setCell ⟨Br, 0, none⟩ (.slice (some ⟨g, 0, none⟩) 3 cp)) w.heap.size Bo Br n (.slice a1 bs.length c1) bs (.slice (some ⟨g, 0, none⟩) 3 cp) [nthByte n 0, nthByte n 3, nthByte n 2] := HP.out
  clear HP HST kn ko kr fo fr ln lo lr hlow hkb hkf hlt2
  generalize w2.setCell ⟨Br, 0, none⟩ (.slice (some ⟨g, 0, none⟩) 3 cp) = W1 at *
  clear w2
  generalize g = Bq1 at *
  generalize cp = cq1 at *
  go_wp2_with fail
  have HST := Lib.hid hst
  clear hst
  obtain ⟨kn, ko, kr, fo, fr⟩ := HST.out.cells
  obtain ⟨ln, lo, lr⟩ := HST.out.lt
  have hlow := HST.out.bel.size
  obtain ⟨SS, HSD⟩ : ∃ SS : World → Prop, Hid (SS = fun w' => w'.cell? ⟨Br, 0, none⟩ = some (.slice (some ⟨Bq1, 0, none⟩) 3 cq1)) := ⟨_, Lib.hid rfl⟩
  refine wp_region_order0 SS [0] [(0, 2), (1, 0), (2, 1), (3, 1), (4, 1), (5, 1)] (by kernel_rfl) (by kernel_rfl) rfl (by kernel_rfl) ?_ ?_
  focus (rw [HSD.out]; exact kr)
  refine stepE2 rfl rfl ?_ (fun w1 hS => ?_) (fun K hK => ?_)
  rotate_left
  focus (rw [HSD.out] at hS; have s0 : w1.cell? _ = some _ := hS; go_simp; rfl)
  go_simp
  refine hK _ ?_
  clear hK K
  refine stepE0 rfl rfl (fun K hK => ?_)
  go_simp
  refine hK _ ?_
  clear hK K
  refine stepE1S rfl rfl (fun K hK => ?_)
  (go_wp2_with fail; refine Calls.mono (part_any n 1 (by omega) w.heap.size _ hn ?_) ?_; (focus (exact kn)); rintro e w2 ⟨rfl, rfl⟩; go_wp2)
  refine ⟨by rw [HSD.out]; exact (by show World.cell? _ _ = some _; go_simp), ?_⟩
  refine stepE1S rfl rfl (fun K hK => ?_)
  go_wp2
  refine ⟨by rw [HSD.out]; exact (by show World.cell? _ _ = some _; go_simp), ?_⟩
  refine stepE1 rfl rfl (by kernel_rfl) (fun K hK => ?_)
  (refine wp_append_lies _ _ _ 44 rfl w.heap.size 5 i0 (.int .u8 0) 1 1 Try.underlying44 HI.out HZ0.out HZ1.out HZ2.out rfl (by decide) (.slice (some ⟨Bq1, 0, none⟩) 3 cq1) 3 ([nthByte n 0, nthByte n 3, nthByte n 2].map bv) rfl ((HST.out.rr.alloc _).drew) ⟨W1.heap.size, 0, none⟩ 1 1 [.int .u8 ((nthByte n 1).toNat : Int)] rfl rfl (World.news_of_block (heap_alloc_new W1 _)) (by simp [Value.oneCell']) (by omega) (by unfold maxLen; omega) (by omega) (by simp; omega) _ rfl ?_; intro g cp w2 hown2 hgrow hat hlt2; have HP := Lib.hid (PutSt.onRest (ns := [nthByte n 1]) (HST.out.drew.keep ((Below.refl _ _).alloc (Nat.le_refl _) _)) hgrow hown2 rfl (by simpa using hat)); have hkb := World.cell?_of_block (a := ⟨Br, 0, none⟩) (hgrow.block Br (by simp; omega) (fun e => HST.out.nr.2.2 e.symm)); have hkf := World.frozen?_of_block (a := ⟨Br, 0, none⟩) (hgrow.block Br (by simp; omega) (fun e => HST.out.nr.2.2 e.symm)); clear hgrow hown2 hat; go_wp2)
  refine stepE1 rfl rfl (by kernel_rfl) (fun K hK => ?_)
  go_wp2
  try refine stepEnil0 ?_
  clear HSD SS
  have hst : PutSt w (w2.setCell ⟨Br, 0, none⟩ (.slice (some ⟨g, 0, none⟩) 4 cp)) w.heap.size Bo Br n (.slice a1 bs.length c1) bs (.slice (some ⟨g, 0, none⟩) 4 cp) [nthByte n 0, nthByte n 3, nthByte n 2, nthByte n 1] := HP.out
  clear HP HST kn ko kr fo fr ln lo lr hlow hkb hkf hlt2
  generalize w2.setCell ⟨Br, 0, none⟩ (.slice (some ⟨g, 0, none⟩) 4 cp) = W2 at *
  clear w2
  generalize g = Bq2 at *
  generalize cp = cq2 at *
  go_wp2_with fail
  have HST := Lib.hid hst
  clear hst
  obtain ⟨kn, ko, kr, fo, fr⟩ := HST.out.cells
  obtain ⟨ln, lo, lr⟩ := HST.out.lt
  have hlow := HST.out.bel.size
  have kq : W2.cell? ⟨Bq2, 0, none⟩ = some (.int .u8 ((nthByte n 0).toNat : Int)) := HST.out.rr.cellAt 0 (by decide)
  have lq := (HST.out.rr.lt _ rfl).2
  obtain ⟨hq1, hq2⟩ := owns_cap HST.out.rr
  change 4 ≤ cq2 at hq1
  obtain ⟨SS, HSD⟩ : ∃ SS : World → Prop, Hid (SS = fun w' => w'.cell? ⟨Bo, 0, none⟩ = some (.slice a1 bs.length c1) ∧ w'.cell? ⟨Br, 0, none⟩ = some (.slice (some ⟨Bq2, 0, none⟩) 4 cq2) ∧ w'.cell? ⟨Bq2, 0, none⟩ = some (.int .u8 ((nthByte n 0).toNat : Int))) := ⟨_, Lib.hid rfl⟩
  refine wp_region_order0 SS [0, 1, 3] [(0, 2), (1, 2), (2, 0), (3, 2), (4, 1), (5, 1), (6, 1)] (by kernel_rfl) (by kernel_rfl) rfl (by kernel_rfl) ?_ ?_
  focus (rw [HSD.out]; exact ⟨ko, kr, kq⟩)
  refine stepE2 rfl rfl ?_ (fun w1 hS => ?_) (fun K hK => ?_)
  rotate_left
  focus (rw [HSD.out] at hS; obtain ⟨s0, s1, s2⟩ := hS; go_simp; rfl)
  go_simp
  refine hK _ ?_
  clear hK K
  refine stepE2 rfl rfl ?_ (fun w1 hS => ?_) (fun K hK => ?_)
  rotate_left
  focus (rw [HSD.out] at hS; obtain ⟨s0, s1, s2⟩ := hS; go_simp; rfl)
  go_simp
  refine hK _ ?_
  clear hK K
  refine stepE0 rfl rfl (fun K hK => ?_)
  go_simp
  refine hK _ ?_
  clear hK K
  refine stepE2 rfl rfl ?_ (fun w1 hS => ?_) (fun K hK => ?_)
  rotate_left
  focus (rw [HSD.out] at hS; obtain ⟨s0, s1, s2⟩ := hS; go_simp; rfl)
  go_simp
  refine hK _ ?_
  clear hK K
  refine stepE1S rfl rfl (fun K hK => ?_)
  go_wp2
  refine ⟨by rw [HSD.out]; exact (by refine ⟨?_, ?_, ?_⟩ <;> go_simp), ?_⟩
  refine stepE1 rfl rfl (by kernel_rfl) (fun K hK => ?_)
  (refine wp_append_lies _ _ _ 44 rfl w.heap.size 5 i0 (.int .u8 0) 1 1 Try.underlying44 HI.out HZ0.out HZ1.out HZ2.out rfl (by decide) (.slice a1 bs.length c1) bs.length (bs.map bv) rfl ((HST.out.ro.alloc _).drew) ⟨W2.heap.size, 0, none⟩ 1 1 [.int .u8 ((nthByte n 0).toNat : Int)] rfl rfl (World.news_of_block (heap_alloc_new W2 _)) (by simp [Value.oneCell']) (by omega) (by unfold maxLen; omega) (by omega) (by simp; omega) _ rfl ?_; intro g cp w2 hown2 hgrow hat hlt2; have HP := Lib.hid (PutSt.onOut (ns := [nthByte n 0]) (HST.out.drew.keep ((Below.refl _ _).alloc (Nat.le_refl _) _)) hgrow (by rw [List.map_append]; exact hown2) (by simp) (by simpa using hat)); have hkb := World.cell?_of_block (a := ⟨Bo, 0, none⟩) (hgrow.block Bo (by simp; omega) (fun e => HST.out.no.2.1 e.symm)); have hkf := World.frozen?_of_block (a := ⟨Bo, 0, none⟩) (hgrow.block Bo (by simp; omega) (fun e => HST.out.no.2.1 e.symm)); clear hgrow hown2 hat; go_wp2)
  refine stepE1 rfl rfl (by kernel_rfl) (fun K hK => ?_)
  go_wp2
  try refine stepEnil0 ?_
  clear HSD SS
  have hst : PutSt w (w2.setCell ⟨Bo, 0, none⟩ (.slice (some ⟨g, 0, none⟩) (bs.length + 1) cp)) w.heap.size Bo Br n (.slice (some ⟨g, 0, none⟩) (bs.length + 1) cp) (bs ++ [nthByte n 0]) (.slice (some ⟨Bq2, 0, none⟩) 4 cq2) [nthByte n 0, nthByte n 3, nthByte n 2, nthByte n 1] := HP.out
  clear HP HST kn ko kr fo fr ln lo lr hlow hkb hkf hlt2 kq lq
  generalize w2.setCell ⟨Bo, 0, none⟩ (.slice (some ⟨g, 0, none⟩) (bs.length + 1) cp) = W at *
  clear w2
  generalize g = Bp at *
  generalize cp = cq at *
  have HST := Lib.hid hst
  clear hst
  obtain ⟨kn, ko, kr, fo, fr⟩ := HST.out.cells
  obtain ⟨ln, lo, lr⟩ := HST.out.lt
  have hlow := HST.out.bel.size
  go_wp2_with fail
  refine (back_any _ _ _ _).mono ?_
  rintro e w2 ⟨rfl, rfl⟩
  go_wp2_with fail
  have lq : Bq2 < W.heap.size := (HST.out.rr.lt _ rfl).2
  have hBq := Lib.hid (show ∀ i x, [nthByte n 0, nthByte n 3, nthByte n 2, nthByte n 1][i]? = some x → W.cell? ⟨Bq2, i, none⟩ = some (.int .u8 (x.toNat : Int)) from fun i x hx => by
    have h1 := HST.out.rr.cellAt i (by have := (List.getElem?_eq_some_iff.1 hx).1; simp at this ⊢; omega)
    rw [h1, List.getElem?_map, hx]; rfl)
  refine (wpIn_wide (n := 4)).1 ?_
  refine wpIn_rangeFunc_one (α := Fin [nthByte n 3, nthByte n 2, nthByte n 1].length) rfl (by omega) (gf := 92) (lb := #[.pointer (some ⟨W.heap.size, 0, none⟩)]) rfl trivial (enters_of Try.func92 (by kernel_rfl) rfl)
    (back_stops Fence.wide 3 trivial rfl (by omega) W.heap.size Bq2 1 (cq2 - 1) [nthByte n 3, nthByte n 2, nthByte n 1] (by simp [maxLen]) _ (by simp) (by simp; omega) (by simp) (fun j hj => cell_later ((Below.refl _ _).alloc (Nat.le_refl _) _) (hBq.out (1 + j) _ (by rw [Nat.add_comm]; exact List.getElem?_eq_getElem hj))))
    (fun h k => h.trans k) (kept_put (by simp; omega) (by simp)) (Below.refl _ _) (fun _ => rfl)
    (fun pre W' => ∃ vo, PutSt w W' w.heap.size Bo Br n vo ((bs ++ [nthByte n 0]) ++ pre.map (fun (i : Fin [nthByte n 3, nthByte n 2, nthByte n 1].length) => [nthByte n 3, nthByte n 2, nthByte n 1][i.val])) (.slice (some ⟨Bq2, 0, none⟩) 4 cq2) [nthByte n 0, nthByte n 3, nthByte n 2, nthByte n 1] ∧ vo.ownBlock ≠ some W.heap.size ∧ W.heap.size < W'.heap.size)
    (fun _ _ _ => False) ?own (fun _ _ _ _ _ hs _ _ => hs) ⟨_, by simpa using HST.out.keep ((Below.refl _ _).alloc (Nat.le_refl _) _), fun e => by have := (HST.out.ro.lt _ e).2; omega, by simp⟩
    ?body ?done ?stop
  case own =>
    rintro s A B row ⟨vo, hs, hv, hz⟩ hg hr
    exact ⟨vo, hs.grown hg (by have := HST.out.bel.size; simp; omega) hr, hv, by have := hg.size; omega⟩
  case stop =>
    rintro D c pre A _ _ h _
    exact h.elim
  case done =>
    rintro D ys A hD rfl ⟨vo, hs, _, _⟩ hK
    obtain ⟨ao, mo, co, rfl, HM⟩ := owns_len hs.ro
    have HS := Lib.hid hs
    have HK := Lib.hid hK
    clear hs hK
    obtain ⟨sn, so, sr, sfo, sfr⟩ := HS.out.cells
    go_wp2
    refine ⟨by simp, .inl ⟨_, _, rfl, run_takeDeferred HK.out, ?_⟩⟩
    have hfin : (bs ++ [nthByte n 0]) ++ (backL [nthByte n 3, nthByte n 2, nthByte n 1].length 0).map (fun (i : Fin [nthByte n 3, nthByte n 2, nthByte n 1].length) => [nthByte n 3, nthByte n 2, nthByte n 1][i.val]) = bs ++ (List.range 4).map (nthByte n) := by
      rw [List.append_assoc]
      rfl
    have hr := HS.out.ro
    rw [hfin] at hr
    have hm := HM.out
    rw [hfin] at hm
    subst hm
    exact ⟨_, results_tmp2 rfl _ _ _, _, rfl, ownsRow_putObj hr _ HK.out rfl, HS.out.bel.trans (belowK_b (w := w) (Nat.le_refl _) A D _ _ (by have := HST.out.bel.size; simp at hD; omega) HK.out rfl rfl)⟩
  case body =>
    rintro l pre x A ⟨vo, hs, hvb, hza⟩ hlen2
    obtain ⟨ao, mo, co, rfl, HM⟩ := owns_len hs.ro
    have HS := Lib.hid hs
    clear hs
    obtain ⟨sn, so, sr, sfo, sfr⟩ := HS.out.cells
    obtain ⟨ln2, lo2, lr2⟩ := HS.out.lt
    have hlow2 := HS.out.bel.size
    obtain ⟨xi, hxi⟩ := x
    have hxi' : xi < 3 := hxi
    obtain ⟨y, hy⟩ : ∃ y, [nthByte n 3, nthByte n 2, nthByte n 1][xi]'hxi = y := ⟨_, rfl⟩
    have HY := Lib.hid hy
    have hq : A.cell? ⟨Bq2, xi + 1, none⟩ = some (.int .u8 (y.toNat : Int)) := by
      have h1 := HS.out.rr.cellAt (xi + 1) (by simp; omega)
      rw [h1, List.getElem?_map, List.getElem?_cons_succ, List.getElem?_eq_getElem hxi, hy]; rfl
    have lq2 : Bq2 < A.heap.size := (HS.out.rr.lt _ rfl).2
    have hmo : mo ≤ 80368744177664 := by
      have h1 := HM.out
      have h2 : pre.length < 3 := hlen2
      simp at h1
      omega
    simp only [assignAct, backEnc, hy]
    clear hy
    have hw1 : IntKind.i64.wrap ((xi : Int) + 1) = (xi : Int) + 1 := IntWalk.i64_in _ (by omega)
    have hw2 : (0 : Int) ≤ (xi : Int) + 1 := by omega
    have hw3 : (xi : Int) + 1 < 4 := by omega
    have hw4 : ((xi : Int) + 1).toNat = xi + 1 := by omega
    gi_wp2
    obtain ⟨SS, HSD⟩ : ∃ SS : World → Prop, Hid (SS = fun w' => w'.cell? ⟨Bo, 0, none⟩ = some (.slice ao mo co) ∧ w'.cell? ⟨Br, 0, none⟩ = some (.slice (some ⟨Bq2, 0, none⟩) 4 cq2) ∧ w'.cell? ⟨Bq2, xi + 1, none⟩ = some (.int .u8 (y.toNat : Int))) := ⟨_, Lib.hid rfl⟩
    refine wpIn_region_order0 SS [0, 1, 5] [(0, 2), (1, 2), (2, 0), (3, 0), (4, 0), (5, 2), (6, 1), (7, 1), (8, 1)] (by kernel_rfl) (by kernel_rfl) (by kernel_rfl) rfl (by kernel_rfl) ?_ ?_
    focus (rw [HSD.out]; exact ⟨so, sr, hq⟩)
    refine stepI2 rfl rfl (fun _ => rfl) ?_ (fun w1 hS => ?_) (fun K hK => ?_)
    rotate_left
    focus (rw [HSD.out] at hS; obtain ⟨s0, s1, s2⟩ := hS; go_simp; rfl)
    go_simp
    refine hK _ ?_
    clear hK K
    refine stepI2 rfl rfl (fun _ => rfl) ?_ (fun w1 hS => ?_) (fun K hK => ?_)
    rotate_left
    focus (rw [HSD.out] at hS; obtain ⟨s0, s1, s2⟩ := hS; go_simp; rfl)
    go_simp
    refine hK _ ?_
    clear hK K
    refine stepI0 rfl rfl (fun _ => rfl) (fun K hK => ?_)
    go_simp
    refine hK _ ?_
    clear hK K
    refine stepI0 rfl rfl (fun _ => rfl) (fun K hK => ?_)
    go_simp
    refine hK _ ?_
    clear hK K
    refine stepI0 rfl rfl (fun _ => rfl) (fun K hK => ?_)
    go_simp
    refine hK _ ?_
    clear hK K
    refine stepI2 rfl rfl (fun _ => rfl) ?_ (fun w1 hS => ?_) (fun K hK => ?_)
    rotate_left
    focus (rw [HSD.out] at hS; obtain ⟨s0, s1, s2⟩ := hS; go_simp; rfl)
    go_simp
    refine hK _ ?_
    clear hK K
    refine stepI1S rfl rfl (fun K hK => ?_)
    gi_wp2
    refine ⟨by rw [HSD.out]; exact (by refine ⟨?_, ?_, ?_⟩ <;> go_simp), ?_⟩
    refine stepI1 rfl rfl (by kernel_rfl) (fun K hK => ?_)
    (refine wpIn_append_lies _ _ _ 44 rfl w.heap.size 5 i0 (.int .u8 0) 1 1 Try.underlying44 HI.out HZ0.out HZ1.out HZ2.out rfl (by decide) (.slice ao mo co) mo (((bs ++ [nthByte n 0]) ++ pre.map (fun (i : Fin [nthByte n 3, nthByte n 2, nthByte n 1].length) => [nthByte n 3, nthByte n 2, nthByte n 1][i.val])).map bv) rfl (by have h1 := (HS.out.ro.alloc (.cells #[.int .u8 (y.toNat : Int)] 5)).drew; have h2 := HM.out; rw [← h2] at h1; exact h1) ⟨A.heap.size, 0, none⟩ 1 1 [.int .u8 (y.toNat : Int)] rfl rfl (World.news_of_block (heap_alloc_new A _)) (by simp [Value.oneCell']) (by omega) (by unfold maxLen; omega) (by omega) (by simp; omega) _ rfl ?_; intro g cp w2 hown2 hgrow hat hlt2; have HP := Lib.hid (PutSt.onOut (ns := [y]) (HS.out.drew.keep ((Below.refl _ _).alloc (Nat.le_refl _) _)) hgrow (by rw [List.map_append]; exact hown2) (by have := HM.out; simp at this ⊢; omega) (by simpa using hat)); have hkb := World.cell?_of_block (a := ⟨Bo, 0, none⟩) (hgrow.block Bo (by simp; omega) (fun e => HS.out.no.2.1 e.symm)); have hkf := World.frozen?_of_block (a := ⟨Bo, 0, none⟩) (hgrow.block Bo (by simp; omega) (fun e => HS.out.no.2.1 e.symm)); have HG := Lib.hid hgrow; have hat' : (Value.slice ao mo co).ownBlock = some g ∨ g = A.heap.size + 1 := (by simpa using hat); have hat2 := Lib.hid hat'; clear hgrow hown2 hat hat'; gi_wp2)
    refine stepI1 rfl rfl (by kernel_rfl) (fun K hK => ?_)
    gi_wp2
    try refine stepInil0 ?_
    clear HSD SS
    have hca : ∀ (j : Nat) (o : Obj), (Value.slice ao mo co).ownBlock = some j → A.heap[j]? = some o → o.isCells = true := fun j o hj ho => by
      obtain ⟨cs, t, f, hc⟩ := owns_cells HS.out.ro j hj
      rw [hc] at ho
      cases ho
      rfl
    have hblk : ∀ k, k < A.heap.size → k ≠ Bo → (Value.slice ao mo co).ownBlock ≠ some k → (w2.setCell ⟨Bo, 0, none⟩ (.slice (some ⟨g, 0, none⟩) (mo + 1) cp)).heap[k]? = A.heap[k]? := fun k hk hne hnb => by
      rw [heap_setCell_other _ _ _ _ hne, HG.out.block k (by simp; omega) (fun e => hnb e.symm)]
      exact Below.heap_alloc _ _ _ hk
    refine ⟨?_, ⟨hblk _ lq2 (fun e => HS.out.nr.2.1 (by rw [← e]; rfl)) (fun e => HS.out.apart _ e rfl), hblk _ hza (fun e => by have := HST.out.lt.2.1; omega) hvb⟩, .slice (some ⟨g, 0, none⟩) (mo + 1) cp, ?_, ?_, ?_⟩
    · refine KeepsOthers.from (KeepsOthers.trans (KeepsOthers.trans (KeepsOthers.trans (KeepsOthers.alloc A _) (KeepsOthers.drew _)) (KeepsOthers.of_grownBy HG.out fun j o hj ho => ?_)) (KeepsOthers.setCell _ _ _)) _
      refine hca j o hj ?_
      have hjl := (HS.out.ro.lt j hj).2
      rw [← ho]
      exact (Below.heap_alloc _ _ _ hjl).symm
    · have h1 := HP.out
      rw [List.append_assoc] at h1
      rw [List.map_append]
      simp only [List.map_cons, List.map_nil, HY.out]
      exact h1
    · intro e
      have e' : g = W.heap.size := by simpa [Value.ownBlock] using e
      rcases hat2.out with h | h
      · exact hvb (by rw [← e']; exact h)
      · omega
    · have := HG.out.size
      simp at this ⊢
      omega
end Go.Proofs.Ytigkcbnlbdiimaa

/- The directory's map: On, Bytes, Replay. -/
namespace Go.Proofs.Ytigkcbnlbdiimaa
open Go.RowKit
theorem int_info : (Try.prog.info? 3).map (fun i => (i.zero, i.size, i.bytes)) = some (some (.int .i64 0), 1, 8) := by kernel_rfl
/-- Has it a node? -/
def onB (node : Int) (x : Ent) : Bool := [x.n0, x.n1, x.n2].contains node
def onVols (node : Int) (es : List Ent) : List Int := (es.filter (onB node)).map Ent.vol
theorem onVols_yes (node : Int) (es : List Ent) (k : Nat) (x : Ent) (hx : es[k]? = some x) (h : onB node x = true) : onVols node (es.take (k + 1)) = onVols node (es.take k) ++ [x.vol] := by
  obtain ⟨hk, hx'⟩ := List.getElem?_eq_some_iff.1 hx
  rw [List.take_succ_eq_append_getElem hk, hx']
  simp [onVols, List.filter_append, List.filter_cons, h]
theorem onVols_no (node : Int) (es : List Ent) (k : Nat) (x : Ent) (hx : es[k]? = some x) (h : onB node x = false) : onVols node (es.take (k + 1)) = onVols node (es.take k) := by
  obtain ⟨hk, hx'⟩ := List.getElem?_eq_some_iff.1 hx
  rw [List.take_succ_eq_append_getElem hk, hx']
  simp [onVols, List.filter_append, List.filter_cons, h]
theorem onVols_len (node : Int) (es : List Ent) : (onVols node es).length ≤ es.length := by
  simp only [onVols, List.length_map]
  exact List.length_filter_le _ _
set_option maxRecDepth 100000 in
set_option maxHeartbeats 2000000 in
theorem on_any (base bm : Nat) (v : Value) (es : List Ent) (node : Int) (w : World) (h : MapAt w base bm v es) :
    Calls Try.prog 20 #[.pointer (some ⟨bm, 0, none⟩), .int .i64 node] w
      fun e w' => ∃ v', e = .returned v' ∧ w'.ownsRow w.heap.size 3 1 v' (onVols node es).length ((onVols node es).map (Value.int .i64)) ∧ Below w.heap.size w w' := by
  have hfew := h.few
  have H := Lib.hid h
  clear h
  obtain ⟨i0, hi, hz0, hz1, hz2⟩ := info_parts int_info
  have HI := Lib.hid hi
  have HZ0 := Lib.hid hz0
  have HZ1 := Lib.hid hz1
  have HZ2 := Lib.hid hz2
  clear hi hz0 hz1 hz2
  go_enter Try.func20, Try.ntmps20
  go_wp2_with fail
  refine (all_any _ _ _ _ _ H.out).mono ?_
  rintro e w3 ⟨v3, rfl, ho3, _, hb3⟩
  obtain ⟨a3, cap3, rfl⟩ := ownsRow_len ho3
  have HO3 := Lib.hid ho3
  have HB3 := Lib.hid hb3
  have hz3 := hb3.size
  clear ho3 hb3
  go_wp2_with fail
  go_loopw [5, 11] (fun l i wr => ∃ k : Nat, k ≤ es.length ∧ i = .int .i64 k ∧ wr.ownsRow w3.heap.size 3 1 l (onVols node (es.take k)).length ((onVols node (es.take k)).map (Value.int .i64)) ∧ Below w3.heap.size w3 wr) (fun _ i _ => es.length - (intOf i).toNat)
  case atStart => exact ⟨0, Nat.zero_le _, rfl, World.ownsRow_nil _ _ _ _, Below.refl _ _⟩
  case round =>
    obtain ⟨k, hk, rfl, hown, hbw⟩ := hrel
    have HOW := Lib.hid hown
    have HBW := Lib.hid hbw
    have hzr := hbw.size
    obtain ⟨al, cl, rfl⟩ := ownsRow_len hown
    clear hown hbw
    by_cases hlt : k < es.length
    · obtain ⟨x, hx⟩ : ∃ x, es[k]? = some x := ⟨_, List.getElem?_eq_getElem hlt⟩
      obtain ⟨g3, cc3, e3, hg3, _, _, x0, x1, x2, x3, x4, x5⟩ := row_ent (ownsRow_below HO3.out HBW.out) k x hx
      obtain ⟨rfl, -, rfl⟩ := slice_inj e3
      have HOL := Lib.hid (onVols_len node (es.take k))
      have hnl : (onVols node (es.take k)).length ≤ 4096 := by have := HOL.out; simp at this; omega
      clear e3
      cases hc : onB node x
      · have HX := Lib.hid (onVols_no node es k x hx hc)
        have HC := Lib.hid hc
        obtain ⟨xv, xe, xa, xb, xc, xs⟩ := x
        clear hx hc
        go_wp2_with fail
        refine Calls.mono (contains3 wr.heap.size 2 _ xa xb xc node false _ HC.out ?_ ?_ ?_) ?_
        · go_simp
        · go_simp
        · go_simp
        rintro e w4 ⟨rfl, rfl⟩
        go_wp2_with fail
        go_roundw
        case rel => exact ⟨k + 1, by omega, by go_num, by rw [HX.out]; exact HOW.out.alloc _, HBW.out.alloc hzr _⟩
        case measure => simp [intOf]; omega
      · have HX := Lib.hid (onVols_yes node es k x hx hc)
        have HC := Lib.hid hc
        obtain ⟨xv, xe, xa, xb, xc, xs⟩ := x
        clear hx hc
        go_wp2_with fail
        refine Calls.mono (contains3 wr.heap.size 2 _ xa xb xc node true _ HC.out ?_ ?_ ?_) ?_
        · go_simp
        · go_simp
        · go_simp
        rintro e w4 ⟨rfl, rfl⟩
        go_wp2_with (at_builtin; refine wpList_append_own _ rfl _ _ 42 rfl w3.heap.size 3 i0 (.int .i64 0) 1 8 Try.underlying42 HI.out HZ0.out HZ1.out HZ2.out rfl (by decide) _ _ _ rfl ((HOW.out.alloc _).alloc _) ⟨wr.heap.size + 1, 0, none⟩ 1 1 [.int .i64 xv] rfl rfl (by have h := cell_one_new (wr.alloc (.cells #[.int .i64 xv, .int .i64 xe, .int .i64 xa, .int .i64 xb, .int .i64 xc, .bool xs] 37)) (.int .i64 xv) 3; simpa using h) (by simp [Value.oneCell']) (by unfold maxLen; omega) (by omega) (by simp; omega) ?_; intro v' w5 hown' hgrow _; have HOX := Lib.hid hown'; have HGX := Lib.hid hgrow; clear hown' hgrow)
        go_roundw
        case rel => exact ⟨k + 1, by omega, by go_num, by rw [HX.out]; simpa using HOX.out, ((HBW.out.alloc hzr _).alloc (by simp; omega) _).grown HGX.out (by simp; omega) (fun g hg => (HOW.out.lt g hg).1)⟩
        case measure => simp [intOf]; omega
    · have HK := Lib.hid (show es.take k = es from List.take_of_length_le (by omega))
      go_wp2_with fail
      go_ret
      refine ⟨_, rfl, ?_, HB3.out.trans (HBW.out.mono hz3)⟩
      have := HOW.out
      rw [HK.out] at this ⊢
      exact ownsRow_mono this hz3
end Go.Proofs.Ytigkcbnlbdiimaa

/- The directory's map: Replay, and what many commands come to. -/
namespace Go.Proofs.Ytigkcbnlbdiimaa
open Go.RowKit
def doAll (es : List Ent) (cs : List Cmd) : List Ent := cs.foldl doEs es
def okN (k : Nat) : Nat := if k = 0 then 1 else 0
theorem okN_le (k : Nat) : okN k ≤ 1 := by unfold okN; split <;> omega
def cntAll (es : List Ent) : List Cmd → Nat
  | [] => 0
  | c :: cs => okN (doK es c) + cntAll (doEs es c) cs
theorem doAll_snoc (es : List Ent) (cs : List Cmd) (c : Cmd) : doAll es (cs ++ [c]) = doEs (doAll es cs) c := by simp [doAll]
theorem cntAll_snoc (es : List Ent) (cs : List Cmd) (c : Cmd) : cntAll es (cs ++ [c]) = cntAll es cs + okN (doK (doAll es cs) c) := by
  induction cs generalizing es with
  | nil => simp [cntAll, doAll]
  | cons d cs ih => simp only [List.cons_append, cntAll, ih]; simp only [doAll, List.foldl_cons]; omega
theorem doAll_append (es : List Ent) (cs ds : List Cmd) : doAll es (cs ++ ds) = doAll (doAll es cs) ds := by simp [doAll]
theorem cntAll_append (es : List Ent) (cs ds : List Cmd) : cntAll es (cs ++ ds) = cntAll es cs + cntAll (doAll es cs) ds := by
  induction cs generalizing es with
  | nil => simp [cntAll, doAll]
  | cons d cs ih => simp only [List.cons_append, cntAll, ih]; simp only [doAll, List.foldl_cons]; omega
theorem cntAll_le (es : List Ent) (cs : List Cmd) : cntAll es cs ≤ cs.length := by
  induction cs generalizing es with
  | nil => exact Nat.le_refl _
  | cons d cs ih =>
    have := ih (doEs es d)
    have := okN_le (doK es d)
    simp only [cntAll, List.length_cons]
    omega
theorem good_all (cs : List Cmd) : ∀ (E : Int) (es : List Ent), Good E es → 1 ≤ E → E + cs.length ≤ 1000000 → Good (E + cs.length) (doAll es cs) := by
  induction cs with
  | nil => intro E es h _ _; simpa [doAll] using h
  | cons c cs ih =>
    intro E es h h1 h2
    simp only [List.length_cons] at h2 ⊢
    have := ih (E + 1) (doEs es c) (good_do E es c h h1 (by omega)) (by omega) (by omega)
    rw [show E + ((cs.length + 1 : Nat) : Int) = E + 1 + cs.length by omega]
    exact this
theorem take_snoc_get {α : Type} (l : List α) (k : Nat) (x : α) (hx : l[k]? = some x) : l.take (k + 1) = l.take k ++ [x] := by
  obtain ⟨hk, hx'⟩ := List.getElem?_eq_some_iff.1 hx
  rw [List.take_succ_eq_append_getElem hk, hx']
theorem Keeps.of_low {F : Nat → Prop} {w0 w w' : World} (h : Keeps F w w') (hb : Below w0.heap.size w0 w) (hF : ∀ k, F k → w0.heap.size ≤ k) : Below w0.heap.size w0 w' :=
  hb.trans (h.below hb.size hF)
set_option maxRecDepth 100000 in
set_option maxHeartbeats 2000000 in
theorem replay_any (ao : Option Addr) (n cap : Nat) (cs : List Cmd) (w : World) (hl : cs.length = n) (hn : n ≤ 1000000) (hA : 0 < n → ∃ b off, ao = some ⟨b, off, none⟩ ∧ b < w.heap.size ∧ CmdsAt w b off cs) :
    Calls Try.prog 22 #[.slice ao n cap] w fun e w' => e = .returned (.tuple #[.pointer (some ⟨w.heap.size, 0, none⟩), .int .i64 (cntAll [] cs : Nat)]) ∧ (∃ v, MapAt w' w.heap.size w.heap.size v (doAll [] cs)) ∧ Below w.heap.size w w' := by
  have HL := Lib.hid hl
  have HA := Lib.hid hA
  clear hl hA
  go_enter Try.func22, Try.ntmps22
  go_wp2_with fail
  refine (new_any _).mono ?_
  rintro e w2 ⟨rfl, rfl⟩
  have HM0 := Lib.hid (MapAt.made w w.heap.size (Nat.le_refl _))
  go_wp2_with fail
  go_loopw [5, 13] (fun t i wr => ∃ k : Nat, k ≤ n ∧ i = .int .i64 k ∧ t = .int .i64 (cntAll [] (cs.take k) : Nat) ∧ (∃ v, MapAt wr w.heap.size w.heap.size v (doAll [] (cs.take k))) ∧ Below w.heap.size w wr) (fun _ i _ => n - (intOf i).toNat)
  case atStart => exact ⟨0, Nat.zero_le _, rfl, rfl, ⟨_, HM0.out⟩, (by repeat (first | (with_reducible exact Below.refl _ _) | (with_reducible refine Below.setCell ?_ ?_ _) | (with_reducible refine Below.alloc ?_ ?_ _) | (with_reducible refine Below.drewN ?_ _) | (with_reducible refine Below.drew ?_) | (with_reducible exact Nat.le_refl _) | (focus (simp only [World.size_alloc, World.size_setCell, World.size_drew, World.size_drewN]; omega)) | omega | exact Nat.le_refl _ | (focus (simp; done)) | (focus (simp; omega))))⟩
  case round =>
    obtain ⟨k, hk, rfl, rfl, ⟨v, hm⟩, hbw⟩ := hrel
    have HM := Lib.hid hm
    have HBW := Lib.hid hbw
    have hzr := hbw.size
    clear hm hbw
    by_cases hlt : k < n
    · obtain ⟨c, hc⟩ : ∃ c, cs[k]? = some c := ⟨_, List.getElem?_eq_getElem (by rw [HL.out]; exact hlt)⟩
      obtain ⟨b, off, rfl, hb, hC⟩ := HA.out (by omega)
      obtain ⟨q0, q1, q2, q3, q4, q5, q6, q7⟩ := hC k c hc
      clear hC
      have k0 := (HBW.out.cell (p := ⟨b, off + k * 8, none⟩) hb).trans q0
      have k1 := (HBW.out.cell (p := ⟨b, off + k * 8 + 1, none⟩) hb).trans q1
      have k2 := (HBW.out.cell (p := ⟨b, off + k * 8 + 2, none⟩) hb).trans q2
      have k3 := (HBW.out.cell (p := ⟨b, off + k * 8 + 3, none⟩) hb).trans q3
      have k4 := (HBW.out.cell (p := ⟨b, off + k * 8 + 4, none⟩) hb).trans q4
      have k5 := (HBW.out.cell (p := ⟨b, off + k * 8 + 5, none⟩) hb).trans q5
      have k6 := (HBW.out.cell (p := ⟨b, off + k * 8 + 6, none⟩) hb).trans q6
      have k7 := (HBW.out.cell (p := ⟨b, off + k * 8 + 7, none⟩) hb).trans q7
      have hbr : b < wr.heap.size := by omega
      have HT := Lib.hid (take_snoc_get cs k c hc)
      have HCS := Lib.hid (cntAll_snoc [] (cs.take k) c)
      have HDS := Lib.hid (doAll_snoc [] (cs.take k) c)
      have HLE := Lib.hid (cntAll_le [] (cs.take k))
      have hcl : (cntAll [] (cs.take k) : Int) ≤ 1000000 := by
        have := HLE.out
        simp at this
        omega
      have hcl0 : (0 : Int) ≤ (cntAll [] (cs.take k) : Int) := by omega
      clear hc q0 q1 q2 q3 q4 q5 q6 q7
      generalize cntAll [] (cs.take k) = t at *
      generalize doAll [] (cs.take k) = es at *
      by_cases hk0 : doK es c = 0
      · have HK0 := Lib.hid hk0
        clear hk0
        obtain ⟨nd, hnd⟩ : ∃ nd, doN es c = nd := ⟨_, rfl⟩
        have HND := Lib.hid hnd
        clear hnd
        go_wp2_with fail
        refine (do_at w.heap.size w.heap.size v es _ c nd 0 _ (HM.out.below (by repeat (first | (with_reducible exact Below.refl _ _) | (with_reducible refine Below.setCell ?_ ?_ _) | (with_reducible refine Below.alloc ?_ ?_ _) | (with_reducible refine Below.drewN ?_ _) | (with_reducible refine Below.drew ?_) | (with_reducible exact Nat.le_refl _) | (focus (simp only [World.size_alloc, World.size_setCell, World.size_drew, World.size_drewN]; omega)) | omega | exact Nat.le_refl _ | (focus (simp; done)) | (focus (simp; omega))))) rfl HND.out (by rw [HK0.out]; rfl)).mono ?_
        rintro e w4 hd
        have HU := Lib.hid (hd.under (w0 := w) (HM.out.below (by repeat (first | (with_reducible exact Below.refl _ _) | (with_reducible refine Below.setCell ?_ ?_ _) | (with_reducible refine Below.alloc ?_ ?_ _) | (with_reducible refine Below.drewN ?_ _) | (with_reducible refine Below.drew ?_) | (with_reducible exact Nat.le_refl _) | (focus (simp only [World.size_alloc, World.size_setCell, World.size_drew, World.size_drewN]; omega)) | omega | exact Nat.le_refl _ | (focus (simp; done)) | (focus (simp; omega))))) (Nat.le_refl _) (HBW.out.alloc hzr _))
        obtain ⟨rfl, v4, hm4, _, _⟩ := hd
        have HM4 := Lib.hid hm4
        clear hm4
        rw [errV_zero]
        go_wp2_with fail
        go_roundw
        case rel => exact ⟨k + 1, by omega, by go_num, by rw [HT.out, HCS.out, okN, if_pos HK0.out]; go_num, ⟨v4, by rw [HT.out, HDS.out]; exact HM4.out⟩, HU.out⟩
        case measure => simp [intOf]; omega
      · have hkz : (doK es c : Int) ≠ 0 := by omega
        have HK0 := Lib.hid hk0
        clear hk0
        obtain ⟨nd, hnd⟩ : ∃ nd, doN es c = nd := ⟨_, rfl⟩
        have HND := Lib.hid hnd
        obtain ⟨kd, hkd⟩ : ∃ kd : Int, (doK es c : Int) = kd := ⟨_, rfl⟩
        rw [hkd] at hkz
        have HKD := Lib.hid hkd
        have HKZ := Lib.hid hkz
        clear hnd hkd hkz
        go_wp2_with fail
        refine (do_at w.heap.size w.heap.size v es _ c nd kd _ (HM.out.below (by repeat (first | (with_reducible exact Below.refl _ _) | (with_reducible refine Below.setCell ?_ ?_ _) | (with_reducible refine Below.alloc ?_ ?_ _) | (with_reducible refine Below.drewN ?_ _) | (with_reducible refine Below.drew ?_) | (with_reducible exact Nat.le_refl _) | (focus (simp only [World.size_alloc, World.size_setCell, World.size_drew, World.size_drewN]; omega)) | omega | exact Nat.le_refl _ | (focus (simp; done)) | (focus (simp; omega))))) rfl HND.out HKD.out).mono ?_
        rintro e w4 hd
        have HU := Lib.hid (hd.under (w0 := w) (HM.out.below (by repeat (first | (with_reducible exact Below.refl _ _) | (with_reducible refine Below.setCell ?_ ?_ _) | (with_reducible refine Below.alloc ?_ ?_ _) | (with_reducible refine Below.drewN ?_ _) | (with_reducible refine Below.drew ?_) | (with_reducible exact Nat.le_refl _) | (focus (simp only [World.size_alloc, World.size_setCell, World.size_drew, World.size_drewN]; omega)) | omega | exact Nat.le_refl _ | (focus (simp; done)) | (focus (simp; omega))))) (Nat.le_refl _) (HBW.out.alloc hzr _))
        obtain ⟨rfl, v4, hm4, _, _⟩ := hd
        have HM4 := Lib.hid hm4
        clear hm4
        rw [errV_ne HKZ.out]
        go_wp2_with fail
        go_roundw
        case rel => exact ⟨k + 1, by omega, by go_num, by rw [HT.out, HCS.out, okN, if_neg HK0.out]; rfl, ⟨v4, by rw [HT.out, HDS.out]; exact HM4.out⟩, HU.out⟩
        case measure => simp [intOf]; omega
    · have HK := Lib.hid (show cs.take k = cs from List.take_of_length_le (by rw [HL.out]; omega))
      have h2 := HK.out
      rw [h2] at HM ⊢
      clear h2
      go_wp2_with fail
      go_ret2
      exact ⟨rfl, ⟨v, HM.out⟩, HBW.out⟩
end Go.Proofs.Ytigkcbnlbdiimaa
