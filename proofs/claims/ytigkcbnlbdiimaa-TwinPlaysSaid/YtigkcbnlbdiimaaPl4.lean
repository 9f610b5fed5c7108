/- Joined texts: Ref19b, Ref19c, Ref19d, OrderT, Ref19e, Ref19f, Ref01, Ref19g, TwinAlone, Ref20. -/
import Derived.Test.YtigkcbnlbdiimaaPl3
import Derived.OwnWalk
/- corncribref19.Do: more where nothing changes. -/
namespace Go.Proofs.Ytigkcbnlbdiimaa
open Go.RowKit
theorem row_ent19 {w : World} {base : Nat} {v : Value} {es : List Ent} (hr : w.ownsRow base 128 6 v es.length (es.flatMap Ent.row)) (k : Nat) (x : Ent) (hx : es[k]? = some x) :
    ∃ g c, v = .slice (some ⟨g, 0, none⟩) es.length c ∧ g < w.heap.size ∧ base ≤ g ∧ k < es.length ∧
      w.cell? ⟨g, k * 6, none⟩ = some (.int .i64 x.vol) ∧ w.cell? ⟨g, k * 6 + 1, none⟩ = some (.int .i64 x.epoch) ∧ w.cell? ⟨g, k * 6 + 2, none⟩ = some (.int .i64 x.n0) ∧
      w.cell? ⟨g, k * 6 + 3, none⟩ = some (.int .i64 x.n1) ∧ w.cell? ⟨g, k * 6 + 4, none⟩ = some (.int .i64 x.n2) ∧ w.cell? ⟨g, k * 6 + 5, none⟩ = some (.bool x.shut) := by
  have hk : k < es.length := (List.getElem?_eq_some_iff.1 hx).1
  have hlt := hr.lt
  rcases hr.2 with ⟨_, hz⟩ | ⟨g, cap, cur, rfl, hg, _⟩
  · omega
  · have hg1 := hlt g rfl
    have hc := fun j hj => ownsRow_cell Ent.row 6 Ent.row_len es hr k j x hx hj
    refine ⟨g, cap, rfl, hg1.2, hg1.1, hk, ?_, ?_, ?_, ?_, ?_, ?_⟩
    · simpa [Ent.row] using hc 0 (by omega)
    · simpa [Ent.row] using hc 1 (by omega)
    · simpa [Ent.row] using hc 2 (by omega)
    · simpa [Ent.row] using hc 3 (by omega)
    · simpa [Ent.row] using hc 4 (by omega)
    · simpa [Ent.row] using hc 5 (by omega)
set_option maxRecDepth 100000 in
set_option maxHeartbeats 2000000 in
theorem ref_full (base : Nat) (v : Value) (es : List Ent) (c : Cmd) (w : World) (h : w.ownsRow base 128 6 v es.length (es.flatMap Ent.row)) (hk : c.kind = 1) (ht : threeB c.n0 c.n1 c.n2 = true) (hl : 4096 ≤ es.length) :
    Calls Try.prog 39 #[v, .agg #[.int .i64 c.kind, .int .i64 c.vol, .int .i64 c.epoch, .int .i64 c.spot, .int .i64 c.node, .int .i64 c.n0, .int .i64 c.n1, .int .i64 c.n2]] w
      (RefOut w base es 0 11) := by
  have H := Lib.hid h
  obtain ⟨a, cap, rfl⟩ := ownsRow_len h
  clear h
  obtain ⟨k, cv, ce, cs, cn, c0, c1, c2⟩ := c
  have hk' : k = 1 := hk
  subst hk'
  clear hk
  obtain ⟨ha, hb, hc, h1, h2, h3⟩ := three_yes ht
  clear ht
  simp only at ha hb hc h1 h2 h3
  have hl' : (4096 : Int) ≤ (es.length : Int) := by omega
  generalize hn : es.length = n at *
  have HN := Lib.hid hn
  clear hn
  go_enter Try.func39, Try.ntmps39
  go_wp2_with fail
  refine wp_region_now0 [2, 5, 8] [(0, 0), (1, 0), (2, 2), (3, 0), (4, 0), (5, 2), (6, 0), (7, 0), (8, 2), (9, 0), (10, 0), (11, 0)] (by kernel_rfl) (by kernel_rfl) rfl (by kernel_rfl) ?_
  refine stepE0 rfl rfl (fun K hK => ?_)
  go_simp
  refine hK _ ?_
  clear hK K
  refine stepE0 rfl rfl (fun K hK => ?_)
  go_simp
  refine hK _ ?_
  clear hK K
  refine stepE2 rfl rfl ?_ (fun w1 hS => ?_) (fun K hK => ?_)
  rotate_left
  focus (obtain rfl : w1 = _ := hS; go_simp; rfl)
  go_simp
  refine hK _ ?_
  clear hK K
  refine stepE0 rfl rfl (fun K hK => ?_)
  go_simp
  refine hK _ ?_
  clear hK K
  refine stepE0 rfl rfl (fun K hK => ?_)
  go_simp
  refine hK _ ?_
  clear hK K
  refine stepE2 rfl rfl ?_ (fun w1 hS => ?_) (fun K hK => ?_)
  rotate_left
  focus (obtain rfl : w1 = _ := hS; go_simp; rfl)
  go_simp
  refine hK _ ?_
  clear hK K
  refine stepE0 rfl rfl (fun K hK => ?_)
  go_simp
  refine hK _ ?_
  clear hK K
  refine stepE0 rfl rfl (fun K hK => ?_)
  go_simp
  refine hK _ ?_
  clear hK K
  refine stepE2 rfl rfl ?_ (fun w1 hS => ?_) (fun K hK => ?_)
  rotate_left
  focus (obtain rfl : w1 = _ := hS; go_simp; rfl)
  go_simp
  refine hK _ ?_
  clear hK K
  refine stepE0 rfl rfl (fun K hK => ?_)
  go_simp
  refine hK _ ?_
  clear hK K
  refine stepE0 rfl rfl (fun K hK => ?_)
  go_simp
  refine hK _ ?_
  clear hK K
  refine stepE0 rfl rfl (fun K hK => ?_)
  go_simp
  refine hK _ ?_
  clear hK K
  try refine stepEnil0 ?_
  go_wp2_with (go_at_call 69; refine (near_any _ _).mono ?_; rintro e w' ⟨rfl, rfl⟩; simp only [ha, hb, hc])
  go_ret3
  refine RefOut.same (v := .slice a n cap) (by rw [HN.out]; exact H.out) (by repeat (first | (with_reducible exact Below.refl _ _) | (with_reducible refine Below.setCell ?_ ?_ _) | (with_reducible refine Below.alloc ?_ ?_ _) | (with_reducible refine Below.drewN ?_ _) | (with_reducible refine Below.drew ?_) | (with_reducible exact Nat.le_refl _) | (focus (simp only [World.size_alloc, World.size_setCell, World.size_drew, World.size_drewN]; omega)) | omega | exact Nat.le_refl _ | (focus (simp; done)) | (focus (simp; omega))))
set_option maxRecDepth 100000 in
set_option maxHeartbeats 2000000 in
theorem ref_none (base : Nat) (v : Value) (es : List Ent) (c : Cmd) (w : World) (h : w.ownsRow base 128 6 v es.length (es.flatMap Ent.row)) (hk : 2 ≤ c.kind) (hk2 : c.kind ≤ 4) (hv : c.vol < 1 ∨ (es.length : Int) < c.vol) :
    Calls Try.prog 39 #[v, .agg #[.int .i64 c.kind, .int .i64 c.vol, .int .i64 c.epoch, .int .i64 c.spot, .int .i64 c.node, .int .i64 c.n0, .int .i64 c.n1, .int .i64 c.n2]] w
      (RefOut w base es 0 6) := by
  have H := Lib.hid h
  obtain ⟨a, cap, rfl⟩ := ownsRow_len h
  clear h
  obtain ⟨k, cv, ce, cs, cn, c0, c1, c2⟩ := c
  have d1 : decide (k < 1) = false := by have : 2 ≤ k := hk; simp; omega
  have d2 : decide (4 < k) = false := by have : k ≤ 4 := hk2; simp; omega
  have d3 : (k == 1) = false := by have : 2 ≤ k := hk; simp; omega
  clear hk hk2
  have hv' : cv < 1 ∨ (es.length : Int) < cv := hv
  clear hv
  by_cases h1 : cv < 1
  · clear hv'
    go_enter Try.func39, Try.ntmps39
    go_wp2_with fail
    refine wp_region_now0 [2, 5, 8] [(0, 0), (1, 0), (2, 2), (3, 0), (4, 0), (5, 2), (6, 0), (7, 0), (8, 2), (9, 0), (10, 0), (11, 0)] (by kernel_rfl) (by kernel_rfl) rfl (by kernel_rfl) ?_
    refine stepE0 rfl rfl (fun K hK => ?_)
    go_simp
    refine hK _ ?_
    clear hK K
    refine stepE0 rfl rfl (fun K hK => ?_)
    go_simp
    refine hK _ ?_
    clear hK K
    refine stepE2 rfl rfl ?_ (fun w1 hS => ?_) (fun K hK => ?_)
    rotate_left
    focus (obtain rfl : w1 = _ := hS; go_simp; rfl)
    go_simp
    refine hK _ ?_
    clear hK K
    refine stepE0 rfl rfl (fun K hK => ?_)
    go_simp
    refine hK _ ?_
    clear hK K
    refine stepE0 rfl rfl (fun K hK => ?_)
    go_simp
    refine hK _ ?_
    clear hK K
    refine stepE2 rfl rfl ?_ (fun w1 hS => ?_) (fun K hK => ?_)
    rotate_left
    focus (obtain rfl : w1 = _ := hS; go_simp; rfl)
    go_simp
    refine hK _ ?_
    clear hK K
    refine stepE0 rfl rfl (fun K hK => ?_)
    go_simp
    refine hK _ ?_
    clear hK K
    refine stepE0 rfl rfl (fun K hK => ?_)
    go_simp
    refine hK _ ?_
    clear hK K
    refine stepE2 rfl rfl ?_ (fun w1 hS => ?_) (fun K hK => ?_)
    rotate_left
    focus (obtain rfl : w1 = _ := hS; go_simp; rfl)
    go_simp
    refine hK _ ?_
    clear hK K
    refine stepE0 rfl rfl (fun K hK => ?_)
    go_simp
    refine hK _ ?_
    clear hK K
    refine stepE0 rfl rfl (fun K hK => ?_)
    go_simp
    refine hK _ ?_
    clear hK K
    refine stepE0 rfl rfl (fun K hK => ?_)
    go_simp
    refine hK _ ?_
    clear hK K
    try refine stepEnil0 ?_
    go_wp2_with fail
    go_ret3
    exact RefOut.same H.out (by repeat (first | (with_reducible exact Below.refl _ _) | (with_reducible refine Below.setCell ?_ ?_ _) | (with_reducible refine Below.alloc ?_ ?_ _) | (with_reducible refine Below.drewN ?_ _) | (with_reducible refine Below.drew ?_) | (with_reducible exact Nat.le_refl _) | (focus (simp only [World.size_alloc, World.size_setCell, World.size_drew, World.size_drewN]; omega)) | omega | exact Nat.le_refl _ | (focus (simp; done)) | (focus (simp; omega))))
  · have h2 : (es.length : Int) < cv := by omega
    have h1' : decide (cv < 1) = false := by simpa using h1
    clear hv' h1
    go_enter Try.func39, Try.ntmps39
    go_wp2_with fail
    refine wp_region_now0 [2, 5, 8] [(0, 0), (1, 0), (2, 2), (3, 0), (4, 0), (5, 2), (6, 0), (7, 0), (8, 2), (9, 0), (10, 0), (11, 0)] (by kernel_rfl) (by kernel_rfl) rfl (by kernel_rfl) ?_
    refine stepE0 rfl rfl (fun K hK => ?_)
    go_simp
    refine hK _ ?_
    clear hK K
    refine stepE0 rfl rfl (fun K hK => ?_)
    go_simp
    refine hK _ ?_
    clear hK K
    refine stepE2 rfl rfl ?_ (fun w1 hS => ?_) (fun K hK => ?_)
    rotate_left
    focus (obtain rfl : w1 = _ := hS; go_simp; rfl)
    go_simp
    refine hK _ ?_
    clear hK K
    refine stepE0 rfl rfl (fun K hK => ?_)
    go_simp
    refine hK _ ?_
    clear hK K
    refine stepE0 rfl rfl (fun K hK => ?_)
    go_simp
    refine hK _ ?_
    clear hK K
    refine stepE2 rfl rfl ?_ (fun w1 hS => ?_) (fun K hK => ?_)
    rotate_left
    focus (obtain rfl : w1 = _ := hS; go_simp; rfl)
    go_simp
    refine hK _ ?_
    clear hK K
    refine stepE0 rfl rfl (fun K hK => ?_)
    go_simp
    refine hK _ ?_
    clear hK K
    refine stepE0 rfl rfl (fun K hK => ?_)
    go_simp
    refine hK _ ?_
    clear hK K
    refine stepE2 rfl rfl ?_ (fun w1 hS => ?_) (fun K hK => ?_)
    rotate_left
    focus (obtain rfl : w1 = _ := hS; go_simp; rfl)
    go_simp
    refine hK _ ?_
    clear hK K
    refine stepE0 rfl rfl (fun K hK => ?_)
    go_simp
    refine hK _ ?_
    clear hK K
    refine stepE0 rfl rfl (fun K hK => ?_)
    go_simp
    refine hK _ ?_
    clear hK K
    refine stepE0 rfl rfl (fun K hK => ?_)
    go_simp
    refine hK _ ?_
    clear hK K
    try refine stepEnil0 ?_
    go_wp2_with fail
    go_ret3
    exact RefOut.same H.out (by repeat (first | (with_reducible exact Below.refl _ _) | (with_reducible refine Below.setCell ?_ ?_ _) | (with_reducible refine Below.alloc ?_ ?_ _) | (with_reducible refine Below.drewN ?_ _) | (with_reducible refine Below.drew ?_) | (with_reducible exact Nat.le_refl _) | (focus (simp only [World.size_alloc, World.size_setCell, World.size_drew, World.size_drewN]; omega)) | omega | exact Nat.le_refl _ | (focus (simp; done)) | (focus (simp; omega))))
set_option maxRecDepth 100000 in
set_option maxHeartbeats 2000000 in
theorem ref_stale (base : Nat) (v : Value) (es : List Ent) (c : Cmd) (j : Nat) (x : Ent) (w : World) (h : w.ownsRow base 128 6 v es.length (es.flatMap Ent.row)) (hk : 2 ≤ c.kind) (hk2 : c.kind ≤ 4) (hv : c.vol = (j : Int) + 1) (hx : es[j]? = some x) (hne : x.epoch ≠ c.epoch) :
    Calls Try.prog 39 #[v, .agg #[.int .i64 c.kind, .int .i64 c.vol, .int .i64 c.epoch, .int .i64 c.spot, .int .i64 c.node, .int .i64 c.n0, .int .i64 c.n1, .int .i64 c.n2]] w
      (RefOut w base es 0 13) := by
  have H := Lib.hid h
  obtain ⟨g, cap, rfl, hg, hgb, hj, q0, q1, q2, q3, q4, q5⟩ := row_ent19 h j x hx
  clear h hx
  obtain ⟨k, cv, ce, cs, cn, c0, c1, c2⟩ := c
  obtain ⟨xv, xe, x0, x1, x2, xs⟩ := x
  have d1 : decide (k < 1) = false := by have : 2 ≤ k := hk; simp; omega
  have d2 : decide (4 < k) = false := by have : k ≤ 4 := hk2; simp; omega
  have d3 : (k == 1) = false := by have : 2 ≤ k := hk; simp; omega
  clear hk hk2
  have hv' : cv = (j : Int) + 1 := hv
  clear hv
  subst hv'
  have d4 : (xe != ce) = true := by have : xe ≠ ce := hne; simpa using this
  clear hne
  have hle : es.length ≤ maxLen := (reads_of_owns H.out).2.elim (fun h => by have := h.2; omega) (fun ⟨_, _, _, h, _⟩ => h)
  have hle' : es.length ≤ 9223372036854775807 := hle
  have e1 : IntKind.i64.wrap ((j : Int) + 1 - 1) = (j : Int) := by rw [show (j : Int) + 1 - 1 = j by omega]; exact IntWalk.i64_in _ (by omega)
  go_enter Try.func39, Try.ntmps39
  go_wp2_with fail
  refine wp_region_now0 [2, 5, 8] [(0, 0), (1, 0), (2, 2), (3, 0), (4, 0), (5, 2), (6, 0), (7, 0), (8, 2), (9, 0), (10, 0), (11, 0)] (by kernel_rfl) (by kernel_rfl) rfl (by kernel_rfl) ?_
  refine stepE0 rfl rfl (fun K hK => ?_)
  go_simp
  refine hK _ ?_
  clear hK K
  refine stepE0 rfl rfl (fun K hK => ?_)
  go_simp
  refine hK _ ?_
  clear hK K
  refine stepE2 rfl rfl ?_ (fun w1 hS => ?_) (fun K hK => ?_)
  rotate_left
  focus (obtain rfl : w1 = _ := hS; go_simp; rfl)
  go_simp
  refine hK _ ?_
  clear hK K
  refine stepE0 rfl rfl (fun K hK => ?_)
  go_simp
  refine hK _ ?_
  clear hK K
  refine stepE0 rfl rfl (fun K hK => ?_)
  go_simp
  refine hK _ ?_
  clear hK K
  refine stepE2 rfl rfl ?_ (fun w1 hS => ?_) (fun K hK => ?_)
  rotate_left
  focus (obtain rfl : w1 = _ := hS; go_simp; rfl)
  go_simp
  refine hK _ ?_
  clear hK K
  refine stepE0 rfl rfl (fun K hK => ?_)
  go_simp
  refine hK _ ?_
  clear hK K
  refine stepE0 rfl rfl (fun K hK => ?_)
  go_simp
  refine hK _ ?_
  clear hK K
  refine stepE2 rfl rfl ?_ (fun w1 hS => ?_) (fun K hK => ?_)
  rotate_left
  focus (obtain rfl : w1 = _ := hS; go_simp; rfl)
  go_simp
  refine hK _ ?_
  clear hK K
  refine stepE0 rfl rfl (fun K hK => ?_)
  go_simp
  refine hK _ ?_
  clear hK K
  refine stepE0 rfl rfl (fun K hK => ?_)
  go_simp
  refine hK _ ?_
  clear hK K
  refine stepE0 rfl rfl (fun K hK => ?_)
  go_simp
  refine hK _ ?_
  clear hK K
  try refine stepEnil0 ?_
  go_wp2_with fail
  go_ret3
  exact RefOut.same H.out (by repeat (first | (with_reducible exact Below.refl _ _) | (with_reducible refine Below.setCell ?_ ?_ _) | (with_reducible refine Below.alloc ?_ ?_ _) | (with_reducible refine Below.drewN ?_ _) | (with_reducible refine Below.drew ?_) | (with_reducible exact Nat.le_refl _) | (focus (simp only [World.size_alloc, World.size_setCell, World.size_drew, World.size_drewN]; omega)) | omega | exact Nat.le_refl _ | (focus (simp; done)) | (focus (simp; omega))))
end Go.Proofs.Ytigkcbnlbdiimaa

/- corncribref19.Do: the errors of a volume that is there. -/
namespace Go.Proofs.Ytigkcbnlbdiimaa
open Go.RowKit
theorem err_ways {x : Ent} {c : Cmd} (hk : 2 ≤ c.kind) (hk2 : c.kind ≤ 4) (h : turnE x c ≠ 0) :
    (c.kind = 2 ∧ x.shut = true ∧ turnE x c = 10) ∨ (c.kind = 3 ∧ x.shut = false ∧ turnE x c = 8) ∨
    (c.kind = 4 ∧ decide (c.spot < 0) = true ∧ turnE x c = 1) ∨ (c.kind = 4 ∧ decide (c.spot < 0) = false ∧ decide (2 < c.spot) = true ∧ turnE x c = 1) ∨
    (c.kind = 4 ∧ decide (c.spot < 0) = false ∧ decide (2 < c.spot) = false ∧ placeB c.node = false ∧ turnE x c = 1) ∨
    (c.kind = 4 ∧ decide (c.spot < 0) = false ∧ decide (2 < c.spot) = false ∧ placeB c.node = true ∧ (x.n0 == c.node) = true ∧ turnE x c = 8) ∨
    (c.kind = 4 ∧ decide (c.spot < 0) = false ∧ decide (2 < c.spot) = false ∧ placeB c.node = true ∧ (x.n0 == c.node) = false ∧ (x.n1 == c.node) = true ∧ turnE x c = 8) ∨
    (c.kind = 4 ∧ decide (c.spot < 0) = false ∧ decide (2 < c.spot) = false ∧ placeB c.node = true ∧ (x.n0 == c.node) = false ∧ (x.n1 == c.node) = false ∧ (x.n2 == c.node) = true ∧ turnE x c = 8) := by
  by_cases h2 : c.kind = 2
  · left
    cases hs : x.shut
    · simp [turnE, h2, hs] at h
    · exact ⟨h2, rfl, by simp [turnE, h2, hs]⟩
  by_cases h3 : c.kind = 3
  · right; left
    cases hs : x.shut
    · exact ⟨h3, rfl, by simp [turnE, h3, hs]⟩
    · simp [turnE, h3, hs] at h
  have h4 : c.kind = 4 := by omega
  right; right
  have e : turnE x c = errNode x c := by simp [turnE, h4]
  rw [e] at h ⊢
  unfold errNode at h ⊢
  by_cases a1 : c.spot < 0
  · left; exact ⟨h4, by simpa using a1, by rw [if_pos (.inl a1)]⟩
  by_cases a2 : 2 < c.spot
  · right; left; exact ⟨h4, by simpa using a1, by simpa using a2, by rw [if_pos (.inr (.inl (by omega)))]⟩
  right; right
  cases a3 : placeB c.node
  · left; exact ⟨h4, by simpa using a1, by simpa using a2, rfl, by rw [if_pos (.inr (.inr rfl))]⟩
  right
  rw [a3] at h
  rw [if_neg (by intro h'; rcases h' with h' | h' | h' <;> first | omega | cases h')] at h ⊢
  by_cases b0 : x.n0 = c.node
  · left; exact ⟨h4, by simpa using a1, by simpa using a2, rfl, by simpa using b0, by rw [if_pos (.inl b0)]⟩
  by_cases b1 : x.n1 = c.node
  · right; left; exact ⟨h4, by simpa using a1, by simpa using a2, rfl, by simpa using b0, by simpa using b1, by rw [if_pos (.inr (.inl b1))]⟩
  by_cases b2 : x.n2 = c.node
  · right; right; exact ⟨h4, by simpa using a1, by simpa using a2, rfl, by simpa using b0, by simpa using b1, by simpa using b2, by rw [if_pos (.inr (.inr b2))]⟩
  · rw [if_neg (by rintro (h' | h' | h'); exact b0 h'; exact b1 h'; exact b2 h')] at h
    exact absurd rfl h
set_option maxRecDepth 100000 in
set_option maxHeartbeats 4000000 in
theorem ref_err (base : Nat) (v : Value) (es : List Ent) (c : Cmd) (j : Nat) (x : Ent) (w : World) (h : w.ownsRow base 128 6 v es.length (es.flatMap Ent.row)) (hk : 2 ≤ c.kind) (hk2 : c.kind ≤ 4) (hv : c.vol = (j : Int) + 1) (hx : es[j]? = some x) (he : x.epoch = c.epoch) (ht : turnE x c ≠ 0) :
    Calls Try.prog 39 #[v, .agg #[.int .i64 c.kind, .int .i64 c.vol, .int .i64 c.epoch, .int .i64 c.spot, .int .i64 c.node, .int .i64 c.n0, .int .i64 c.n1, .int .i64 c.n2]] w
      (RefOut w base es 0 (turnE x c)) := by
  have hw := err_ways hk hk2 ht
  clear ht hk hk2
  generalize turnE x c = r at *
  have H := Lib.hid h
  obtain ⟨g, cap, rfl, hg, hgb, hj, q0, q1, q2, q3, q4, q5⟩ := row_ent19 h j x hx
  clear h hx
  obtain ⟨k, cv, ce, cs, cn, c0, c1, c2⟩ := c
  obtain ⟨xv, xe, x0, x1, x2, xs⟩ := x
  have hv' : cv = (j : Int) + 1 := hv
  clear hv
  subst hv'
  have he' : xe = ce := he
  clear he
  subst he'
  have hle : es.length ≤ maxLen := (reads_of_owns H.out).2.elim (fun h => by have := h.2; omega) (fun ⟨_, _, _, h, _⟩ => h)
  have hle' : es.length ≤ 9223372036854775807 := hle
  have e1 : IntKind.i64.wrap ((j : Int) + 1 - 1) = (j : Int) := by rw [show (j : Int) + 1 - 1 = j by omega]; exact IntWalk.i64_in _ (by omega)
  simp only at hw q0 q1 q2 q3 q4 q5
  rcases hw with ⟨rfl, rfl, rfl⟩ | ⟨rfl, rfl, rfl⟩ | ⟨rfl, d1, rfl⟩ | ⟨rfl, d1, d2, rfl⟩ | ⟨rfl, d1, d2, d3, rfl⟩ | ⟨rfl, d1, d2, d3, d4, rfl⟩ | ⟨rfl, d1, d2, d3, d4, d5, rfl⟩ | ⟨rfl, d1, d2, d3, d4, d5, d6, rfl⟩
  all_goals
    go_enter Try.func39, Try.ntmps39
    go_wp2_with fail
    refine wp_region_now0 [2, 5, 8] [(0, 0), (1, 0), (2, 2), (3, 0), (4, 0), (5, 2), (6, 0), (7, 0), (8, 2), (9, 0), (10, 0), (11, 0)] (by kernel_rfl) (by kernel_rfl) rfl (by kernel_rfl) ?_
    refine stepE0 rfl rfl (fun K hK => ?_)
    go_simp
    refine hK _ ?_
    clear hK K
    refine stepE0 rfl rfl (fun K hK => ?_)
    go_simp
    refine hK _ ?_
    clear hK K
    refine stepE2 rfl rfl ?_ (fun w1 hS => ?_) (fun K hK => ?_)
    rotate_left
    focus (obtain rfl : w1 = _ := hS; go_simp; rfl)
    go_simp
    refine hK _ ?_
    clear hK K
    refine stepE0 rfl rfl (fun K hK => ?_)
    go_simp
    refine hK _ ?_
    clear hK K
    refine stepE0 rfl rfl (fun K hK => ?_)
    go_simp
    refine hK _ ?_
    clear hK K
    refine stepE2 rfl rfl ?_ (fun w1 hS => ?_) (fun K hK => ?_)
    rotate_left
    focus (obtain rfl : w1 = _ := hS; go_simp; rfl)
    go_simp
    refine hK _ ?_
    clear hK K
    refine stepE0 rfl rfl (fun K hK => ?_)
    go_simp
    refine hK _ ?_
    clear hK K
    refine stepE0 rfl rfl (fun K hK => ?_)
    go_simp
    refine hK _ ?_
    clear hK K
    refine stepE2 rfl rfl ?_ (fun w1 hS => ?_) (fun K hK => ?_)
    rotate_left
    focus (obtain rfl : w1 = _ := hS; go_simp; rfl)
    go_simp
    refine hK _ ?_
    clear hK K
    refine stepE0 rfl rfl (fun K hK => ?_)
    go_simp
    refine hK _ ?_
    clear hK K
    refine stepE0 rfl rfl (fun K hK => ?_)
    go_simp
    refine hK _ ?_
    clear hK K
    refine stepE0 rfl rfl (fun K hK => ?_)
    go_simp
    refine hK _ ?_
    clear hK K
    try refine stepEnil0 ?_
    go_wp2_with (go_at_call 69; refine (near_any _ _).mono ?_; rintro e w' ⟨rfl, rfl⟩; simp only [d3])
    go_ret3
    exact RefOut.same H.out (by repeat (first | (with_reducible exact Below.refl _ _) | (with_reducible refine Below.setCell ?_ ?_ _) | (with_reducible refine Below.alloc ?_ ?_ _) | (with_reducible refine Below.drewN ?_ _) | (with_reducible refine Below.drew ?_) | (with_reducible exact Nat.le_refl _) | (focus (simp only [World.size_alloc, World.size_setCell, World.size_drew, World.size_drewN]; omega)) | omega | exact Nat.le_refl _ | (focus (simp; done)) | (focus (simp; omega))))
end Go.Proofs.Ytigkcbnlbdiimaa

/- corncribref19.Do: what changes a volume. -/
namespace Go.Proofs.Ytigkcbnlbdiimaa
open Go.RowKit
theorem entry19_info : (Try.prog.info? 128).map (fun i => (i.zero, i.size, i.bytes)) = some (some (.agg #[.int .i64 0, .int .i64 0, .int .i64 0, .int .i64 0, .int .i64 0, .bool false]), 6, 48) := by kernel_rfl
theorem RefOut.put {w W0 W : World} {base gg cap j : Nat} {es : List Ent} (y : Ent) (n : Int) (hW : W = (setCellsAt W0 gg (j * 6) y.row).drew)
    (h : W0.ownsRow base 128 6 (.slice (some ⟨gg, 0, none⟩) es.length cap) es.length (es.flatMap Ent.row)) (hb : Below w.heap.size w W0) (hj : j < es.length) (hg : w.heap.size ≤ gg) (hn : n = y.epoch) :
    RefOut w base (es.set j y) n 0 (.returned (.tuple #[.slice (some ⟨gg, 0, none⟩) es.length cap, .int .i64 n, .int .i64 0])) W := by
  subst hn
  have hk := setCellsAt_keeps gg y.row (j * 6) W0
  have hr := ownsRow_struct Ent.row 6 Ent.row_len es j y hj h
  generalize setCellsAt W0 gg (j * 6) y.row = X at *
  subst hW
  refine ⟨_, rfl, ?_, (hb.trans (hk.below (B := w.heap.size) hb.size (fun k e => by rw [e]; exact hg))).drew⟩
  rw [List.length_set]
  exact hr.drew
theorem lit_at {w : World} {base k : Nat} (hk : w.heap.size = k) (hb : base ≤ k) : (w.alloc (.cells #[] 128)).ownsRow base 128 6 (.slice (some ⟨k, 0, none⟩) 0 0) 0 [] := by
  subst hk
  exact World.ownsRow_lit w #[] 0 hb (by unfold maxLen; omega) rfl
theorem turn_ways {x : Ent} {c : Cmd} (hk : 2 ≤ c.kind) (hk2 : c.kind ≤ 4) (h : turnE x c = 0) :
    (c.kind = 2 ∧ x.shut = false ∧ turnX x c = ⟨x.vol, wrapI (x.epoch + 1), x.n0, x.n1, x.n2, true⟩) ∨ (c.kind = 3 ∧ x.shut = true ∧ turnX x c = ⟨x.vol, wrapI (x.epoch + 1), x.n0, x.n1, x.n2, false⟩) ∨
    (c.kind = 4 ∧ placeB c.node = true ∧ (x.n0 == c.node) = false ∧ (x.n1 == c.node) = false ∧ (x.n2 == c.node) = false ∧
      ((c.spot = 0 ∧ turnX x c = ⟨x.vol, wrapI (x.epoch + 1), c.node, x.n1, x.n2, x.shut⟩) ∨ (c.spot = 1 ∧ turnX x c = ⟨x.vol, wrapI (x.epoch + 1), x.n0, c.node, x.n2, x.shut⟩) ∨ (c.spot = 2 ∧ turnX x c = ⟨x.vol, wrapI (x.epoch + 1), x.n0, x.n1, c.node, x.shut⟩))) := by
  by_cases h2 : c.kind = 2
  · left
    cases hs : x.shut
    · exact ⟨h2, rfl, by simp [turnX, h2]⟩
    · simp [turnE, h2, hs] at h
  by_cases h3 : c.kind = 3
  · right; left
    cases hs : x.shut
    · simp [turnE, h3, hs] at h
    · exact ⟨h3, rfl, by simp [turnX, h3]⟩
  have h4 : c.kind = 4 := by omega
  right; right
  have e : turnE x c = errNode x c := by simp [turnE, h4]
  rw [e] at h
  unfold errNode at h
  by_cases a1 : c.spot < 0 ∨ 3 ≤ c.spot ∨ placeB c.node = false
  · rw [if_pos a1] at h; cases h
  rw [if_neg a1] at h
  by_cases b0 : x.n0 = c.node ∨ x.n1 = c.node ∨ x.n2 = c.node
  · rw [if_pos b0] at h; cases h
  have hp : placeB c.node = true := by
    cases hp : placeB c.node
    · exact absurd (.inr (.inr hp)) a1
    · rfl
  have n0 : x.n0 ≠ c.node := fun e => b0 (.inl e)
  have n1 : x.n1 ≠ c.node := fun e => b0 (.inr (.inl e))
  have n2 : x.n2 ≠ c.node := fun e => b0 (.inr (.inr e))
  have l0 : ¬ c.spot < 0 := fun e => a1 (.inl e)
  have l3 : ¬ 3 ≤ c.spot := fun e => a1 (.inr (.inl e))
  refine ⟨h4, hp, by simpa using n0, by simpa using n1, by simpa using n2, ?_⟩
  by_cases s0 : c.spot = 0
  · left; exact ⟨s0, by simp [turnX, h4, s0]⟩
  by_cases s1 : c.spot = 1
  · right; left; exact ⟨s1, by simp [turnX, h4, s1]⟩
  · have s2 : c.spot = 2 := by omega
    right; right; exact ⟨s2, by simp [turnX, h4, s2]⟩
set_option maxRecDepth 100000 in
set_option maxHeartbeats 4000000 in
theorem ref_turn (base : Nat) (v : Value) (es : List Ent) (c : Cmd) (j : Nat) (x : Ent) (w : World) (h : w.ownsRow base 128 6 v es.length (es.flatMap Ent.row)) (hk : 2 ≤ c.kind) (hk2 : c.kind ≤ 4) (hv : c.vol = (j : Int) + 1) (hx : es[j]? = some x) (he : x.epoch = c.epoch) (ht : turnE x c = 0) (hl : es.length ≤ 100000) :
    Calls Try.prog 39 #[v, .agg #[.int .i64 c.kind, .int .i64 c.vol, .int .i64 c.epoch, .int .i64 c.spot, .int .i64 c.node, .int .i64 c.n0, .int .i64 c.n1, .int .i64 c.n2]] w
      (RefOut w base (es.set j (turnX x c)) (turnX x c).epoch 0) := by
  have hw := turn_ways hk hk2 ht
  clear ht hk hk2
  generalize turnX x c = y at *
  obtain ⟨i0, hi, hz0, hz1, hz2⟩ := info_parts entry19_info
  have HI := Lib.hid hi
  have HZ0 := Lib.hid hz0
  have HZ1 := Lib.hid hz1
  have HZ2 := Lib.hid hz2
  clear hi hz0 hz1 hz2
  have H := Lib.hid h
  obtain ⟨g, cap, rfl, hg, hgb, hj, q0, q1, q2, q3, q4, q5⟩ := row_ent19 h j x hx
  have HX := Lib.hid hx
  clear h hx
  obtain ⟨k, cv, ce, cs, cn, c0, c1, c2⟩ := c
  obtain ⟨xv, xe, x0, x1, x2, xs⟩ := x
  have hv' : cv = (j : Int) + 1 := hv
  clear hv
  subst hv'
  have he' : xe = ce := he
  clear he
  subst he'
  have e1 : IntKind.i64.wrap ((j : Int) + 1 - 1) = (j : Int) := by rw [show (j : Int) + 1 - 1 = j by omega]; exact IntWalk.i64_in _ (by omega)
  simp only at hw q0 q1 q2 q3 q4 q5
  rcases hw with ⟨rfl, rfl, rfl⟩ | ⟨rfl, rfl, rfl⟩ | ⟨rfl, d3, d4, d5, d6, ⟨rfl, rfl⟩ | ⟨rfl, rfl⟩ | ⟨rfl, rfl⟩⟩
  all_goals
    go_enter Try.func39, Try.ntmps39
    go_wp2_with fail
    refine wp_region_now0 [2, 5, 8] [(0, 0), (1, 0), (2, 2), (3, 0), (4, 0), (5, 2), (6, 0), (7, 0), (8, 2), (9, 0), (10, 0), (11, 0)] (by kernel_rfl) (by kernel_rfl) rfl (by kernel_rfl) ?_
    refine stepE0 rfl rfl (fun K hK => ?_)
    go_simp
    refine hK _ ?_
    clear hK K
    refine stepE0 rfl rfl (fun K hK => ?_)
    go_simp
    refine hK _ ?_
    clear hK K
    refine stepE2 rfl rfl ?_ (fun w1 hS => ?_) (fun K hK => ?_)
    rotate_left
    focus (obtain rfl : w1 = _ := hS; go_simp; rfl)
    go_simp
    refine hK _ ?_
    clear hK K
    refine stepE0 rfl rfl (fun K hK => ?_)
    go_simp
    refine hK _ ?_
    clear hK K
    refine stepE0 rfl rfl (fun K hK => ?_)
    go_simp
    refine hK _ ?_
    clear hK K
    refine stepE2 rfl rfl ?_ (fun w1 hS => ?_) (fun K hK => ?_)
    rotate_left
    focus (obtain rfl : w1 = _ := hS; go_simp; rfl)
    go_simp
    refine hK _ ?_
    clear hK K
    refine stepE0 rfl rfl (fun K hK => ?_)
    go_simp
    refine hK _ ?_
    clear hK K
    refine stepE0 rfl rfl (fun K hK => ?_)
    go_simp
    refine hK _ ?_
    clear hK K
    refine stepE2 rfl rfl ?_ (fun w1 hS => ?_) (fun K hK => ?_)
    rotate_left
    focus (obtain rfl : w1 = _ := hS; go_simp; rfl)
    go_simp
    refine hK _ ?_
    clear hK K
    refine stepE0 rfl rfl (fun K hK => ?_)
    go_simp
    refine hK _ ?_
    clear hK K
    refine stepE0 rfl rfl (fun K hK => ?_)
    go_simp
    refine hK _ ?_
    clear hK K
    refine stepE0 rfl rfl (fun K hK => ?_)
    go_simp
    refine hK _ ?_
    clear hK K
    try refine stepEnil0 ?_
    go_wp2_with (first
      | (go_at_call 69; refine (near_any _ _).mono ?_; rintro e w' ⟨rfl, rfl⟩; simp only [d3])
      | (at_builtin; refine wpList_append_lies _ rfl _ _ 72 rfl base 128 i0 (.agg #[.int .i64 0, .int .i64 0, .int .i64 0, .int .i64 0, .int .i64 0, .bool false]) 6 48 Try.underlying72 HI.out HZ0.out HZ1.out HZ2.out rfl (by decide) (.slice (some ⟨w.heap.size + 2, 0, none⟩) 0 0) 0 [] rfl (lit_at (by simp) (by omega)) ⟨g, 0, none⟩ es.length cap (es.flatMap Ent.row) rfl H.out.1 (fun j u hu => cell_later (by repeat (first | (with_reducible exact Below.refl _ _) | (with_reducible refine Below.setCell ?_ ?_ _) | (with_reducible refine Below.alloc ?_ ?_ _) | (with_reducible refine Below.drewN ?_ _) | (with_reducible refine Below.drew ?_) | (with_reducible exact Nat.le_refl _) | (focus (simp only [World.size_alloc, World.size_setCell, World.size_drew, World.size_drewN]; omega)) | omega | exact Nat.le_refl _ | (focus (simp; done)) | (focus (simp; omega)))) (H.out.cells (g := g) rfl j u hu)) (Ent.one es) (by omega) (by unfold maxLen; omega) (by omega) (by simp; omega) _ rfl ?_; intro gg cap2 w2 hown hgrow hat hlt2; have kc := fun (o : Nat) => grown_cell (b := w.heap.size) (o := o) hgrow (by simp; omega) (by simp [Value.ownBlock]); have kx := fun (o : Nat) => grown_cell (b := w.heap.size + 1) (o := o) hgrow (by simp) (by simp [Value.ownBlock]); have kf := fun (o : Nat) => hown.frozenAt o; have hown' : w2.ownsRow base 128 6 (.slice (some ⟨gg, 0, none⟩) es.length cap2) es.length (es.flatMap Ent.row) := (by simpa using hown); obtain ⟨g3, c3, e3, hg3, _, _, s0, s1, s2, s3, s4, s5⟩ := row_ent19 hown' j _ HX.out; obtain ⟨e3', -, -⟩ := slice_inj e3; have e4 : gg = g3 := (by simpa using e3'); subst e4; simp only at s0 s1 s2 s3 s4 s5; clear e3 e3'; have HO := Lib.hid hown'; have HG := Lib.hid hgrow; have hgg : w.heap.size + 2 ≤ gg := (by rcases hat with h | h <;> simp [Value.ownBlock] at h <;> omega); have HGG := Lib.hid hgg; have hgne : w.heap.size + 1 ≠ gg := (by omega); have hgne2 : gg ≠ w.heap.size + 1 := (by omega); clear hgg hown hown' hgrow hat))
    have hj0 : (0 : Int) ≤ (j : Int) := by omega
    have hj1 : (j : Int) < (es.length : Int) := by omega
    go_wp2_with fail
    refine wp_region_now0 [2] [(0, 0), (1, 0), (2, 2), (3, 0), (4, 0), (5, 0)] (by kernel_rfl) (by kernel_rfl) rfl (by kernel_rfl) ?_
    refine stepE0 rfl rfl (fun K hK => ?_)
    go_simp
    refine hK _ ?_
    clear hK K
    refine stepE0 rfl rfl (fun K hK => ?_)
    go_simp
    refine hK _ ?_
    clear hK K
    refine stepE2 rfl rfl ?_ (fun w1 hS => ?_) (fun K hK => ?_)
    rotate_left
    focus (obtain rfl : w1 = _ := hS; go_simp; rfl)
    go_simp
    refine hK _ ?_
    clear hK K
    refine stepE0 rfl rfl (fun K hK => ?_)
    go_simp
    refine hK _ ?_
    clear hK K
    refine stepE0 rfl rfl (fun K hK => ?_)
    go_simp
    refine hK _ ?_
    clear hK K
    refine stepE0 rfl rfl (fun K hK => ?_)
    go_simp
    refine hK _ ?_
    clear hK K
    try refine stepEnil0 ?_
    go_wp2_with fail
    go_ret3
    refine RefOut.put (cap := cap2) ⟨xv, wrapI (xe + 1), _, _, _, _⟩ _ rfl HO.out ?_ hj (by have := HGG.out; omega) rfl
    exact Below.grown (by repeat (first | (with_reducible exact Below.refl _ _) | (with_reducible refine Below.setCell ?_ ?_ _) | (with_reducible refine Below.alloc ?_ ?_ _) | (with_reducible refine Below.drewN ?_ _) | (with_reducible refine Below.drew ?_) | (with_reducible exact Nat.le_refl _) | (focus (simp only [World.size_alloc, World.size_setCell, World.size_drew, World.size_drewN]; omega)) | omega | exact Nat.le_refl _ | (focus (simp; done)) | (focus (simp; omega)))) HG.out (by simp; omega) (by simp [Value.ownBlock])
end Go.Proofs.Ytigkcbnlbdiimaa

/- XOrder with a choice: where one of two effects may come up first. -/
namespace Go.Proofs.Ytigkcbnlbdiimaa
open Go.RowKit
inductive Plan where
  | nil
  | op (i k : Nat) (rest : Plan)
  | two (i : Nat) (pi : Plan) (j : Nat) (pj : Plan)
def Plan.len : Plan → Nat
  | .nil => 0
  | .op _ _ r => r.len + 1
  | .two _ p _ _ => p.len + 1
def okPlan (ops : Array Oper) (rds : List Nat) : Bool → Array Bool → Plan → Bool
  | _, listed, .nil => (Region.ready .any ops listed).isEmpty
  | has, listed, .op i k rest => (match ops[i]? with
    | some oi => (Region.ready .any ops listed).contains i &&
      (match k with
       | 0 => freeOf ops rds false listed i oi && okPlan ops rds has (listed.setIfInBounds i true) rest
       | 1 => (Region.ready .any ops listed == [i]) && okPlan ops rds (has && needs ops rds i) (listed.setIfInBounds i true) rest
       | _ => has && freeOf ops rds true listed i oi && okPlan ops rds has (listed.setIfInBounds i true) rest)
    | none => false)
  | has, listed, .two i pi j pj => (ops[i]?).isSome && (ops[j]?).isSome && (Region.ready .any ops listed == [i, j]) && (pi.len == pj.len) &&
      okPlan ops rds (has && needs ops rds i) (listed.setIfInBounds i true) pi && okPlan ops rds (has && needs ops rds j) (listed.setIfInBounds j true) pj
section
variable {P : Program} {ops : Array Oper} {Q : Exit → Go.Act → World → Prop} {S : World → Prop} {rds : List Nat}
def wpT (P : Program) (ops : Array Oper) (rds : List Nat) (Q : Exit → Go.Act → World → Prop) (S : World → Prop) : Plan → Go.Act → World → Prop
  | .nil, a, w => Q .normal a w
  | .op i k rest, a, w => match ops[i]? with
    | none => False
    | some oi => match k with
      | 0 => ∃ v, YieldsT P ops (fun _ => True) oi v a ∧ wpT P ops rds Q S rest (a.put oi.dst v) w
      | 1 => wpOp P ops Q i (fun a' w' => (needs ops rds i = true → S w → S w') ∧ wpT P ops rds Q S rest a' w') a w
      | _ => ∃ v, YieldsT P ops S oi v a ∧ wpT P ops rds Q S rest (a.put oi.dst v) w
  | .two i pi j pj, a, w => wpOp P ops Q i (fun a' w' => (needs ops rds i = true → S w → S w') ∧ wpT P ops rds Q S pi a' w') a w ∧
      wpOp P ops Q j (fun a' w' => (needs ops rds j = true → S w → S w') ∧ wpT P ops rds Q S pj a' w') a w
theorem wpN_of_T (hsel : ∀ (j : Nat) (o : Oper) cs b, ops[j]? = some o → o.op ≠ .select cs b) (hQ : ∀ c a d v w, Q (.panic c) (a.put d v) w → Q (.panic c) a w) :
    ∀ (l : Plan) (has : Bool) (listed : Array Bool) (a : Go.Act) (w : World), Closed ops listed → okPlan ops rds has listed l = true → (has = true → S w) →
      wpT P ops rds Q S l a w → wpAnyN P ops rds Q S l.len listed a w
  | .nil, has, listed, a, w, _, hok, _, h => ⟨by simpa [okPlan] using hok, h⟩
  | .two i pi j pj, has, listed, a, w, hcl, hok, hS, h => by
    simp only [okPlan, Bool.and_eq_true, beq_iff_eq] at hok
    obtain ⟨⟨⟨⟨⟨_, _⟩, hr⟩, hlen⟩, ho1⟩, ho2⟩ := hok
    have hri : i ∈ Region.ready .any ops listed := by rw [hr]; simp
    have hrj : j ∈ Region.ready .any ops listed := by rw [hr]; simp
    refine ⟨fun e => (by rw [e] at hr; cases hr), fun m hm => ?_⟩
    rw [hr] at hm
    rcases List.mem_cons.1 hm with hmi | hm
    · subst hmi
      refine wpOp_mono (fun a' w' h' => ⟨h'.1, wpN_of_T hsel hQ pi (has && needs ops rds m) _ a' w' (hcl.ready hri) ho1 (fun e => ?_) h'.2⟩) h.1
      simp only [Bool.and_eq_true] at e
      exact h'.1 e.2 (hS e.1)
    · have hmj : m = j := by simpa using hm
      subst hmj
      refine wpOp_mono (fun a' w' h' => ⟨h'.1, ?_⟩) h.2
      have := wpN_of_T hsel hQ pj (has && needs ops rds m) _ a' w' (hcl.ready hrj) ho2 (fun e => by
        simp only [Bool.and_eq_true] at e
        exact h'.1 e.2 (hS e.1)) h'.2
      rwa [← hlen] at this
  | .op i k rest, has, listed, a, w, hcl, hok, hS, h => by
    cases hi : ops[i]? with
    | none => simp [okPlan, hi] at hok
    | some oi =>
      simp only [okPlan, hi, Bool.and_eq_true, List.contains_iff_mem] at hok
      obtain ⟨hr, hok⟩ := hok
      simp only [wpT, hi] at h
      match k, hok, h with
      | 0, hok, h =>
        simp only [Bool.and_eq_true] at hok
        obtain ⟨v, hy, h⟩ := h
        refine wpAnyN_first (T := fun _ => True) (rd := false) hi hsel (fun c a w => hQ c a _ _ w) (fun e => by cases e) (fun e => by cases e) (fun _ _ => trivial) rest.len listed a w hcl (free_spec hok.1) hr trivial hy ?_
        exact wpN_of_T hsel hQ rest has _ _ w (hcl.ready hr) hok.2 hS h
      | 1, hok, h =>
        simp only [Bool.and_eq_true, beq_iff_eq] at hok
        refine ⟨fun e => (by rw [e] at hr; cases hr), fun j hj => ?_⟩
        rw [hok.1] at hj
        have hji : j = i := by simpa using hj
        subst hji
        refine wpOp_mono (fun a' w' h' => ⟨h'.1, wpN_of_T hsel hQ rest (has && needs ops rds j) _ a' w' (hcl.ready hr) hok.2 (fun e => ?_) h'.2⟩) h
        simp only [Bool.and_eq_true] at e
        exact h'.1 e.2 (hS e.1)
      | k + 2, hok, h =>
        simp only [Bool.and_eq_true] at hok
        obtain ⟨v, hy, h⟩ := h
        refine wpAnyN_first (T := S) (rd := true) hi hsel (fun c a w => hQ c a _ _ w) (fun _ _ h => h) (fun _ _ h => h) (fun e => by cases e) rest.len listed a w hcl (free_spec hok.1.2) hr (hS hok.1.1) hy ?_
        exact wpN_of_T hsel hQ rest has _ _ w (hcl.ready hr) hok.2 hS h
theorem wp_region_plan0 {id : Nat} {a : Go.Act} {w : World} (S : World → Prop) (rds : List Nat) (l : Plan) (hm : P.follows .mixedOrders = true) (hsel : Region.noSelect ops = true)
    (hlen : l.len = ops.size) (hok : okPlan ops rds true (Array.replicate ops.size false) l = true)
    (hS : S w.drew) (h : wpT P ops rds (onlyNormal Q) S l a w.drew) : (Code.region id ops true).wp P Q a w := by
  refine wp_mono (?_ : (Code.region id ops true).wp P (onlyNormal Q) a w) (fun e a w h => by cases e <;> first | exact h | exact False.elim h)
  refine wp_region_any hm (wpAny_of_N (rds := rds) (S := S) _ _ _ _ ?_)
  rw [← hlen]
  refine wpN_of_T (fun j o cs b => Region.noSelect_spec hsel j o cs b) (fun _ _ _ _ _ h => h) l true _ a _ ?_ (by rw [hlen]; exact hok) (fun _ => hS) h
  intro j o ho hj
  rcases Nat.lt_or_ge j l.len with h' | h'
  · simp [h'] at hj
  · have := (Array.getElem?_eq_some_iff.1 ho).1
    omega
section
variable {o : Oper} {i : Nat} {rest : Plan} {a : Go.Act} {w : World}
theorem stepTnil0 (h : Q .normal a w) : wpT P ops rds (onlyNormal Q) S .nil a w := h
theorem stepT0 (ho : ops[i]? = some o) (hw : Region.wanted o (yielded ops a.tmps) = true)
    (h : ∀ K : Go.Act → Prop, (∀ a, wpT P ops rds Q S rest a w → K a) → ∃ v, (∀ w1 : World, (execOp a.eval o).run P w1 = .ok (.value v) w1) ∧ K (a.put o.dst v)) : wpT P ops rds Q S (.op i 0 rest) a w := by
  obtain ⟨v, h1, h2⟩ := h _ (fun _ h => h)
  simp only [wpT, ho]
  exact ⟨v, .inl ⟨hw, fun w1 _ => h1 w1⟩, h2⟩
theorem stepT2 (ho : ops[i]? = some o) (hw : Region.wanted o (yielded ops a.tmps) = true) (v : Value) (h1 : ∀ w1 : World, S w1 → (execOp a.eval o).run P w1 = .ok (.value v) w1)
    (h : ∀ K : Go.Act → Prop, (∀ a, wpT P ops rds Q S rest a w → K a) → K (a.put o.dst v)) : wpT P ops rds Q S (.op i 2 rest) a w := by
  have h2 := h _ (fun _ h => h)
  simp only [wpT, ho]
  exact ⟨v, .inl ⟨hw, h1⟩, h2⟩
theorem stepT1 (ho : ops[i]? = some o) (hw : Region.wanted o (yielded ops a.tmps) = true) (hn : needs ops rds i = false)
    (h : ∀ K : Go.Act → World → Prop, (∀ a' w', wpT P ops rds Q S rest a' w' → K a' w') → o.wp P a w K Q) : wpT P ops rds Q S (.op i 1 rest) a w := by
  simp only [wpT, ho, wpOp, hw, if_true]
  exact .inl (h _ fun a' w' h => ⟨fun e => absurd e (by rw [hn]; simp), h⟩)
theorem stepT1S (ho : ops[i]? = some o) (hw : Region.wanted o (yielded ops a.tmps) = true)
    (h : ∀ K : Go.Act → World → Prop, (∀ a' w', S w' ∧ wpT P ops rds Q S rest a' w' → K a' w') → o.wp P a w K Q) : wpT P ops rds Q S (.op i 1 rest) a w := by
  simp only [wpT, ho, wpOp, hw, if_true]
  exact .inl (h _ fun a' w' h => ⟨fun _ _ => h.1, h.2⟩)
theorem stepTx0 (ho : ops[i]? = some o) (hw : Region.wanted o (yielded ops a.tmps) = false) (h : wpT P ops rds Q S rest (a.put o.dst undef) w) : wpT P ops rds Q S (.op i 0 rest) a w := by
  simp only [wpT, ho]
  exact ⟨undef, .inr ⟨hw, rfl⟩, h⟩
theorem stepTx2 (ho : ops[i]? = some o) (hw : Region.wanted o (yielded ops a.tmps) = false) (h : wpT P ops rds Q S rest (a.put o.dst undef) w) : wpT P ops rds Q S (.op i 2 rest) a w := by
  simp only [wpT, ho]
  exact ⟨undef, .inr ⟨hw, rfl⟩, h⟩
theorem stepTx1 (ho : ops[i]? = some o) (hw : Region.wanted o (yielded ops a.tmps) = false) (h : wpT P ops rds Q S rest (a.put o.dst undef) w) : wpT P ops rds Q S (.op i 1 rest) a w := by
  simp only [wpT, ho, wpOp, hw, Bool.false_eq_true, if_false]
  exact ⟨fun _ h => h, h⟩
theorem stepTnil (h : Q .normal a w) : wpT P ops rds Q S .nil a w := h
theorem stepTtwo {pi pj : Plan} {j : Nat} (h1 : wpT P ops rds Q S (.op i 1 pi) a w) (h2 : wpT P ops rds Q S (.op j 1 pj) a w) (hi : (ops[i]?).isSome = true) (hj : (ops[j]?).isSome = true) : wpT P ops rds Q S (.two i pi j pj) a w := by
  obtain ⟨oi, hi⟩ := Option.isSome_iff_exists.1 hi
  obtain ⟨oj, hj⟩ := Option.isSome_iff_exists.1 hj
  simp only [wpT, hi] at h1
  simp only [wpT, hj] at h2
  exact ⟨h1, h2⟩
end
end
end Go.Proofs.Ytigkcbnlbdiimaa

/- corncribref19.Do: a new volume. (Draft: not built.) -/
namespace Go.Proofs.Ytigkcbnlbdiimaa
open Go.RowKit
theorem heap_last {w : World} {k : Nat} (o : Obj) (hk : w.heap.size = k) : (w.alloc o).heap[k]? = some o := by
  subst hk
  exact heap_alloc_new w o
theorem heap_prev {w : World} {k : Nat} (o o2 : Obj) (hk : w.heap.size = k) : ((w.alloc o).alloc o2).heap[k]? = some o := by
  subst hk
  exact (Below.heap_alloc _ _ _ (by simp)).trans (heap_alloc_new w o)
set_option maxRecDepth 100000 in
set_option maxHeartbeats 4000000 in
theorem ref_new (base : Nat) (v : Value) (es : List Ent) (c : Cmd) (w : World) (h : w.ownsRow base 128 6 v es.length (es.flatMap Ent.row)) (hk : c.kind = 1) (ht : threeB c.n0 c.n1 c.n2 = true) (hl : es.length < 4096) (hbase : base ≤ w.heap.size) :
    Calls Try.prog 39 #[v, .agg #[.int .i64 c.kind, .int .i64 c.vol, .int .i64 c.epoch, .int .i64 c.spot, .int .i64 c.node, .int .i64 c.n0, .int .i64 c.n1, .int .i64 c.n2]] w
      (RefOut w base (es ++ [⟨(es.length : Int) + 1, 1, c.n0, c.n1, c.n2, false⟩]) ((es.length : Int) + 1) 0) := by
  obtain ⟨i0, hi, hz0, hz1, hz2⟩ := info_parts entry19_info
  have HI := Lib.hid hi
  have HZ0 := Lib.hid hz0
  have HZ1 := Lib.hid hz1
  have HZ2 := Lib.hid hz2
  clear hi hz0 hz1 hz2
  have H := Lib.hid h
  obtain ⟨a, cap, rfl⟩ := ownsRow_len h
  clear h
  obtain ⟨k, cv, ce, cs, cn, c0, c1, c2⟩ := c
  have hk' : k = 1 := hk
  subst hk'
  clear hk
  obtain ⟨ha, hb, hc, h1, h2, h3⟩ := three_yes ht
  clear ht
  simp only at ha hb hc h1 h2 h3
  have hl' : (es.length : Int) < 4096 := by omega
  have hsum : IntKind.i64.wrap ((es.length : Int) + 1) = (es.length : Int) + 1 := IntWalk.i64_in _ (by omega)
  go_enter Try.func39, Try.ntmps39
  go_wp2_with fail
  refine wp_region_now0 [2, 5, 8] [(0, 0), (1, 0), (2, 2), (3, 0), (4, 0), (5, 2), (6, 0), (7, 0), (8, 2), (9, 0), (10, 0), (11, 0)] (by kernel_rfl) (by kernel_rfl) rfl (by kernel_rfl) ?_
  refine stepE0 rfl rfl (fun K hK => ?_)
  go_simp
  refine hK _ ?_
  clear hK K
  refine stepE0 rfl rfl (fun K hK => ?_)
  go_simp
  refine hK _ ?_
  clear hK K
  refine stepE2 rfl rfl ?_ (fun w1 hS => ?_) (fun K hK => ?_)
  rotate_left
  focus (obtain rfl : w1 = _ := hS; go_simp; rfl)
  go_simp
  refine hK _ ?_
  clear hK K
  refine stepE0 rfl rfl (fun K hK => ?_)
  go_simp
  refine hK _ ?_
  clear hK K
  refine stepE0 rfl rfl (fun K hK => ?_)
  go_simp
  refine hK _ ?_
  clear hK K
  refine stepE2 rfl rfl ?_ (fun w1 hS => ?_) (fun K hK => ?_)
  rotate_left
  focus (obtain rfl : w1 = _ := hS; go_simp; rfl)
  go_simp
  refine hK _ ?_
  clear hK K
  refine stepE0 rfl rfl (fun K hK => ?_)
  go_simp
  refine hK _ ?_
  clear hK K
  refine stepE0 rfl rfl (fun K hK => ?_)
  go_simp
  refine hK _ ?_
  clear hK K
  refine stepE2 rfl rfl ?_ (fun w1 hS => ?_) (fun K hK => ?_)
  rotate_left
  focus (obtain rfl : w1 = _ := hS; go_simp; rfl)
  go_simp
  refine hK _ ?_
  clear hK K
  refine stepE0 rfl rfl (fun K hK => ?_)
  go_simp
  refine hK _ ?_
  clear hK K
  refine stepE0 rfl rfl (fun K hK => ?_)
  go_simp
  refine hK _ ?_
  clear hK K
  refine stepE0 rfl rfl (fun K hK => ?_)
  go_simp
  refine hK _ ?_
  clear hK K
  try refine stepEnil0 ?_
  go_wp2_with (go_at_call 69; refine (near_any _ _).mono ?_; rintro e w' ⟨rfl, rfl⟩; simp only [ha, hb, hc])
  obtain ⟨SS, HSD⟩ : ∃ SS : World → Prop, Hid (SS = fun w' => w'.cell? ⟨w.heap.size, 5, none⟩ = some (.int .i64 c0) ∧ w'.cell? ⟨w.heap.size, 6, none⟩ = some (.int .i64 c1) ∧ w'.cell? ⟨w.heap.size, 7, none⟩ = some (.int .i64 c2)) := ⟨_, Lib.hid rfl⟩
  refine wp_region_plan0 SS [7] (.op 1 0 (.op 3 0 (.op 4 0 (.op 5 0 (.op 6 0 (.op 7 2 (.op 8 0 (.op 11 0 (.op 12 0 (.op 13 0 (.two 0 (.two 2 (.op 9 1 (.op 10 1 (.op 14 0 (.op 15 0 (.op 16 0 .nil))))) 9 (.op 2 1 (.op 10 1 (.op 14 0 (.op 15 0 (.op 16 0 .nil)))))) 9 (.op 0 1 (.op 2 1 (.op 10 1 (.op 14 0 (.op 15 0 (.op 16 0 .nil))))))))))))))))) (by kernel_rfl) (by kernel_rfl) rfl (by kernel_rfl) ?_ ?_
  focus (rw [HSD.out]; refine ⟨?_, ?_, ?_⟩ <;> go_simp)
  refine stepT0 rfl rfl (fun K hK => ?_)
  go_simp
  refine hK _ ?_
  clear hK K
  refine stepT0 rfl rfl (fun K hK => ?_)
  go_simp
  refine hK _ ?_
  clear hK K
  refine stepT0 rfl rfl (fun K hK => ?_)
  go_simp
  refine hK _ ?_
  clear hK K
  refine stepT0 rfl rfl (fun K hK => ?_)
  go_simp
  refine hK _ ?_
  clear hK K
  refine stepT0 rfl rfl (fun K hK => ?_)
  go_simp
  refine hK _ ?_
  clear hK K
  refine stepT2 rfl rfl ?_ (fun w1 hS => ?_) (fun K hK => ?_)
  rotate_left
  focus (rw [HSD.out] at hS; obtain ⟨s0, s1, s2⟩ := hS; go_simp; rfl)
  go_simp
  refine hK _ ?_
  clear hK K
  refine stepT0 rfl rfl (fun K hK => ?_)
  go_simp
  refine hK _ ?_
  clear hK K
  refine stepT0 rfl rfl (fun K hK => ?_)
  go_simp
  refine hK _ ?_
  clear hK K
  refine stepT0 rfl rfl (fun K hK => ?_)
  go_simp
  refine hK _ ?_
  clear hK K
  refine stepT0 rfl rfl (fun K hK => ?_)
  go_simp
  refine hK _ ?_
  clear hK K
  refine stepTtwo ?_ ?_ (by kernel_rfl) (by kernel_rfl)
  ·
    refine stepT1S rfl rfl (fun K hK => ?_)
    go_wp2
    refine ⟨by rw [HSD.out]; exact (by refine ⟨?_, ?_, ?_⟩ <;> go_simp), ?_⟩
    refine stepTtwo ?_ ?_ (by kernel_rfl) (by kernel_rfl)
    ·
      refine stepT1S rfl rfl (fun K hK => ?_)
      (refine wp_append_reads _ _ _ 72 rfl w.heap.size 128 i0 (.agg #[.int .i64 0, .int .i64 0, .int .i64 0, .int .i64 0, .int .i64 0, .bool false]) 6 48 Try.underlying72 HI.out HZ0.out HZ1.out HZ2.out rfl (by decide) (.slice (some ⟨w.heap.size + 1, 0, none⟩) 0 0) 0 [] rfl (lit_at (by simp) (by omega)) (.slice a es.length cap) es.length (es.flatMap Ent.row) rfl (reads_of_owns (ownsRow_below H.out (by repeat (first | (with_reducible exact Below.refl _ _) | (with_reducible refine Below.setCell ?_ ?_ _) | (with_reducible refine Below.alloc ?_ ?_ _) | (with_reducible refine Below.drewN ?_ _) | (with_reducible refine Below.drew ?_) | (with_reducible exact Nat.le_refl _) | (focus (simp only [World.size_alloc, World.size_setCell, World.size_drew, World.size_drewN]; omega)) | omega | exact Nat.le_refl _ | (focus (simp; done)) | (focus (simp; omega)))))) (Ent.one es) (by unfold maxLen; omega) (by omega) (by first | (simp; done) | (simp; omega)) ?_; intro v1 w1 hown1 hgrow1 hat1; have kc := fun (o : Nat) => grown_cell (b := w.heap.size) (o := o) hgrow1 (by first | (simp; done) | (simp; omega)) (by simp [Value.ownBlock]); have hz1 := hgrow1.size; simp only [World.size_alloc, World.size_drew] at hz1;  have HO1 := Lib.hid hown1; have HG1 := Lib.hid hgrow1; have HA1 := Lib.hid hat1; clear hown1 hgrow1 hat1; go_wp2)
      refine ⟨by rw [HSD.out]; exact (by refine ⟨(kc 5).trans ?_, (kc 6).trans ?_, (kc 7).trans ?_⟩ <;> go_simp), ?_⟩
      refine stepT1 rfl rfl (by kernel_rfl) (fun K hK => ?_)
      go_wp2
      refine stepT1 rfl rfl (by kernel_rfl) (fun K hK => ?_)
      (refine wp_append_lies _ _ _ 72 rfl w.heap.size 128 i0 (.agg #[.int .i64 0, .int .i64 0, .int .i64 0, .int .i64 0, .int .i64 0, .bool false]) 6 48 Try.underlying72 HI.out HZ0.out HZ1.out HZ2.out rfl (by decide) v1 (0 + es.length) ([] ++ es.flatMap Ent.row) rfl (HO1.out.alloc _) ⟨w1.heap.size, 0, none⟩ 1 1 [.int .i64 ((es.length : Int) + 1), .int .i64 1, .int .i64 c0, .int .i64 c1, .int .i64 c2, .bool false] rfl rfl (World.news_of_block (cs := #[.int .i64 ((es.length : Int) + 1), .int .i64 1, .int .i64 c0, .int .i64 c1, .int .i64 c2, .bool false]) (t := 128) (fr := (0, 0)) (heap_alloc_new w1 _)) (by simp [Value.oneCell']) (by omega) (by unfold maxLen; omega) (by omega) (by first | omega | (simp; done) | (simp; omega)) _ rfl ?_; intro gg cap2 w2 hown2 hgrow2 hat2 hlt2; go_wp2)
      refine stepT0 rfl rfl (fun K hK => ?_)
      go_simp
      refine hK _ ?_
      clear hK K
      refine stepT0 rfl rfl (fun K hK => ?_)
      go_simp
      refine hK _ ?_
      clear hK K
      refine stepT0 rfl rfl (fun K hK => ?_)
      go_simp
      refine hK _ ?_
      clear hK K
      try refine stepTnil0 ?_
      clear HSD SS
      (have hrow : ∀ k, v1.ownBlock = some k → w.heap.size ≤ k := (fun k hk => (HO1.out.lt k hk).1); go_wp2; go_ret3; refine ⟨_, rfl, (by simpa [Ent.row] using ownsRow_mono hown2 hbase), ?_⟩; refine Below.grown ?_ hgrow2 (by first | omega | (simp; done) | (simp; omega)) hrow; first | exact Below.grown (by repeat (first | (with_reducible exact Below.refl _ _) | (with_reducible refine Below.setCell ?_ ?_ _) | (with_reducible refine Below.alloc ?_ ?_ _) | (with_reducible refine Below.drewN ?_ _) | (with_reducible refine Below.drew ?_) | (with_reducible exact Nat.le_refl _) | (focus (simp only [World.size_alloc, World.size_setCell, World.size_drew, World.size_drewN]; omega)) | omega | exact Nat.le_refl _ | (focus (simp; done)) | (focus (simp; omega)))) HG1.out (by first | omega | (simp; done) | (simp; omega)) (by simp [Value.ownBlock]) | exact (Below.grown (by repeat (first | (with_reducible exact Below.refl _ _) | (with_reducible refine Below.setCell ?_ ?_ _) | (with_reducible refine Below.alloc ?_ ?_ _) | (with_reducible refine Below.drewN ?_ _) | (with_reducible refine Below.drew ?_) | (with_reducible exact Nat.le_refl _) | (focus (simp only [World.size_alloc, World.size_setCell, World.size_drew, World.size_drewN]; omega)) | omega | exact Nat.le_refl _ | (focus (simp; done)) | (focus (simp; omega)))) HG1.out (by first | omega | (simp; done) | (simp; omega)) (by simp [Value.ownBlock])).alloc (by omega) _)
    ·
      refine stepT1 rfl rfl (by kernel_rfl) (fun K hK => ?_)
      go_wp2
      refine stepT1S rfl rfl (fun K hK => ?_)
      (refine wp_append_reads _ _ _ 72 rfl w.heap.size 128 i0 (.agg #[.int .i64 0, .int .i64 0, .int .i64 0, .int .i64 0, .int .i64 0, .bool false]) 6 48 Try.underlying72 HI.out HZ0.out HZ1.out HZ2.out rfl (by decide) (.slice (some ⟨w.heap.size + 1, 0, none⟩) 0 0) 0 [] rfl (((lit_at (w := w.alloc (.cells #[.int .i64 1, .int .i64 cv, .int .i64 ce, .int .i64 cs, .int .i64 cn, .int .i64 c0, .int .i64 c1, .int .i64 c2] 35)) (k := w.heap.size + 1) (by simp) (by omega)).alloc (.cells #[.int .i64 ((es.length : Int) + 1), .int .i64 1, .int .i64 c0, .int .i64 c1, .int .i64 c2, .bool false] 128))) (.slice a es.length cap) es.length (es.flatMap Ent.row) rfl (reads_of_owns (ownsRow_below H.out (by repeat (first | (with_reducible exact Below.refl _ _) | (with_reducible refine Below.setCell ?_ ?_ _) | (with_reducible refine Below.alloc ?_ ?_ _) | (with_reducible refine Below.drewN ?_ _) | (with_reducible refine Below.drew ?_) | (with_reducible exact Nat.le_refl _) | (focus (simp only [World.size_alloc, World.size_setCell, World.size_drew, World.size_drewN]; omega)) | omega | exact Nat.le_refl _ | (focus (simp; done)) | (focus (simp; omega)))))) (Ent.one es) (by unfold maxLen; omega) (by omega) (by first | (simp; done) | (simp; omega)) ?_; intro v1 w1 hown1 hgrow1 hat1; have kc := fun (o : Nat) => grown_cell (b := w.heap.size) (o := o) hgrow1 (by first | (simp; done) | (simp; omega)) (by simp [Value.ownBlock]); have hz1 := hgrow1.size; simp only [World.size_alloc, World.size_drew] at hz1; have HB1 := Lib.hid (hgrow1.block (w.heap.size + 2) (by first | (simp; done) | (simp; omega)) (by simp [Value.ownBlock])); have HO1 := Lib.hid hown1; have HG1 := Lib.hid hgrow1; have HA1 := Lib.hid hat1; clear hown1 hgrow1 hat1; go_wp2)
      refine ⟨by rw [HSD.out]; exact (by refine ⟨(kc 5).trans ?_, (kc 6).trans ?_, (kc 7).trans ?_⟩ <;> go_simp), ?_⟩
      refine stepT1 rfl rfl (by kernel_rfl) (fun K hK => ?_)
      (refine wp_append_lies _ _ _ 72 rfl w.heap.size 128 i0 (.agg #[.int .i64 0, .int .i64 0, .int .i64 0, .int .i64 0, .int .i64 0, .bool false]) 6 48 Try.underlying72 HI.out HZ0.out HZ1.out HZ2.out rfl (by decide) v1 (0 + es.length) ([] ++ es.flatMap Ent.row) rfl (HO1.out) ⟨w.heap.size + 2, 0, none⟩ 1 1 [.int .i64 ((es.length : Int) + 1), .int .i64 1, .int .i64 c0, .int .i64 c1, .int .i64 c2, .bool false] rfl rfl (World.news_of_block (cs := #[.int .i64 ((es.length : Int) + 1), .int .i64 1, .int .i64 c0, .int .i64 c1, .int .i64 c2, .bool false]) (t := 128) (fr := (0, 0)) (HB1.out.trans (heap_last (w := (w.alloc (.cells #[.int .i64 1, .int .i64 cv, .int .i64 ce, .int .i64 cs, .int .i64 cn, .int .i64 c0, .int .i64 c1, .int .i64 c2] 35)).alloc (.cells #[] 128)) (.cells #[.int .i64 ((es.length : Int) + 1), .int .i64 1, .int .i64 c0, .int .i64 c1, .int .i64 c2, .bool false] 128) (by simp)))) (by simp [Value.oneCell']) (by omega) (by unfold maxLen; omega) (by omega) (by first | omega | (simp; done) | (simp; omega)) _ rfl ?_; intro gg cap2 w2 hown2 hgrow2 hat2 hlt2; go_wp2)
      refine stepT0 rfl rfl (fun K hK => ?_)
      go_simp
      refine hK _ ?_
      clear hK K
      refine stepT0 rfl rfl (fun K hK => ?_)
      go_simp
      refine hK _ ?_
      clear hK K
      refine stepT0 rfl rfl (fun K hK => ?_)
      go_simp
      refine hK _ ?_
      clear hK K
      try refine stepTnil0 ?_
      clear HSD SS
      (have hrow : ∀ k, v1.ownBlock = some k → w.heap.size ≤ k := (fun k hk => (HO1.out.lt k hk).1); go_wp2; go_ret3; refine ⟨_, rfl, (by simpa [Ent.row] using ownsRow_mono hown2 hbase), ?_⟩; refine Below.grown ?_ hgrow2 (by first | omega | (simp; done) | (simp; omega)) hrow; first | exact Below.grown (by repeat (first | (with_reducible exact Below.refl _ _) | (with_reducible refine Below.setCell ?_ ?_ _) | (with_reducible refine Below.alloc ?_ ?_ _) | (with_reducible refine Below.drewN ?_ _) | (with_reducible refine Below.drew ?_) | (with_reducible exact Nat.le_refl _) | (focus (simp only [World.size_alloc, World.size_setCell, World.size_drew, World.size_drewN]; omega)) | omega | exact Nat.le_refl _ | (focus (simp; done)) | (focus (simp; omega)))) HG1.out (by first | omega | (simp; done) | (simp; omega)) (by simp [Value.ownBlock]) | exact (Below.grown (by repeat (first | (with_reducible exact Below.refl _ _) | (with_reducible refine Below.setCell ?_ ?_ _) | (with_reducible refine Below.alloc ?_ ?_ _) | (with_reducible refine Below.drewN ?_ _) | (with_reducible refine Below.drew ?_) | (with_reducible exact Nat.le_refl _) | (focus (simp only [World.size_alloc, World.size_setCell, World.size_drew, World.size_drewN]; omega)) | omega | exact Nat.le_refl _ | (focus (simp; done)) | (focus (simp; omega)))) HG1.out (by first | omega | (simp; done) | (simp; omega)) (by simp [Value.ownBlock])).alloc (by omega) _)
  ·
    refine stepT1 rfl rfl (by kernel_rfl) (fun K hK => ?_)
    go_wp2
    refine stepT1S rfl rfl (fun K hK => ?_)
    go_wp2
    refine ⟨by rw [HSD.out]; exact (by refine ⟨?_, ?_, ?_⟩ <;> go_simp), ?_⟩
    refine stepT1S rfl rfl (fun K hK => ?_)
    (refine wp_append_reads _ _ _ 72 rfl w.heap.size 128 i0 (.agg #[.int .i64 0, .int .i64 0, .int .i64 0, .int .i64 0, .int .i64 0, .bool false]) 6 48 Try.underlying72 HI.out HZ0.out HZ1.out HZ2.out rfl (by decide) (.slice (some ⟨w.heap.size + 2, 0, none⟩) 0 0) 0 [] rfl (lit_at (by simp) (by omega)) (.slice a es.length cap) es.length (es.flatMap Ent.row) rfl (reads_of_owns (ownsRow_below H.out (by repeat (first | (with_reducible exact Below.refl _ _) | (with_reducible refine Below.setCell ?_ ?_ _) | (with_reducible refine Below.alloc ?_ ?_ _) | (with_reducible refine Below.drewN ?_ _) | (with_reducible refine Below.drew ?_) | (with_reducible exact Nat.le_refl _) | (focus (simp only [World.size_alloc, World.size_setCell, World.size_drew, World.size_drewN]; omega)) | omega | exact Nat.le_refl _ | (focus (simp; done)) | (focus (simp; omega)))))) (Ent.one es) (by unfold maxLen; omega) (by omega) (by first | (simp; done) | (simp; omega)) ?_; intro v1 w1 hown1 hgrow1 hat1; have kc := fun (o : Nat) => grown_cell (b := w.heap.size) (o := o) hgrow1 (by first | (simp; done) | (simp; omega)) (by simp [Value.ownBlock]); have hz1 := hgrow1.size; simp only [World.size_alloc, World.size_drew] at hz1; have HB1 := Lib.hid (hgrow1.block (w.heap.size + 1) (by first | (simp; done) | (simp; omega)) (by simp [Value.ownBlock])); have HO1 := Lib.hid hown1; have HG1 := Lib.hid hgrow1; have HA1 := Lib.hid hat1; clear hown1 hgrow1 hat1; go_wp2)
    refine ⟨by rw [HSD.out]; exact (by refine ⟨(kc 5).trans ?_, (kc 6).trans ?_, (kc 7).trans ?_⟩ <;> go_simp), ?_⟩
    refine stepT1 rfl rfl (by kernel_rfl) (fun K hK => ?_)
    (refine wp_append_lies _ _ _ 72 rfl w.heap.size 128 i0 (.agg #[.int .i64 0, .int .i64 0, .int .i64 0, .int .i64 0, .int .i64 0, .bool false]) 6 48 Try.underlying72 HI.out HZ0.out HZ1.out HZ2.out rfl (by decide) v1 (0 + es.length) ([] ++ es.flatMap Ent.row) rfl (HO1.out) ⟨w.heap.size + 1, 0, none⟩ 1 1 [.int .i64 ((es.length : Int) + 1), .int .i64 1, .int .i64 c0, .int .i64 c1, .int .i64 c2, .bool false] rfl rfl (World.news_of_block (cs := #[.int .i64 ((es.length : Int) + 1), .int .i64 1, .int .i64 c0, .int .i64 c1, .int .i64 c2, .bool false]) (t := 128) (fr := (0, 0)) (HB1.out.trans (heap_prev (w := w.alloc (.cells #[.int .i64 1, .int .i64 cv, .int .i64 ce, .int .i64 cs, .int .i64 cn, .int .i64 c0, .int .i64 c1, .int .i64 c2] 35)) (.cells #[.int .i64 ((es.length : Int) + 1), .int .i64 1, .int .i64 c0, .int .i64 c1, .int .i64 c2, .bool false] 128) (.cells #[] 128) (by simp)))) (by simp [Value.oneCell']) (by omega) (by unfold maxLen; omega) (by omega) (by first | omega | (simp; done) | (simp; omega)) _ rfl ?_; intro gg cap2 w2 hown2 hgrow2 hat2 hlt2; go_wp2)
    refine stepT0 rfl rfl (fun K hK => ?_)
    go_simp
    refine hK _ ?_
    clear hK K
    refine stepT0 rfl rfl (fun K hK => ?_)
    go_simp
    refine hK _ ?_
    clear hK K
    refine stepT0 rfl rfl (fun K hK => ?_)
    go_simp
    refine hK _ ?_
    clear hK K
    try refine stepTnil0 ?_
    clear HSD SS
    (have hrow : ∀ k, v1.ownBlock = some k → w.heap.size ≤ k := (fun k hk => (HO1.out.lt k hk).1); go_wp2; go_ret3; refine ⟨_, rfl, (by simpa [Ent.row] using ownsRow_mono hown2 hbase), ?_⟩; refine Below.grown ?_ hgrow2 (by first | omega | (simp; done) | (simp; omega)) hrow; first | exact Below.grown (by repeat (first | (with_reducible exact Below.refl _ _) | (with_reducible refine Below.setCell ?_ ?_ _) | (with_reducible refine Below.alloc ?_ ?_ _) | (with_reducible refine Below.drewN ?_ _) | (with_reducible refine Below.drew ?_) | (with_reducible exact Nat.le_refl _) | (focus (simp only [World.size_alloc, World.size_setCell, World.size_drew, World.size_drewN]; omega)) | omega | exact Nat.le_refl _ | (focus (simp; done)) | (focus (simp; omega)))) HG1.out (by first | omega | (simp; done) | (simp; omega)) (by simp [Value.ownBlock]) | exact (Below.grown (by repeat (first | (with_reducible exact Below.refl _ _) | (with_reducible refine Below.setCell ?_ ?_ _) | (with_reducible refine Below.alloc ?_ ?_ _) | (with_reducible refine Below.drewN ?_ _) | (with_reducible refine Below.drew ?_) | (with_reducible exact Nat.le_refl _) | (focus (simp only [World.size_alloc, World.size_setCell, World.size_drew, World.size_drewN]; omega)) | omega | exact Nat.le_refl _ | (focus (simp; done)) | (focus (simp; omega)))) HG1.out (by first | omega | (simp; done) | (simp; omega)) (by simp [Value.ownBlock])).alloc (by omega) _)
end Go.Proofs.Ytigkcbnlbdiimaa

/- corncribref19.Do whole. -/
namespace Go.Proofs.Ytigkcbnlbdiimaa
open Go.RowKit
theorem ref_do_any (base : Nat) (v : Value) (es : List Ent) (c : Cmd) (w : World) (h : w.ownsRow base 128 6 v es.length (es.flatMap Ent.row)) (hl : es.length ≤ 4096) (hbase : base ≤ w.heap.size) :
    Calls Try.prog 39 #[v, .agg #[.int .i64 c.kind, .int .i64 c.vol, .int .i64 c.epoch, .int .i64 c.spot, .int .i64 c.node, .int .i64 c.n0, .int .i64 c.n1, .int .i64 c.n2]] w
      (RefOut w base (doEs es c) (doN es c) (doK es c)) := by
  by_cases h1 : c.kind = 1
  · cases h2 : threeB c.n0 c.n1 c.n2
    · have e1 : doEs es c = es := by simp [doEs, h1, h2]
      have e2 : doN es c = 0 := by simp [doN, h1, h2]
      have e3 : (doK es c : Int) = 1 := by simp [doK, h1, h2]
      rw [e1, e2, e3]
      exact ref_arg base v es c w h h1 h2
    · by_cases h3 : es.length < 4096
      · have e1 : doEs es c = es ++ [⟨(es.length : Int) + 1, 1, c.n0, c.n1, c.n2, false⟩] := by simp [doEs, h1, h2, h3]
        have e2 : doN es c = (es.length : Int) + 1 := by simp [doN, h1, h2, h3]
        have e3 : (doK es c : Int) = 0 := by simp [doK, h1, h2, h3]
        rw [e1, e2, e3]
        exact ref_new base v es c w h h1 h2 h3 hbase
      · have e1 : doEs es c = es := by simp [doEs, h1, h2, h3]
        have e2 : doN es c = 0 := by simp [doN, h1, h2, h3]
        have e3 : (doK es c : Int) = 11 := by simp [doK, h1, h2, h3]
        rw [e1, e2, e3]
        exact ref_full base v es c w h h1 h2 (by omega)
  · by_cases hk : c.kind = 2 ∨ c.kind = 3 ∨ c.kind = 4
    · by_cases hv : 1 ≤ c.vol ∧ c.vol ≤ es.length
      · obtain ⟨j, hj⟩ : ∃ j : Nat, c.vol = (j : Int) + 1 := ⟨(c.vol - 1).toNat, by omega⟩
        have hjl : j < es.length := by omega
        have hx : es[j]? = some es[j] := List.getElem?_eq_getElem hjl
        have hvj : (c.vol - 1).toNat = j := by omega
        generalize es[j] = x at hx
        by_cases he : x.epoch = c.epoch
        · by_cases ht : turnE x c = 0
          · have e1 : doEs es c = es.set j (turnX x c) := by rw [doEs, if_neg h1, if_pos hk, if_pos hv, hvj, hx]; exact if_pos ⟨he, ht⟩
            have e2 : doN es c = (turnX x c).epoch := by rw [doN, if_neg h1, if_pos hk, if_pos hv, hvj, hx]; exact if_pos ⟨he, ht⟩
            have e3 : (doK es c : Int) = 0 := by rw [doK, if_neg h1, if_pos hk, if_pos hv, hvj, hx]; show ((if x.epoch = c.epoch then turnE x c else 13 : Nat) : Int) = 0; rw [if_pos he, ht]; rfl
            rw [e1, e2, e3]
            exact ref_turn base v es c j x w h (by omega) (by omega) hj hx he ht (by omega)
          · have e1 : doEs es c = es := by rw [doEs, if_neg h1, if_pos hk, if_pos hv, hvj, hx]; exact if_neg (fun e => ht e.2)
            have e2 : doN es c = 0 := by rw [doN, if_neg h1, if_pos hk, if_pos hv, hvj, hx]; exact if_neg (fun e => ht e.2)
            have e3 : (doK es c : Int) = (turnE x c : Int) := by rw [doK, if_neg h1, if_pos hk, if_pos hv, hvj, hx]; show ((if x.epoch = c.epoch then turnE x c else 13 : Nat) : Int) = _; rw [if_pos he]
            rw [e1, e2, e3]
            exact ref_err base v es c j x w h (by omega) (by omega) hj hx he ht
        · have e1 : doEs es c = es := by rw [doEs, if_neg h1, if_pos hk, if_pos hv, hvj, hx]; exact if_neg (fun e => he e.1)
          have e2 : doN es c = 0 := by rw [doN, if_neg h1, if_pos hk, if_pos hv, hvj, hx]; exact if_neg (fun e => he e.1)
          have e3 : (doK es c : Int) = 13 := by rw [doK, if_neg h1, if_pos hk, if_pos hv, hvj, hx]; show ((if x.epoch = c.epoch then turnE x c else 13 : Nat) : Int) = _; rw [if_neg he]; rfl
          rw [e1, e2, e3]
          exact ref_stale base v es c j x w h (by omega) (by omega) hj hx he
      · have e1 : doEs es c = es := by rw [doEs, if_neg h1, if_pos hk, if_neg hv]
        have e2 : doN es c = 0 := by rw [doN, if_neg h1, if_pos hk, if_neg hv]
        have e3 : (doK es c : Int) = 6 := by rw [doK, if_neg h1, if_pos hk, if_neg hv]; rfl
        rw [e1, e2, e3]
        exact ref_none base v es c w h (by omega) (by omega) (by omega)
    · have e1 : doEs es c = es := by rw [doEs, if_neg h1, if_neg hk]
      have e2 : doN es c = 0 := by rw [doN, if_neg h1, if_neg hk]
      have e3 : (doK es c : Int) = 1 := by rw [doK, if_neg h1, if_neg hk]; rfl
      rw [e1, e2, e3]
      exact ref_wild base v es c w h (by omega)
end Go.Proofs.Ytigkcbnlbdiimaa

/- corncribref01.Bytes. -/
namespace Go.Proofs.Ytigkcbnlbdiimaa
open Go.RowKit
/-- The first k of the bytes of a number, the others 0. -/
def someBytes (n k size : Nat) : List UInt8 := (List.range size).map fun j => if j < k then nthByte n j else 0
theorem someBytes_all (n size : Nat) : someBytes n size size = (List.range size).map (nthByte n) := by
  unfold someBytes
  apply List.map_congr_left
  intro j hj
  rw [if_pos (List.mem_range.1 hj)]
theorem someBytes_set (n k size : Nat) (hk : k < size) : ((someBytes n k size).map bv).set k (bv (nthByte n k)) = (someBytes n (k + 1) size).map bv := by
  apply List.ext_getElem?
  intro j
  by_cases hj : j = k
  · subst hj
    simp [someBytes, hk]
  · rw [List.getElem?_set_ne (by omega)]
    by_cases hl : j < size
    · have e : (j < k + 1) = (j < k) := by simp; omega
      simp [someBytes, hl, e]
    · simp [someBytes, hl]
theorem nth_div (n k : Nat) : (nthByte n k).toNat = n / 256 ^ k % 256 := by
  unfold nthByte
  rw [UInt8.toNat_ofNat']
set_option maxRecDepth 100000 in
set_option maxHeartbeats 2000000 in
theorem bytes01_any (n : Nat) (s : Int) (size : Nat) (w : World) (hn : n < 18446744073709551616) (hs : s = (size : Int)) (hsz : size ≤ 1000) :
    Calls Try.prog 70 #[.int .u64 n, .int .i64 s] w
      fun e w' => e = .returned (.tuple #[.slice (some ⟨w.heap.size, 0, none⟩) size size, .bool (((n / 256 ^ size : Nat) : Int) == 0)]) ∧ w'.ownsRow w.heap.size 5 1 (.slice (some ⟨w.heap.size, 0, none⟩) size size) size (((List.range size).map (nthByte n)).map bv) ∧ Below w.heap.size w w' := by
  subst hs
  obtain ⟨i0, hi, hz0, hz1, hz2⟩ := info_parts byte_info
  have HI := Lib.hid hi
  have HZ0 := Lib.hid hz0
  have HZ1 := Lib.hid hz1
  have HZ2 := Lib.hid hz2
  clear hi hz0 hz1 hz2
  go_enter Try.func70, Try.ntmps70
  go_wp2_with (refine wpList_make_full _ rfl _ _ 44 rfl w.heap.size 5 i0 (.int .u8 0) 1 Try.underlying44 HI.out HZ0.out HZ1.out .i64 .i64 _ _ size rfl rfl rfl rfl (by rw [HZ2.out]; omega) (by unfold maxLen; omega) (Nat.le_refl _) ?_; intro w1 hown hgrow; have HO := Lib.hid hown; have HG := Lib.hid hgrow; clear hown hgrow)
  go_loopw [0, 7] (fun x i wr => ∃ k : Nat, k ≤ size ∧ i = .int .i64 k ∧ x = .int .u64 ((n / 256 ^ k : Nat) : Int) ∧ wr.ownsRow w.heap.size 5 1 (.slice (some ⟨w.heap.size, 0, none⟩) size size) size ((someBytes n k size).map bv) ∧ Below w.heap.size w wr) (fun _ i _ => size - (intOf i).toNat)
  case atStart =>
    refine ⟨0, Nat.zero_le _, rfl, by simp, ownsRow_cast HO.out rfl ?_, Below.grown (Below.refl _ _) HG.out (Nat.le_refl _) (fun _ h => by cases h)⟩
    show (madeCells #[.int .u8 0] (size * 1)).toList = _
    rw [toList_madeCells_one]
    apply List.ext_getElem
    · simp [someBytes]
    · intro i h1 h2
      simp [someBytes, bv]
  case round =>
    obtain ⟨k, hk, rfl, rfl, hown, hb⟩ := hrel
    have HO' := Lib.hid hown
    have HB := Lib.hid hb
    have kf := hown.frozenAt k
    have hzb := hb.size
    clear HO
    have hq : n / 256 ^ k < 18446744073709551616 := Nat.lt_of_le_of_lt (Nat.div_le_self _ _) hn
    have HNX := Lib.hid (show n / 256 ^ k / 256 = n / 256 ^ (k + 1) by rw [Nat.div_div_eq_div_mul, Nat.pow_succ])
    have HNB := Lib.hid (nth_div n k)
    by_cases hlt : k < size
    · have kc := hown.cellAt k (by omega)
      rw [List.getElem?_eq_getElem (by simp [someBytes]; omega)] at kc
      generalize ((someBytes n k size).map bv)[k]'_ = old at kc
      clear hown hb
      generalize n / 256 ^ k = q at *
      go_wp2
      refine ⟨⟨k + 1, by omega, by go_num, by rw [← HNX.out]; simp, ?_, HB.out.setCell (Nat.le_refl _) _⟩, by simp [intOf]; omega⟩
      have h := (HO'.out.stored k (bv (nthByte n k))).1
      rw [someBytes_set n k size hlt] at h
      have e : bv (nthByte n k) = .int .u8 ((q : Int) % 256) := by unfold bv; rw [HNB.out]; simp
      rw [e] at h
      exact h
    · clear hown hb
      have hks : k = size := by omega
      subst hks
      generalize hq0 : n / 256 ^ k = q at *
      have HQ := Lib.hid hq0
      clear hq0
      go_wp2
      go_ret2
      exact ⟨by rw [HQ.out]; rfl, by rw [← someBytes_all]; exact HO'.out, HB.out⟩
end Go.Proofs.Ytigkcbnlbdiimaa

/- corncribref19.Bytes. -/
namespace Go.Proofs.Ytigkcbnlbdiimaa
open Go.RowKit
set_option maxRecDepth 100000 in
set_option maxHeartbeats 4000000 in
theorem ref_bytes (base : Nat) (v : Value) (es : List Ent) (E : Int) (w : World) (h : w.ownsRow base 128 6 v es.length (es.flatMap Ent.row)) (hfew : es.length ≤ 4096) (hg : Good E es) (hE : E ≤ 1000000) :
    Calls Try.prog 40 #[v] w
      fun e w' => ∃ v', e = .returned v' ∧ w'.ownsRow w.heap.size 5 1 v' (mapBytes es).length ((mapBytes es).map bv) ∧ Below w.heap.size w w' := by
  have H := Lib.hid h
  have HGO := Lib.hid hg
  obtain ⟨a0, cap0, rfl⟩ := ownsRow_len h
  clear h hg
  obtain ⟨i0, hi, hz0, hz1, hz2⟩ := info_parts byte_info
  have HI := Lib.hid hi
  have HZ0 := Lib.hid hz0
  have HZ1 := Lib.hid hz1
  have HZ2 := Lib.hid hz2
  clear hi hz0 hz1 hz2
  go_enter Try.func40, Try.ntmps40
  go_wp2_with fail
  go_loopw [3, 4, 5, 6, 7] (fun l i _ _ _ wr => ∃ k : Nat, k ≤ es.length ∧ i = .int .i64 k ∧ wr.ownsRow w.heap.size 5 1 l (mapBytes (es.take k)).length ((mapBytes (es.take k)).map bv) ∧ Below w.heap.size w wr) (fun _ i _ _ _ _ => es.length - (intOf i).toNat)
  case atStart => exact ⟨0, Nat.zero_le _, rfl, World.ownsRow_nil _ _ _ _, Below.refl _ _⟩
  case round =>
    obtain ⟨k, hk, rfl, hown, hbw⟩ := hrel
    have HBW := Lib.hid hbw
    have hzr := hbw.size
    by_cases hlt : k < es.length
    · obtain ⟨x, hx⟩ : ∃ x, es[k]? = some x := ⟨_, List.getElem?_eq_getElem hlt⟩
      have HXX := Lib.hid hx
      obtain ⟨g3, cc3, e3, hg3, _, _, x0, x1, x2, x3, x4, x5⟩ := row_ent19 (ownsRow_below H.out hbw) k x hx
      obtain ⟨e3', -, e3''⟩ := slice_inj e3
      subst e3' e3''
      have hgw : g3 < w.heap.size := (H.out.lt g3 rfl).2
      obtain ⟨-, he1, he2⟩ := HGO.out k x hx
      have HX := Lib.hid (mapBytes_snoc es k x hx)
      have hnl : (mapBytes (es.take k)).length ≤ 40000 := by rw [mapBytes_len]; simp; omega
      have HR := Lib.hid hown
      clear hown hbw e3 hx
      generalize mapBytes (es.take k) = acc at *
      obtain ⟨xv, xe, xa, xb, xc, xs⟩ := x
      obtain ⟨ep, rfl⟩ : ∃ ep : Nat, xe = (ep : Int) := ⟨xe.toNat, by have h : 1 ≤ xe := he1; omega⟩
      have hep : (ep : Int) ≤ 1000000 := by have h : (ep : Int) ≤ E := he2; omega
      have hep' : ep ≤ 1000000 := by omega
      clear he1 he2
      have hk0 : (0 : Int) ≤ (k : Int) := by omega
      have hk1 : (k : Int) < (es.length : Int) := by omega
      go_wp2_with fail
      refine (bytes01_any ep 4 4 _ (by omega) rfl (by omega)).mono ?_
      rintro e w4 ⟨rfl, ho4, hb4⟩
      have HO4 := Lib.hid ho4
      have HR4 := Lib.hid (ownsRow_below HR.out hb4)
      have hz4 := hb4.size
      have HB4 := Lib.hid (HBW.out.trans (hb4.mono hzr))
      clear ho4 hb4
      obtain ⟨al, cl, rfl⟩ := ownsRow_len HR4.out
      go_wp2_with (at_builtin; refine wpList_append_own _ rfl _ _ 44 rfl w.heap.size 5 i0 (.int .u8 0) 1 1 Try.underlying44 HI.out HZ0.out HZ1.out HZ2.out rfl (by decide) (.slice al acc.length cl) acc.length _ rfl HR4.out ⟨wr.heap.size, 0, none⟩ 4 4 (((List.range 4).map (nthByte ep)).map bv) rfl rfl (HO4.out.cells (g := wr.heap.size) rfl) (bv_one _) (by unfold maxLen; omega) (by omega) (by omega) ?_; intro v5 w5 hown hgrow _; have hz5 := hgrow.size; have HB5 := Lib.hid (Below.grown HB4.out hgrow (by omega) (fun g e => (HR4.out.lt g e).1)); have HO5 := Lib.hid hown; clear hown hgrow)
      have hm4' : acc.length + 4 ≤ 50000 := by omega
      have HM4 := Lib.hid (show acc.length + 4 = (acc ++ (List.range 4).map (nthByte ep)).length by simp)
      generalize acc.length + 4 = m4 at *
      go_wp2_with fail
      refine wp_loop_rounds 4 ?_
      obtain ⟨g_5, c_5, e_5, -, -, -, -, -, y0, y1, y2, y3⟩ := row_ent19 (ownsRow_below H.out HB5.out) k _ HXX.out
      obtain ⟨e_p, -, -⟩ := slice_inj e_5
      have e_q : g3 = g_5 := by simpa using e_p
      subst e_q
      simp only at y0 y1 y2 y3
      clear e_p e_5
      rw [rounds_succ]
      go_wp2_with (at_builtin; refine wpList_append_own _ rfl _ _ 44 rfl w.heap.size 5 i0 (.int .u8 0) 1 1 Try.underlying44 HI.out HZ0.out HZ1.out HZ2.out rfl (by decide) v5 (m4) _ rfl (HO5.out.alloc _) ⟨w5.heap.size, 0, none⟩ 1 1 [.int .u8 (xa % 256)] rfl rfl (cell_one_new _ _ _) (by simp [Value.oneCell']) (by unfold maxLen; omega) (by omega) (by simp; omega) ?_; intro v6 w6 hown hgrow _; have hz6 := hgrow.size; simp only [World.size_alloc] at hz6; have HB6 := Lib.hid (Below.grown (HB5.out.alloc (by omega) _) hgrow (by simp; omega) (fun g e => (HO5.out.lt g e).1)); have HO6 := Lib.hid hown; clear hown hgrow)
      clear y0 y1 y2 y3
      obtain ⟨g_6, c_6, e_6, -, -, -, -, -, y0, y1, y2, y3⟩ := row_ent19 (ownsRow_below H.out HB6.out) k _ HXX.out
      obtain ⟨e_p, -, -⟩ := slice_inj e_6
      have e_q : g3 = g_6 := by simpa using e_p
      subst e_q
      simp only at y0 y1 y2 y3
      clear e_p e_6
      rw [rounds_succ]
      go_wp2_with (at_builtin; refine wpList_append_own _ rfl _ _ 44 rfl w.heap.size 5 i0 (.int .u8 0) 1 1 Try.underlying44 HI.out HZ0.out HZ1.out HZ2.out rfl (by decide) v6 (m4 + 1) _ rfl (HO6.out.alloc _) ⟨w6.heap.size, 0, none⟩ 1 1 [.int .u8 (xb % 256)] rfl rfl (cell_one_new _ _ _) (by simp [Value.oneCell']) (by unfold maxLen; omega) (by omega) (by simp; omega) ?_; intro v7 w7 hown hgrow _; have hz7 := hgrow.size; simp only [World.size_alloc] at hz7; have HB7 := Lib.hid (Below.grown (HB6.out.alloc (by omega) _) hgrow (by simp; omega) (fun g e => (HO6.out.lt g e).1)); have HO7 := Lib.hid hown; clear hown hgrow)
      clear y0 y1 y2 y3
      obtain ⟨g_7, c_7, e_7, -, -, -, -, -, y0, y1, y2, y3⟩ := row_ent19 (ownsRow_below H.out HB7.out) k _ HXX.out
      obtain ⟨e_p, -, -⟩ := slice_inj e_7
      have e_q : g3 = g_7 := by simpa using e_p
      subst e_q
      simp only at y0 y1 y2 y3
      clear e_p e_7
      rw [rounds_succ]
      go_wp2_with (at_builtin; refine wpList_append_own _ rfl _ _ 44 rfl w.heap.size 5 i0 (.int .u8 0) 1 1 Try.underlying44 HI.out HZ0.out HZ1.out HZ2.out rfl (by decide) v7 (m4 + 1 + 1) _ rfl (HO7.out.alloc _) ⟨w7.heap.size, 0, none⟩ 1 1 [.int .u8 (xc % 256)] rfl rfl (cell_one_new _ _ _) (by simp [Value.oneCell']) (by unfold maxLen; omega) (by omega) (by simp; omega) ?_; intro v8 w8 hown hgrow _; have hz8 := hgrow.size; simp only [World.size_alloc] at hz8; have HB8 := Lib.hid (Below.grown (HB7.out.alloc (by omega) _) hgrow (by simp; omega) (fun g e => (HO7.out.lt g e).1)); have HO8 := Lib.hid hown; clear hown hgrow)
      clear y0 y1 y2 y3
      obtain ⟨g_8, c_8, e_8, -, -, -, -, -, y0, y1, y2, y3⟩ := row_ent19 (ownsRow_below H.out HB8.out) k _ HXX.out
      obtain ⟨e_p, -, -⟩ := slice_inj e_8
      have e_q : g3 = g_8 := by simpa using e_p
      subst e_q
      simp only at y0 y1 y2 y3
      clear e_p e_8
      rw [rounds_succ]
      cases xs
      · go_wp2_with (at_builtin; refine wpList_append_own _ rfl _ _ 44 rfl w.heap.size 5 i0 (.int .u8 0) 1 1 Try.underlying44 HI.out HZ0.out HZ1.out HZ2.out rfl (by decide) v8 (m4 + 1 + 1 + 1) _ rfl (HO8.out.alloc _) ⟨w8.heap.size, 0, none⟩ 1 1 [.int .u8 (0)] rfl rfl (cell_one_new _ _ _) (by simp [Value.oneCell']) (by unfold maxLen; omega) (by omega) (by simp; omega) ?_; intro v9 w9 hown hgrow _; have hz9 := hgrow.size; simp only [World.size_alloc] at hz9; have HB9 := Lib.hid (Below.grown (HB8.out.alloc (by omega) _) hgrow (by simp; omega) (fun g e => (HO8.out.lt g e).1)); have HO9 := Lib.hid hown; clear hown hgrow)
        go_roundw
        case rel => exact ⟨k + 1, by omega, by go_num, by
          rw [HX.out]
          exact ownsRow_cast HO9.out (by rw [List.length_append, entBytes_len]; have := HM4.out; simp at this; omega) (by simp [entBytes, bv, ofI_toNat, List.map_append]), HB9.out⟩
        case measure => simp [intOf]; omega
      · go_wp2_with (at_builtin; refine wpList_append_own _ rfl _ _ 44 rfl w.heap.size 5 i0 (.int .u8 0) 1 1 Try.underlying44 HI.out HZ0.out HZ1.out HZ2.out rfl (by decide) v8 (m4 + 1 + 1 + 1) _ rfl (HO8.out.alloc _) ⟨w8.heap.size, 0, none⟩ 1 1 [.int .u8 (1)] rfl rfl (cell_one_new _ _ _) (by simp [Value.oneCell']) (by unfold maxLen; omega) (by omega) (by simp; omega) ?_; intro v9 w9 hown hgrow _; have hz9 := hgrow.size; simp only [World.size_alloc] at hz9; have HB9 := Lib.hid (Below.grown (HB8.out.alloc (by omega) _) hgrow (by simp; omega) (fun g e => (HO8.out.lt g e).1)); have HO9 := Lib.hid hown; clear hown hgrow)
        go_roundw
        case rel => exact ⟨k + 1, by omega, by go_num, by
          rw [HX.out]
          exact ownsRow_cast HO9.out (by rw [List.length_append, entBytes_len]; have := HM4.out; simp at this; omega) (by simp [entBytes, bv, ofI_toNat, List.map_append]), HB9.out⟩
        case measure => simp [intOf]; omega
    · have HOW := Lib.hid hown
      clear hown hbw
      have HK := Lib.hid (show es.take k = es from List.take_of_length_le (by omega))
      obtain ⟨al, cl, rfl⟩ := ownsRow_len HOW.out
      go_wp2_with fail
      go_ret
      refine ⟨_, rfl, ?_, HBW.out⟩
      have := HOW.out
      rw [HK.out] at this ⊢
      exact this
end Go.Proofs.Ytigkcbnlbdiimaa

/- TwinAlone: rows of other kinds beside a pair, and the plain law. -/
namespace Go.Proofs.Ytigkcbnlbdiimaa
open Go.RowKit
/-- A row of another kind of elements lies apart from a pair's blocks. -/
theorem PairAt.apart {w : World} {base bp b s n : Nat} {t : TypeId} {va vb v : Value} {p : Pr} {xs : List Value} (h : PairAt w base bp va vb p) (h1 : t ≠ 119) (h2 : t ≠ 32)
    (hr : w.ownsRow b t s v n xs) : ∀ g, v.ownBlock = some g → ¬ Foot bp va vb g := by
  intro g hg hf
  rcases hr.2 with ⟨rfl, _⟩ | ⟨g', cap, cur, rfl, _, hh, _⟩
  · cases hg
  · simp only [Value.ownBlock, Option.some.injEq] at hg
    subst hg
    rcases hf with rfl | hf | hf
    · rw [h.blk] at hh
      simp only [Option.some.injEq, Obj.cells.injEq] at hh
      exact h1 hh.2.1.symm
    · rcases h.ra.2 with ⟨e, _⟩ | ⟨g2, cap2, cur2, e, _, hh2, _⟩
      · rw [e] at hf; cases hf
      · rw [e] at hf
        simp only [Value.ownBlock, Option.some.injEq] at hf
        subst hf
        rw [hh2] at hh
        simp only [Option.some.injEq, Obj.cells.injEq] at hh
        exact h2 hh.2.1.symm
    · rcases h.rb.2 with ⟨e, _⟩ | ⟨g2, cap2, cur2, e, _, hh2, _⟩
      · rw [e] at hf; cases hf
      · rw [e] at hf
        simp only [Value.ownBlock, Option.some.injEq] at hf
        subst hf
        rw [hh2] at hh
        simp only [Option.some.injEq, Obj.cells.injEq] at hh
        exact h2 hh.2.1.symm
/-- Rows of other kinds stay. -/
def Stays (w w' : World) : Prop := ∀ (b : Nat) (t : TypeId) (s : Nat) (v : Value) (n : Nat) (xs : List Value), t ≠ 119 → t ≠ 32 → w.ownsRow b t s v n xs → w'.ownsRow b t s v n xs
theorem PairTo.stays {w w' : World} {base bp : Nat} {va vb : Value} {p q : Pr} (h : PairAt w base bp va vb p) (hp : PairTo w base bp va vb q w') : Stays w w' := by
  obtain ⟨_, _, _, _, hk⟩ := hp
  exact fun b t s v n xs h1 h2 hr => ownsRow_keeps hr hk (h.apart h1 h2 hr)
theorem Stays.of_below {w w' : World} (hb : Below w.heap.size w w') : Stays w w' := fun _ _ _ _ _ _ _ _ hr => ownsRow_below hr hb
theorem Stays.trans {a b c : World} (h : Stays a b) (k : Stays b c) : Stays a c := fun x t s v n xs h1 h2 hr => k x t s v n xs h1 h2 (h x t s v n xs h1 h2 hr)
theorem ask_ps (w0 : World) (bp : Nat) (p : Pr) (t : Int) (c : Cmd) (w : World) (h : PS w0 w bp p) (hN : p.L.log.length ≤ 100000) :
    Calls Try.prog 30 #[.pointer (some ⟨bp, 0, none⟩), .int .i64 t, .agg #[.int .i64 c.kind, .int .i64 c.vol, .int .i64 c.epoch, .int .i64 c.spot, .int .i64 c.node, .int .i64 c.n0, .int .i64 c.n1, .int .i64 c.n2]] w
      fun e w' => e = .returned (.tuple #[.int .i64 (askN p t), errV (askK p t)]) ∧ PS w0 w' bp (askP p t c) ∧ Stays w w' := by
  obtain ⟨va, vb, h1, h2⟩ := h
  exact (ask_any _ bp va vb p t c w h1 hN).mono fun e w' ⟨he, hp⟩ => ⟨he, PS.to h1 h2 hp, PairTo.stays h1 hp⟩
theorem fall_ps (w0 : World) (N bp : Nat) (p : Pr) (t : Int) (w : World) (h : PS w0 w bp p) (hi : PrInv N p) (hN : N ≤ 10000) :
    Calls Try.prog 33 #[.pointer (some ⟨bp, 0, none⟩), .int .i64 t] w
      fun e w' => e = .returned (errV (fallIK p t)) ∧ PS w0 w' bp (fallI p t) ∧ Stays w w' := by
  obtain ⟨va, vb, h1, h2⟩ := h
  have h3 := hi.la
  have h4 := hi.lb
  have h5 := hi.t1
  have h6 := hi.t2
  exact (fall_int _ bp va vb p t w h1 (by omega) (by omega) (by omega) (by omega)).mono fun e w' ⟨he, hp⟩ => ⟨he, PS.to h1 h2 hp, PairTo.stays h1 hp⟩
theorem ship_ps2 (w0 : World) (N bp : Nat) (p : Pr) (t : Int) (w : World) (h : PS w0 w bp p) (hi : PrInv N p) (hN : N ≤ 10000) :
    Calls Try.prog 32 #[.pointer (some ⟨bp, 0, none⟩), .int .i64 t] w
      fun e w' => e = .returned (errV (shipK p t)) ∧ PS w0 w' bp (shipP p t) ∧ Stays w w' := by
  obtain ⟨va, vb, h1, h2⟩ := h
  have hla := hi.la
  exact (ship_any _ bp va vb p t w h1 (by omega) (fun hu => (hi.pre hu).length_le)).mono fun e w' ⟨he, hp⟩ => ⟨he, PS.to h1 h2 hp, PairTo.stays h1 hp⟩
theorem rise_ps2 (w0 : World) (N bp : Nat) (p : Pr) (t : Int) (w : World) (h : PS w0 w bp p) (hi : PrInv N p) (hN : N ≤ 10000) :
    Calls Try.prog 34 #[.pointer (some ⟨bp, 0, none⟩), .int .i64 t] w
      fun e w' => e = .returned (errV (riseIK p t)) ∧ PS w0 w' bp (riseI p t) ∧ Stays w w' := by
  obtain ⟨va, vb, h1, h2⟩ := h
  have h3 := hi.la
  have h4 := hi.t1
  have h5 := hi.t2
  exact (rise_int _ bp va vb p t w h1 (by omega) hi.up (by omega) (by omega)).mono fun e w' ⟨he, hp⟩ => ⟨he, PS.to h1 h2 hp, PairTo.stays h1 hp⟩
theorem answer_ps (w0 : World) (bp : Nat) (p : Pr) (j : Nat) (w : World) (h : PS w0 w bp p) (hj : (j : Int) < p.settled) (hs : p.settled ≤ p.L.log.length) (hN : p.L.log.length ≤ 100000) :
    Calls Try.prog 29 #[.pointer (some ⟨bp, 0, none⟩), .int .i64 j] w fun e w' => e = .returned (.tuple #[.int .i64 (ansN p.L.log j), errV (ansK p.L.log j)]) ∧ Below w.heap.size w w' := by
  obtain ⟨va, vb, h1, h2⟩ := h
  exact answer_any _ bp va vb p j w h1 hj hs hN
/-- A side that leads alone. -/
def aloneP (side : Bool) (log : List Cmd) : Pr := ⟨⟨true, log⟩, ⟨false, []⟩, side, if side then 2 else 1, log.length⟩
def bothP (side : Bool) (log : List Cmd) : Pr := ⟨⟨true, log⟩, ⟨true, log⟩, side, if side then 2 else 1, log.length⟩
def downI (side : Bool) : Int := if side then 0 else 1
theorem alone_fall (side : Bool) : fallI Pr.new (downI side) = aloneP side [] ∧ fallIK Pr.new (downI side) = 0 := by
  cases side <;> simp [fallI, fallIK, fallP, fallK, Pr.new, aloneP, downI]
theorem alone_ask (side : Bool) (log : List Cmd) (c : Cmd) : askP (aloneP side log) (if side then 2 else 1) c = aloneP side (log ++ [c]) ∧ askN (aloneP side log) (if side then 2 else 1) = log.length ∧ askK (aloneP side log) (if side then 2 else 1) = 0 := by
  have hm : max (log.length : Int) ((log.length : Int) + 1) = (log.length : Int) + 1 := by omega
  cases side <;> simp [askP, askN, askK, aloneP, hm]
theorem alone_ship (side : Bool) (log : List Cmd) (t : Int) : shipK (aloneP side log) t = 12 ∧ shipP (aloneP side log) t = aloneP side log := by
  cases side <;> simp [shipK, shipP, aloneP]
theorem alone_rise (side : Bool) (log : List Cmd) : riseI (aloneP side log) (downI side) = bothP side log ∧ riseIK (aloneP side log) (downI side) = 0 := by
  cases side <;> simp [riseI, riseIK, riseP, riseK, aloneP, bothP, downI]
theorem both_ship (side : Bool) (log : List Cmd) : shipK (bothP side log) (if side then 2 else 1) = 6 := by
  cases side <;> simp [shipK, bothP]
theorem alone_inv (side : Bool) (log : List Cmd) (h : log.length ≤ 100) : PrInv 100 (aloneP side log) := by
  cases side <;> constructor <;> simp [aloneP] <;> omega
theorem both_inv (side : Bool) (log : List Cmd) (h : log.length ≤ 100) : PrInv 100 (bothP side log) := by
  cases side <;> constructor <;> simp [bothP] <;> omega
theorem ans_last (log : List Cmd) (c : Cmd) (j : Nat) (hj : j = log.length) : ansN (log ++ [c]) j = doN (doAll [] log) c ∧ ansK (log ++ [c]) j = doK (doAll [] log) c := by
  subst hj
  simp [ansN, ansK]
theorem doAll_le (log : List Cmd) : ∀ (es : List Ent), (doAll es log).length ≤ es.length + log.length := by
  induction log with
  | nil => intro es; simp [doAll]
  | cons c log ih =>
    intro es
    have h1 := (doEs_len es c).2
    have h2 := ih (doEs es c)
    simp only [doAll, List.foldl_cons, List.length_cons] at h2 ⊢
    omega
theorem good_log (log : List Cmd) (hl : log.length ≤ 100000) : Good (1 + log.length) (doAll [] log) := good_all log 1 [] (fun i x hx => by simp at hx) (by omega) (by omega)
end Go.Proofs.Ytigkcbnlbdiimaa

/- corncribref20: Log, settle, with, New. -/
namespace Go.Proofs.Ytigkcbnlbdiimaa
open Go.RowKit
set_option maxHeartbeats 400000 in
theorem rlog_0 (a0 : Option Addr) (n0 c0 : Nat) (b0 : Option Addr) (m0 d0 : Nat) (u0 u1 : Bool) (ld tm st : Int) (w : World) :
    Calls Try.prog 66 #[.agg #[.slice a0 n0 c0, .slice b0 m0 d0, .bool u0, .bool u1, .int .i64 ld, .int .i64 tm, .int .i64 st], .int .i64 0] w
      fun e w' => e = .returned (.slice a0 n0 c0) ∧ w.alloc (.cells #[.slice a0 n0 c0, .slice b0 m0 d0, .bool u0, .bool u1, .int .i64 ld, .int .i64 tm, .int .i64 st] 67) = w' := by
  go_enter Try.func66, Try.ntmps66
  go_wp2
  go_ret
  exact ⟨rfl, rfl⟩
set_option maxHeartbeats 400000 in
theorem rlog_1 (a0 : Option Addr) (n0 c0 : Nat) (b0 : Option Addr) (m0 d0 : Nat) (u0 u1 : Bool) (ld tm st : Int) (w : World) :
    Calls Try.prog 66 #[.agg #[.slice a0 n0 c0, .slice b0 m0 d0, .bool u0, .bool u1, .int .i64 ld, .int .i64 tm, .int .i64 st], .int .i64 1] w
      fun e w' => e = .returned (.slice b0 m0 d0) ∧ w.alloc (.cells #[.slice a0 n0 c0, .slice b0 m0 d0, .bool u0, .bool u1, .int .i64 ld, .int .i64 tm, .int .i64 st] 67) = w' := by
  go_enter Try.func66, Try.ntmps66
  go_wp2
  go_ret
  exact ⟨rfl, rfl⟩
set_option maxHeartbeats 400000 in
theorem rsettle_any (a0 : Option Addr) (n0 c0 : Nat) (b0 : Option Addr) (m0 d0 : Nat) (u0 u1 : Bool) (ld tm st : Int) (n : Int) (w : World) :
    Calls Try.prog 68 #[.agg #[.slice a0 n0 c0, .slice b0 m0 d0, .bool u0, .bool u1, .int .i64 ld, .int .i64 tm, .int .i64 st], .int .i64 n] w
      fun e w' => e = .returned (.agg #[.slice a0 n0 c0, .slice b0 m0 d0, .bool u0, .bool u1, .int .i64 ld, .int .i64 tm, .int .i64 (max st n)]) ∧ Below w.heap.size w w' := by
  by_cases h : st < n
  · have HM := Lib.hid (show max st n = n by omega)
    go_enter Try.func68, Try.ntmps68
    go_wp2
    refine bodyPost_ret (v := .agg #[.slice a0 n0 c0, .slice b0 m0 d0, .bool u0, .bool u1, .int .i64 ld, .int .i64 tm, .int .i64 n]) ?_ rfl ?_
    · simp [results, Try.results68, go_sem]
    · exact ⟨by rw [HM.out], (by repeat (first | (with_reducible exact Below.refl _ _) | (with_reducible refine Below.setCell ?_ ?_ _) | (with_reducible refine Below.alloc ?_ ?_ _) | (with_reducible refine Below.drewN ?_ _) | (with_reducible refine Below.drew ?_) | (with_reducible exact Nat.le_refl _) | (focus (simp only [World.size_alloc, World.size_setCell, World.size_drew, World.size_drewN]; omega)) | omega | exact Nat.le_refl _ | (focus (simp; done)) | (focus (simp; omega))))⟩
  · have HM := Lib.hid (show max st n = st by omega)
    go_enter Try.func68, Try.ntmps68
    go_wp2
    refine bodyPost_ret (v := .agg #[.slice a0 n0 c0, .slice b0 m0 d0, .bool u0, .bool u1, .int .i64 ld, .int .i64 tm, .int .i64 st]) ?_ rfl ?_
    · simp [results, Try.results68, go_sem]
    · exact ⟨by rw [HM.out], (by repeat (first | (with_reducible exact Below.refl _ _) | (with_reducible refine Below.setCell ?_ ?_ _) | (with_reducible refine Below.alloc ?_ ?_ _) | (with_reducible refine Below.drewN ?_ _) | (with_reducible refine Below.drew ?_) | (with_reducible exact Nat.le_refl _) | (focus (simp only [World.size_alloc, World.size_setCell, World.size_drew, World.size_drewN]; omega)) | omega | exact Nat.le_refl _ | (focus (simp; done)) | (focus (simp; omega))))⟩
theorem cmd19_info : (Try.prog.info? 35).map (fun i => (i.zero, i.size, i.bytes)) = some (some (.agg #[.int .i64 0, .int .i64 0, .int .i64 0, .int .i64 0, .int .i64 0, .int .i64 0, .int .i64 0, .int .i64 0]), 8, 64) := by kernel_rfl
theorem lit_cmd {w : World} {base k : Nat} (hk : w.heap.size = k) (hb : base ≤ k) : (w.alloc (.cells #[] 35)).ownsRow base 35 8 (.slice (some ⟨k, 0, none⟩) 0 0) 0 [] := by
  subst hk
  exact World.ownsRow_made w #[] 0 hb (by unfold maxLen; omega) rfl
set_option maxRecDepth 100000 in
set_option maxHeartbeats 1000000 in
theorem rwith_0 (a0 : Option Addr) (n0 c0 : Nat) (b0 : Option Addr) (m0 d0 : Nat) (u0 u1 : Bool) (ld tm st : Int) (al : Option Addr) (n cl : Nat) (cs : List Cmd) (w : World) (hl : Reads w 8 (.slice al n cl) n (cs.flatMap Cmd.row)) (hn : n ≤ 100000) :
    Calls Try.prog 67 #[.agg #[.slice a0 n0 c0, .slice b0 m0 d0, .bool u0, .bool u1, .int .i64 ld, .int .i64 tm, .int .i64 st], .int .i64 0, .slice al n cl] w
      fun e w' => ∃ a' c', e = .returned (.agg #[.slice a' n c', .slice b0 m0 d0, .bool u0, .bool u1, .int .i64 ld, .int .i64 tm, .int .i64 st]) ∧ w'.ownsRow w.heap.size 35 8 (.slice a' n c') n (cs.flatMap Cmd.row) ∧ Below w.heap.size w w' := by
  obtain ⟨i0, hi, hz0, hz1, hz2⟩ := info_parts cmd19_info
  have HI := Lib.hid hi
  have HZ0 := Lib.hid hz0
  have HZ1 := Lib.hid hz1
  have HZ2 := Lib.hid hz2
  have HL := Lib.hid hl
  clear hi hz0 hz1 hz2 hl
  go_enter Try.func67, Try.ntmps67
  go_wp2_with (at_builtin; refine wpList_append_reads _ rfl _ _ 22 rfl (w.heap.size + 2) 35 i0 (.agg #[.int .i64 0, .int .i64 0, .int .i64 0, .int .i64 0, .int .i64 0, .int .i64 0, .int .i64 0, .int .i64 0]) 8 64 Try.underlying22 HI.out HZ0.out HZ1.out HZ2.out rfl (by decide) (.slice (some ⟨w.heap.size + 2, 0, none⟩) 0 0) 0 [] rfl (lit_cmd (by simp) (by omega)) (.slice al n cl) n (cs.flatMap Cmd.row) rfl (HL.out.below (by repeat (first | (with_reducible exact Below.refl _ _) | (with_reducible refine Below.setCell ?_ ?_ _) | (with_reducible refine Below.alloc ?_ ?_ _) | (with_reducible refine Below.drewN ?_ _) | (with_reducible refine Below.drew ?_) | (with_reducible exact Nat.le_refl _) | (focus (simp only [World.size_alloc, World.size_setCell, World.size_drew, World.size_drewN]; omega)) | omega | exact Nat.le_refl _ | (focus (simp; done)) | (focus (simp; omega))))) (Cmd.one cs) (by unfold maxLen; omega) (by omega) (by first | omega | (simp; done) | (simp; omega)) ?_; intro v1 w1 hown1 hgrow1 _; obtain ⟨a1, c1, rfl⟩ := ownsRow_len hown1; have kc := fun (o : Nat) => grown_cell (b := w.heap.size) (o := o) hgrow1 (by first | omega | (simp; done) | (simp; omega)) (by simp [Value.ownBlock]); have kf := fun (o : Nat) => grown_frozen (b := w.heap.size) (o := o) hgrow1 (by first | omega | (simp; done) | (simp; omega)) (by simp [Value.ownBlock]); have jc := fun (o : Nat) => grown_cell (b := w.heap.size + 1) (o := o) hgrow1 (by first | omega | (simp; done) | (simp; omega)) (by simp [Value.ownBlock]); have jf := fun (o : Nat) => grown_frozen (b := w.heap.size + 1) (o := o) hgrow1 (by first | omega | (simp; done) | (simp; omega)) (by simp [Value.ownBlock]); have kc0 : w1.cell? ⟨w.heap.size, 0, none⟩ = some (.slice a0 n0 c0) := (kc 0).trans (by go_simp); have kc1 : w1.cell? ⟨w.heap.size, 1, none⟩ = some (.slice b0 m0 d0) := (kc 1).trans (by go_simp); have kc2 : w1.cell? ⟨w.heap.size, 2, none⟩ = some (.bool u0) := (kc 2).trans (by go_simp); have kc3 : w1.cell? ⟨w.heap.size, 3, none⟩ = some (.bool u1) := (kc 3).trans (by go_simp); have kc4 : w1.cell? ⟨w.heap.size, 4, none⟩ = some (.int .i64 ld) := (kc 4).trans (by go_simp); have kc5 : w1.cell? ⟨w.heap.size, 5, none⟩ = some (.int .i64 tm) := (kc 5).trans (by go_simp); have kc6 : w1.cell? ⟨w.heap.size, 6, none⟩ = some (.int .i64 st) := (kc 6).trans (by go_simp); have jc0 : w1.cell? ⟨w.heap.size + 1, 0, none⟩ = some (.slice none 0 0) := (jc 0).trans (by go_simp); have jc1 : w1.cell? ⟨w.heap.size + 1, 1, none⟩ = some (.slice none 0 0) := (jc 1).trans (by go_simp); have jc2 : w1.cell? ⟨w.heap.size + 1, 2, none⟩ = some (.bool false) := (jc 2).trans (by go_simp); have jc3 : w1.cell? ⟨w.heap.size + 1, 3, none⟩ = some (.bool false) := (jc 3).trans (by go_simp); have jc4 : w1.cell? ⟨w.heap.size + 1, 4, none⟩ = some (.int .i64 0) := (jc 4).trans (by go_simp); have jc5 : w1.cell? ⟨w.heap.size + 1, 5, none⟩ = some (.int .i64 0) := (jc 5).trans (by go_simp); have jc6 : w1.cell? ⟨w.heap.size + 1, 6, none⟩ = some (.int .i64 0) := (jc 6).trans (by go_simp); clear kc jc; have hz1 := hgrow1.size; simp only [World.size_alloc] at hz1; have HO := Lib.hid hown1; have HB := Lib.hid (show Below w.heap.size w w1 from Below.grown (by repeat (first | (with_reducible exact Below.refl _ _) | (with_reducible refine Below.setCell ?_ ?_ _) | (with_reducible refine Below.alloc ?_ ?_ _) | (with_reducible refine Below.drewN ?_ _) | (with_reducible refine Below.drew ?_) | (with_reducible exact Nat.le_refl _) | (focus (simp only [World.size_alloc, World.size_setCell, World.size_drew, World.size_drewN]; omega)) | omega | exact Nat.le_refl _ | (focus (simp; done)) | (focus (simp; omega)))) hgrow1 (by first | omega | (simp; done) | (simp; omega)) (by simp [Value.ownBlock])); clear hown1 hgrow1)
  refine bodyPost_ret (v := .agg #[.slice a1 n c1, .slice b0 m0 d0, .bool u0, .bool u1, .int .i64 ld, .int .i64 tm, .int .i64 st]) ?_ rfl ?_
  · simp [results, Try.results67, go_sem, jc0, jc1, jc2, jc3, jc4, jc5, jc6]
  · refine ⟨_, _, rfl, ownsRow_mono (base := w.heap.size + 2) ?_ (by omega), ?_⟩
    · repeat (refine ownsRow_setCell_below ?_ (by simp) _)
      simpa using HO.out
    · repeat (refine Below.setCell ?_ (by simp) _)
      exact HB.out
set_option maxRecDepth 100000 in
set_option maxHeartbeats 1000000 in
theorem rwith_1 (a0 : Option Addr) (n0 c0 : Nat) (b0 : Option Addr) (m0 d0 : Nat) (u0 u1 : Bool) (ld tm st : Int) (al : Option Addr) (n cl : Nat) (cs : List Cmd) (w : World) (hl : Reads w 8 (.slice al n cl) n (cs.flatMap Cmd.row)) (hn : n ≤ 100000) :
    Calls Try.prog 67 #[.agg #[.slice a0 n0 c0, .slice b0 m0 d0, .bool u0, .bool u1, .int .i64 ld, .int .i64 tm, .int .i64 st], .int .i64 1, .slice al n cl] w
      fun e w' => ∃ a' c', e = .returned (.agg #[.slice a0 n0 c0, .slice a' n c', .bool u0, .bool u1, .int .i64 ld, .int .i64 tm, .int .i64 st]) ∧ w'.ownsRow w.heap.size 35 8 (.slice a' n c') n (cs.flatMap Cmd.row) ∧ Below w.heap.size w w' := by
  obtain ⟨i0, hi, hz0, hz1, hz2⟩ := info_parts cmd19_info
  have HI := Lib.hid hi
  have HZ0 := Lib.hid hz0
  have HZ1 := Lib.hid hz1
  have HZ2 := Lib.hid hz2
  have HL := Lib.hid hl
  clear hi hz0 hz1 hz2 hl
  go_enter Try.func67, Try.ntmps67
  go_wp2_with (at_builtin; refine wpList_append_reads _ rfl _ _ 22 rfl (w.heap.size + 2) 35 i0 (.agg #[.int .i64 0, .int .i64 0, .int .i64 0, .int .i64 0, .int .i64 0, .int .i64 0, .int .i64 0, .int .i64 0]) 8 64 Try.underlying22 HI.out HZ0.out HZ1.out HZ2.out rfl (by decide) (.slice (some ⟨w.heap.size + 2, 0, none⟩) 0 0) 0 [] rfl (lit_cmd (by simp) (by omega)) (.slice al n cl) n (cs.flatMap Cmd.row) rfl (HL.out.below (by repeat (first | (with_reducible exact Below.refl _ _) | (with_reducible refine Below.setCell ?_ ?_ _) | (with_reducible refine Below.alloc ?_ ?_ _) | (with_reducible refine Below.drewN ?_ _) | (with_reducible refine Below.drew ?_) | (with_reducible exact Nat.le_refl _) | (focus (simp only [World.size_alloc, World.size_setCell, World.size_drew, World.size_drewN]; omega)) | omega | exact Nat.le_refl _ | (focus (simp; done)) | (focus (simp; omega))))) (Cmd.one cs) (by unfold maxLen; omega) (by omega) (by first | omega | (simp; done) | (simp; omega)) ?_; intro v1 w1 hown1 hgrow1 _; obtain ⟨a1, c1, rfl⟩ := ownsRow_len hown1; have kc := fun (o : Nat) => grown_cell (b := w.heap.size) (o := o) hgrow1 (by first | omega | (simp; done) | (simp; omega)) (by simp [Value.ownBlock]); have kf := fun (o : Nat) => grown_frozen (b := w.heap.size) (o := o) hgrow1 (by first | omega | (simp; done) | (simp; omega)) (by simp [Value.ownBlock]); have jc := fun (o : Nat) => grown_cell (b := w.heap.size + 1) (o := o) hgrow1 (by first | omega | (simp; done) | (simp; omega)) (by simp [Value.ownBlock]); have jf := fun (o : Nat) => grown_frozen (b := w.heap.size + 1) (o := o) hgrow1 (by first | omega | (simp; done) | (simp; omega)) (by simp [Value.ownBlock]); have kc0 : w1.cell? ⟨w.heap.size, 0, none⟩ = some (.slice a0 n0 c0) := (kc 0).trans (by go_simp); have kc1 : w1.cell? ⟨w.heap.size, 1, none⟩ = some (.slice b0 m0 d0) := (kc 1).trans (by go_simp); have kc2 : w1.cell? ⟨w.heap.size, 2, none⟩ = some (.bool u0) := (kc 2).trans (by go_simp); have kc3 : w1.cell? ⟨w.heap.size, 3, none⟩ = some (.bool u1) := (kc 3).trans (by go_simp); have kc4 : w1.cell? ⟨w.heap.size, 4, none⟩ = some (.int .i64 ld) := (kc 4).trans (by go_simp); have kc5 : w1.cell? ⟨w.heap.size, 5, none⟩ = some (.int .i64 tm) := (kc 5).trans (by go_simp); have kc6 : w1.cell? ⟨w.heap.size, 6, none⟩ = some (.int .i64 st) := (kc 6).trans (by go_simp); have jc0 : w1.cell? ⟨w.heap.size + 1, 0, none⟩ = some (.slice none 0 0) := (jc 0).trans (by go_simp); have jc1 : w1.cell? ⟨w.heap.size + 1, 1, none⟩ = some (.slice none 0 0) := (jc 1).trans (by go_simp); have jc2 : w1.cell? ⟨w.heap.size + 1, 2, none⟩ = some (.bool false) := (jc 2).trans (by go_simp); have jc3 : w1.cell? ⟨w.heap.size + 1, 3, none⟩ = some (.bool false) := (jc 3).trans (by go_simp); have jc4 : w1.cell? ⟨w.heap.size + 1, 4, none⟩ = some (.int .i64 0) := (jc 4).trans (by go_simp); have jc5 : w1.cell? ⟨w.heap.size + 1, 5, none⟩ = some (.int .i64 0) := (jc 5).trans (by go_simp); have jc6 : w1.cell? ⟨w.heap.size + 1, 6, none⟩ = some (.int .i64 0) := (jc 6).trans (by go_simp); clear kc jc; have hz1 := hgrow1.size; simp only [World.size_alloc] at hz1; have HO := Lib.hid hown1; have HB := Lib.hid (show Below w.heap.size w w1 from Below.grown (by repeat (first | (with_reducible exact Below.refl _ _) | (with_reducible refine Below.setCell ?_ ?_ _) | (with_reducible refine Below.alloc ?_ ?_ _) | (with_reducible refine Below.drewN ?_ _) | (with_reducible refine Below.drew ?_) | (with_reducible exact Nat.le_refl _) | (focus (simp only [World.size_alloc, World.size_setCell, World.size_drew, World.size_drewN]; omega)) | omega | exact Nat.le_refl _ | (focus (simp; done)) | (focus (simp; omega)))) hgrow1 (by first | omega | (simp; done) | (simp; omega)) (by simp [Value.ownBlock])); clear hown1 hgrow1)
  refine bodyPost_ret (v := .agg #[.slice a0 n0 c0, .slice a1 n c1, .bool u0, .bool u1, .int .i64 ld, .int .i64 tm, .int .i64 st]) ?_ rfl ?_
  · simp [results, Try.results67, go_sem, jc0, jc1, jc2, jc3, jc4, jc5, jc6]
  · refine ⟨_, _, rfl, ownsRow_mono (base := w.heap.size + 2) ?_ (by omega), ?_⟩
    · repeat (refine ownsRow_setCell_below ?_ (by simp) _)
      simpa using HO.out
    · repeat (refine Below.setCell ?_ (by simp) _)
      exact HB.out
end Go.Proofs.Ytigkcbnlbdiimaa
