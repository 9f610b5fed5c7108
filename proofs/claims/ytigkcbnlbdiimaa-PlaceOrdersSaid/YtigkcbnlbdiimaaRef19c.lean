/- corncribref19.Do: the errors of a volume that is there. -/
import Derived.Test.YtigkcbnlbdiimaaRef19b
namespace Go.Proofs.Ytigkcbnlbdiimaa
open Go.RowKit
theorem err_ways {x : Ent} {c : Cmd} (hk : 2 ≤ c.kind) (hk2 : c.kind ≤ 4) (h : turnE x c ≠ 0) :
    (c.kind = 2 ∧ x.shut = true ∧ turnE x c = 10) ∨ (c.kind = 3 ∧ x.shut = false ∧ turnE x c = 8) ∨
    (c.kind = 4 ∧ decide (c.spot < 0) = true ∧ turnE x c = 1) ∨ (c.kind = 4 ∧ decide (c.spot < 0) = false ∧ decide (2 < c.spot) = true ∧ turnE x c = 1) ∨
    (c.kind = 4 ∧ decide (c.spot < 0) = false ∧ decide (2 < c.spot) = false ∧ placeB c.node = false ∧ turnE x c = 1) ∨
    (c.kind = 4 ∧ decide (c.spot < 0) = false ∧ decide (2 < c.spot) = false ∧ placeB c.node = true ∧ (x.n0 == c.node) = true ∧ turnE x c = 8) ∨
    (c.kind = 4 ∧ decide (c.spot < 0) = false ∧ decide (2 < c.spot) = false ∧ placeB c.node = true ∧ (x.n0 == c.node) = false ∧ (x.n1 == c.node) = true ∧ turnE x c = 8) ∨
    (c.kind = 4 ∧ decide (c.spot < 0) = false ∧ decide (2 < c.spot) = false ∧ placeB c.node = true ∧ (x.n0 == c.node) = false ∧ (x.n1 == c.node) = false ∧ (x.n2 == c.node) = true ∧ turnE x c = 8) := by
  by_cases h2 : c.kind = 2
  · left
    cases hs : x.shut
    · simp [turnE, h2, hs] at h
    · exact ⟨h2, rfl, by simp [turnE, h2, hs]⟩
  by_cases h3 : c.kind = 3
  · right; left
    cases hs : x.shut
    · exact ⟨h3, rfl, by simp [turnE, h3, hs]⟩
    · simp [turnE, h3, hs] at h
  have h4 : c.kind = 4 := by omega
  right; right
  have e : turnE x c = errNode x c := by simp [turnE, h4]
  rw [e] at h ⊢
  unfold errNode at h ⊢
  by_cases a1 : c.spot < 0
  · left; exact ⟨h4, by simpa using a1, by rw [if_pos (.inl a1)]⟩
  by_cases a2 : 2 < c.spot
  · right; left; exact ⟨h4, by simpa using a1, by simpa using a2, by rw [if_pos (.inr (.inl (by omega)))]⟩
  right; right
  cases a3 : placeB c.node
  · left; exact ⟨h4, by simpa using a1, by simpa using a2, rfl, by rw [if_pos (.inr (.inr rfl))]⟩
  right
  rw [a3] at h
  rw [if_neg (by intro h'; rcases h' with h' | h' | h' <;> first | omega | cases h')] at h ⊢
  by_cases b0 : x.n0 = c.node
  · left; exact ⟨h4, by simpa using a1, by simpa using a2, rfl, by simpa using b0, by rw [if_pos (.inl b0)]⟩
  by_cases b1 : x.n1 = c.node
  · right; left; exact ⟨h4, by simpa using a1, by simpa using a2, rfl, by simpa using b0, by simpa using b1, by rw [if_pos (.inr (.inl b1))]⟩
  by_cases b2 : x.n2 = c.node
  · right; right; exact ⟨h4, by simpa using a1, by simpa using a2, rfl, by simpa using b0, by simpa using b1, by simpa using b2, by rw [if_pos (.inr (.inr b2))]⟩
  · rw [if_neg (by rintro (h' | h' | h'); exact b0 h'; exact b1 h'; exact b2 h')] at h
    exact absurd rfl h
set_option maxRecDepth 100000 in
set_option maxHeartbeats 4000000 in
theorem ref_err (base : Nat) (v : Value) (es : List Ent) (c : Cmd) (j : Nat) (x : Ent) (w : World) (h : w.ownsRow base 128 6 v es.length (es.flatMap Ent.row)) (hk : 2 ≤ c.kind) (hk2 : c.kind ≤ 4) (hv : c.vol = (j : Int) + 1) (hx : es[j]? = some x) (he : x.epoch = c.epoch) (ht : turnE x c ≠ 0) :
    Calls Try.prog 39 #[v, .agg #[.int .i64 c.kind, .int .i64 c.vol, .int .i64 c.epoch, .int .i64 c.spot, .int .i64 c.node, .int .i64 c.n0, .int .i64 c.n1, .int .i64 c.n2]] w
      (RefOut w base es 0 (turnE x c)) := by
  have hw := err_ways hk hk2 ht
  clear ht hk hk2
  generalize turnE x c = r at *
  have H := Lib.hid h
  obtain ⟨g, cap, rfl, hg, hgb, hj, q0, q1, q2, q3, q4, q5⟩ := row_ent19 h j x hx
  clear h hx
  obtain ⟨k, cv, ce, cs, cn, c0, c1, c2⟩ := c
  obtain ⟨xv, xe, x0, x1, x2, xs⟩ := x
  have hv' : cv = (j : Int) + 1 := hv
  clear hv
  subst hv'
  have he' : xe = ce := he
  clear he
  subst he'
  have hle : es.length ≤ maxLen := (reads_of_owns H.out).2.elim (fun h => by have := h.2; omega) (fun ⟨_, _, _, h, _⟩ => h)
  have hle' : es.length ≤ 9223372036854775807 := hle
  have e1 : IntKind.i64.wrap ((j : Int) + 1 - 1) = (j : Int) := by rw [show (j : Int) + 1 - 1 = j by omega]; exact IntWalk.i64_in _ (by omega)
  simp only at hw q0 q1 q2 q3 q4 q5
  rcases hw with ⟨rfl, rfl, rfl⟩ | ⟨rfl, rfl, rfl⟩ | ⟨rfl, d1, rfl⟩ | ⟨rfl, d1, d2, rfl⟩ | ⟨rfl, d1, d2, d3, rfl⟩ | ⟨rfl, d1, d2, d3, d4, rfl⟩ | ⟨rfl, d1, d2, d3, d4, d5, rfl⟩ | ⟨rfl, d1, d2, d3, d4, d5, d6, rfl⟩
  all_goals
    go_enter Try.func39, Try.ntmps39
    go_wp2_with fail
    refine wp_region_now0 [2, 5, 8] [(0, 0), (1, 0), (2, 2), (3, 0), (4, 0), (5, 2), (6, 0), (7, 0), (8, 2), (9, 0), (10, 0), (11, 0)] (by kernel_rfl) (by kernel_rfl) rfl (by kernel_rfl) ?_
    refine stepE0 rfl rfl (fun K hK => ?_)
    go_simp
    refine hK _ ?_
    clear hK K
    refine stepE0 rfl rfl (fun K hK => ?_)
    go_simp
    refine hK _ ?_
    clear hK K
    refine stepE2 rfl rfl ?_ (fun w1 hS => ?_) (fun K hK => ?_)
    rotate_left
    focus (obtain rfl : w1 = _ := hS; go_simp; rfl)
    go_simp
    refine hK _ ?_
    clear hK K
    refine stepE0 rfl rfl (fun K hK => ?_)
    go_simp
    refine hK _ ?_
    clear hK K
    refine stepE0 rfl rfl (fun K hK => ?_)
    go_simp
    refine hK _ ?_
    clear hK K
    refine stepE2 rfl rfl ?_ (fun w1 hS => ?_) (fun K hK => ?_)
    rotate_left
    focus (obtain rfl : w1 = _ := hS; go_simp; rfl)
    go_simp
    refine hK _ ?_
    clear hK K
    refine stepE0 rfl rfl (fun K hK => ?_)
    go_simp
    refine hK _ ?_
    clear hK K
    refine stepE0 rfl rfl (fun K hK => ?_)
    go_simp
    refine hK _ ?_
    clear hK K
    refine stepE2 rfl rfl ?_ (fun w1 hS => ?_) (fun K hK => ?_)
    rotate_left
    focus (obtain rfl : w1 = _ := hS; go_simp; rfl)
    go_simp
    refine hK _ ?_
    clear hK K
    refine stepE0 rfl rfl (fun K hK => ?_)
    go_simp
    refine hK _ ?_
    clear hK K
    refine stepE0 rfl rfl (fun K hK => ?_)
    go_simp
    refine hK _ ?_
    clear hK K
    refine stepE0 rfl rfl (fun K hK => ?_)
    go_simp
    refine hK _ ?_
    clear hK K
    try refine stepEnil0 ?_
    go_wp2_with (go_at_call 69; refine (near_any _ _).mono ?_; rintro e w' ⟨rfl, rfl⟩; simp only [d3])
    go_ret3
    exact RefOut.same H.out (by repeat (first | (with_reducible exact Below.refl _ _) | (with_reducible refine Below.setCell ?_ ?_ _) | (with_reducible refine Below.alloc ?_ ?_ _) | (with_reducible refine Below.drewN ?_ _) | (with_reducible refine Below.drew ?_) | (with_reducible exact Nat.le_refl _) | (focus (simp only [World.size_alloc, World.size_setCell, World.size_drew, World.size_drewN]; omega)) | omega | exact Nat.le_refl _ | (focus (simp; done)) | (focus (simp; omega))))
end Go.Proofs.Ytigkcbnlbdiimaa
