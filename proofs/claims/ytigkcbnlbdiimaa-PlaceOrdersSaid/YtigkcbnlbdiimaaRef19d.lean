/- corncribref19.Do: what changes a volume. -/
import Derived.Test.YtigkcbnlbdiimaaRef19c
namespace Go.Proofs.Ytigkcbnlbdiimaa
open Go.RowKit
theorem entry19_info : (Try.prog.info? 128).map (fun i => (i.zero, i.size, i.bytes)) = some (some (.agg #[.int .i64 0, .int .i64 0, .int .i64 0, .int .i64 0, .int .i64 0, .bool false]), 6, 48) := by kernel_rfl
theorem RefOut.put {w W0 W : World} {base gg cap j : Nat} {es : List Ent} (y : Ent) (n : Int) (hW : W = (setCellsAt W0 gg (j * 6) y.row).drew)
    (h : W0.ownsRow base 128 6 (.slice (some ⟨gg, 0, none⟩) es.length cap) es.length (es.flatMap Ent.row)) (hb : Below w.heap.size w W0) (hj : j < es.length) (hg : w.heap.size ≤ gg) (hn : n = y.epoch) :
    RefOut w base (es.set j y) n 0 (.returned (.tuple #[.slice (some ⟨gg, 0, none⟩) es.length cap, .int .i64 n, .int .i64 0])) W := by
  subst hn
  have hk := setCellsAt_keeps gg y.row (j * 6) W0
  have hr := ownsRow_struct Ent.row 6 Ent.row_len es j y hj h
  generalize setCellsAt W0 gg (j * 6) y.row = X at *
  subst hW
  refine ⟨_, rfl, ?_, (hb.trans (hk.below (B := w.heap.size) hb.size (fun k e => by rw [e]; exact hg))).drew⟩
  rw [List.length_set]
  exact hr.drew
theorem lit_at {w : World} {base k : Nat} (hk : w.heap.size = k) (hb : base ≤ k) : (w.alloc (.cells #[] 128)).ownsRow base 128 6 (.slice (some ⟨k, 0, none⟩) 0 0) 0 [] := by
  subst hk
  exact World.ownsRow_lit w #[] 0 hb (by unfold maxLen; omega) rfl
theorem turn_ways {x : Ent} {c : Cmd} (hk : 2 ≤ c.kind) (hk2 : c.kind ≤ 4) (h : turnE x c = 0) :
    (c.kind = 2 ∧ x.shut = false ∧ turnX x c = ⟨x.vol, wrapI (x.epoch + 1), x.n0, x.n1, x.n2, true⟩) ∨ (c.kind = 3 ∧ x.shut = true ∧ turnX x c = ⟨x.vol, wrapI (x.epoch + 1), x.n0, x.n1, x.n2, false⟩) ∨
    (c.kind = 4 ∧ placeB c.node = true ∧ (x.n0 == c.node) = false ∧ (x.n1 == c.node) = false ∧ (x.n2 == c.node) = false ∧
      ((c.spot = 0 ∧ turnX x c = ⟨x.vol, wrapI (x.epoch + 1), c.node, x.n1, x.n2, x.shut⟩) ∨ (c.spot = 1 ∧ turnX x c = ⟨x.vol, wrapI (x.epoch + 1), x.n0, c.node, x.n2, x.shut⟩) ∨ (c.spot = 2 ∧ turnX x c = ⟨x.vol, wrapI (x.epoch + 1), x.n0, x.n1, c.node, x.shut⟩))) := by
  by_cases h2 : c.kind = 2
  · left
    cases hs : x.shut
    · exact ⟨h2, rfl, by simp [turnX, h2]⟩
    · simp [turnE, h2, hs] at h
  by_cases h3 : c.kind = 3
  · right; left
    cases hs : x.shut
    · simp [turnE, h3, hs] at h
    · exact ⟨h3, rfl, by simp [turnX, h3]⟩
  have h4 : c.kind = 4 := by omega
  right; right
  have e : turnE x c = errNode x c := by simp [turnE, h4]
  rw [e] at h
  unfold errNode at h
  by_cases a1 : c.spot < 0 ∨ 3 ≤ c.spot ∨ placeB c.node = false
  · rw [if_pos a1] at h; cases h
  rw [if_neg a1] at h
  by_cases b0 : x.n0 = c.node ∨ x.n1 = c.node ∨ x.n2 = c.node
  · rw [if_pos b0] at h; cases h
  have hp : placeB c.node = true := by
    cases hp : placeB c.node
    · exact absurd (.inr (.inr hp)) a1
    · rfl
  have n0 : x.n0 ≠ c.node := fun e => b0 (.inl e)
  have n1 : x.n1 ≠ c.node := fun e => b0 (.inr (.inl e))
  have n2 : x.n2 ≠ c.node := fun e => b0 (.inr (.inr e))
  have l0 : ¬ c.spot < 0 := fun e => a1 (.inl e)
  have l3 : ¬ 3 ≤ c.spot := fun e => a1 (.inr (.inl e))
  refine ⟨h4, hp, by simpa using n0, by simpa using n1, by simpa using n2, ?_⟩
  by_cases s0 : c.spot = 0
  · left; exact ⟨s0, by simp [turnX, h4, s0]⟩
  by_cases s1 : c.spot = 1
  · right; left; exact ⟨s1, by simp [turnX, h4, s1]⟩
  · have s2 : c.spot = 2 := by omega
    right; right; exact ⟨s2, by simp [turnX, h4, s2]⟩
set_option maxRecDepth 100000 in
set_option maxHeartbeats 4000000 in
theorem ref_turn (base : Nat) (v : Value) (es : List Ent) (c : Cmd) (j : Nat) (x : Ent) (w : World) (h : w.ownsRow base 128 6 v es.length (es.flatMap Ent.row)) (hk : 2 ≤ c.kind) (hk2 : c.kind ≤ 4) (hv : c.vol = (j : Int) + 1) (hx : es[j]? = some x) (he : x.epoch = c.epoch) (ht : turnE x c = 0) (hl : es.length ≤ 100000) :
    Calls Try.prog 39 #[v, .agg #[.int .i64 c.kind, .int .i64 c.vol, .int .i64 c.epoch, .int .i64 c.spot, .int .i64 c.node, .int .i64 c.n0, .int .i64 c.n1, .int .i64 c.n2]] w
      (RefOut w base (es.set j (turnX x c)) (turnX x c).epoch 0) := by
  have hw := turn_ways hk hk2 ht
  clear ht hk hk2
  generalize turnX x c = y at *
  obtain ⟨i0, hi, hz0, hz1, hz2⟩ := info_parts entry19_info
  have HI := Lib.hid hi
  have HZ0 := Lib.hid hz0
  have HZ1 := Lib.hid hz1
  have HZ2 := Lib.hid hz2
  clear hi hz0 hz1 hz2
  have H := Lib.hid h
  obtain ⟨g, cap, rfl, hg, hgb, hj, q0, q1, q2, q3, q4, q5⟩ := row_ent19 h j x hx
  have HX := Lib.hid hx
  clear h hx
  obtain ⟨k, cv, ce, cs, cn, c0, c1, c2⟩ := c
  obtain ⟨xv, xe, x0, x1, x2, xs⟩ := x
  have hv' : cv = (j : Int) + 1 := hv
  clear hv
  subst hv'
  have he' : xe = ce := he
  clear he
  subst he'
  have e1 : IntKind.i64.wrap ((j : Int) + 1 - 1) = (j : Int) := by rw [show (j : Int) + 1 - 1 = j by omega]; exact IntWalk.i64_in _ (by omega)
  simp only at hw q0 q1 q2 q3 q4 q5
  rcases hw with ⟨rfl, rfl, rfl⟩ | ⟨rfl, rfl, rfl⟩ | ⟨rfl, d3, d4, d5, d6, ⟨rfl, rfl⟩ | ⟨rfl, rfl⟩ | ⟨rfl, rfl⟩⟩
  all_goals
    go_enter Try.func39, Try.ntmps39
    go_wp2_with fail
    refine wp_region_now0 [2, 5, 8] [(0, 0), (1, 0), (2, 2), (3, 0), (4, 0), (5, 2), (6, 0), (7, 0), (8, 2), (9, 0), (10, 0), (11, 0)] (by kernel_rfl) (by kernel_rfl) rfl (by kernel_rfl) ?_
    refine stepE0 rfl rfl (fun K hK => ?_)
    go_simp
    refine hK _ ?_
    clear hK K
    refine stepE0 rfl rfl (fun K hK => ?_)
    go_simp
    refine hK _ ?_
    clear hK K
    refine stepE2 rfl rfl ?_ (fun w1 hS => ?_) (fun K hK => ?_)
    rotate_left
    focus (obtain rfl : w1 = _ := hS; go_simp; rfl)
    go_simp
    refine hK _ ?_
    clear hK K
    refine stepE0 rfl rfl (fun K hK => ?_)
    go_simp
    refine hK _ ?_
    clear hK K
    refine stepE0 rfl rfl (fun K hK => ?_)
    go_simp
    refine hK _ ?_
    clear hK K
    refine stepE2 rfl rfl ?_ (fun w1 hS => ?_) (fun K hK => ?_)
    rotate_left
    focus (obtain rfl : w1 = _ := hS; go_simp; rfl)
    go_simp
    refine hK _ ?_
    clear hK K
    refine stepE0 rfl rfl (fun K hK => ?_)
    go_simp
    refine hK _ ?_
    clear hK K
    refine stepE0 rfl rfl (fun K hK => ?_)
    go_simp
    refine hK _ ?_
    clear hK K
    refine stepE2 rfl rfl ?_ (fun w1 hS => ?_) (fun K hK => ?_)
    rotate_left
    focus (obtain rfl : w1 = _ := hS; go_simp; rfl)
    go_simp
    refine hK _ ?_
    clear hK K
    refine stepE0 rfl rfl (fun K hK => ?_)
    go_simp
    refine hK _ ?_
    clear hK K
    refine stepE0 rfl rfl (fun K hK => ?_)
    go_simp
    refine hK _ ?_
    clear hK K
    refine stepE0 rfl rfl (fun K hK => ?_)
    go_simp
    refine hK _ ?_
    clear hK K
    try refine stepEnil0 ?_
    go_wp2_with (first
      | (go_at_call 69; refine (near_any _ _).mono ?_; rintro e w' ⟨rfl, rfl⟩; simp only [d3])
      | (at_builtin; refine wpList_append_lies _ rfl _ _ 72 rfl base 128 i0 (.agg #[.int .i64 0, .int .i64 0, .int .i64 0, .int .i64 0, .int .i64 0, .bool false]) 6 48 Try.underlying72 HI.out HZ0.out HZ1.out HZ2.out rfl (by decide) (.slice (some ⟨w.heap.size + 2, 0, none⟩) 0 0) 0 [] rfl (lit_at (by simp) (by omega)) ⟨g, 0, none⟩ es.length cap (es.flatMap Ent.row) rfl H.out.1 (fun j u hu => cell_later (by repeat (first | (with_reducible exact Below.refl _ _) | (with_reducible refine Below.setCell ?_ ?_ _) | (with_reducible refine Below.alloc ?_ ?_ _) | (with_reducible refine Below.drewN ?_ _) | (with_reducible refine Below.drew ?_) | (with_reducible exact Nat.le_refl _) | (focus (simp only [World.size_alloc, World.size_setCell, World.size_drew, World.size_drewN]; omega)) | omega | exact Nat.le_refl _ | (focus (simp; done)) | (focus (simp; omega)))) (H.out.cells (g := g) rfl j u hu)) (Ent.one es) (by omega) (by unfold maxLen; omega) (by omega) (by simp; omega) _ rfl ?_; intro gg cap2 w2 hown hgrow hat hlt2; have kc := fun (o : Nat) => grown_cell (b := w.heap.size) (o := o) hgrow (by simp; omega) (by simp [Value.ownBlock]); have kx := fun (o : Nat) => grown_cell (b := w.heap.size + 1) (o := o) hgrow (by simp) (by simp [Value.ownBlock]); have kf := fun (o : Nat) => hown.frozenAt o; have hown' : w2.ownsRow base 128 6 (.slice (some ⟨gg, 0, none⟩) es.length cap2) es.length (es.flatMap Ent.row) := (by simpa using hown); obtain ⟨g3, c3, e3, hg3, _, _, s0, s1, s2, s3, s4, s5⟩ := row_ent19 hown' j _ HX.out; obtain ⟨e3', -, -⟩ := slice_inj e3; have e4 : gg = g3 := (by simpa using e3'); subst e4; simp only at s0 s1 s2 s3 s4 s5; clear e3 e3'; have HO := Lib.hid hown'; have HG := Lib.hid hgrow; have hgg : w.heap.size + 2 ≤ gg := (by rcases hat with h | h <;> simp [Value.ownBlock] at h <;> omega); have HGG := Lib.hid hgg; have hgne : w.heap.size + 1 ≠ gg := (by omega); have hgne2 : gg ≠ w.heap.size + 1 := (by omega); clear hgg hown hown' hgrow hat))
    have hj0 : (0 : Int) ≤ (j : Int) := by omega
    have hj1 : (j : Int) < (es.length : Int) := by omega
    go_wp2_with fail
    refine wp_region_now0 [2] [(0, 0), (1, 0), (2, 2), (3, 0), (4, 0), (5, 0)] (by kernel_rfl) (by kernel_rfl) rfl (by kernel_rfl) ?_
    refine stepE0 rfl rfl (fun K hK => ?_)
    go_simp
    refine hK _ ?_
    clear hK K
    refine stepE0 rfl rfl (fun K hK => ?_)
    go_simp
    refine hK _ ?_
    clear hK K
    refine stepE2 rfl rfl ?_ (fun w1 hS => ?_) (fun K hK => ?_)
    rotate_left
    focus (obtain rfl : w1 = _ := hS; go_simp; rfl)
    go_simp
    refine hK _ ?_
    clear hK K
    refine stepE0 rfl rfl (fun K hK => ?_)
    go_simp
    refine hK _ ?_
    clear hK K
    refine stepE0 rfl rfl (fun K hK => ?_)
    go_simp
    refine hK _ ?_
    clear hK K
    refine stepE0 rfl rfl (fun K hK => ?_)
    go_simp
    refine hK _ ?_
    clear hK K
    try refine stepEnil0 ?_
    go_wp2_with fail
    go_ret3
    refine RefOut.put (cap := cap2) ⟨xv, wrapI (xe + 1), _, _, _, _⟩ _ rfl HO.out ?_ hj (by have := HGG.out; omega) rfl
    exact Below.grown (by repeat (first | (with_reducible exact Below.refl _ _) | (with_reducible refine Below.setCell ?_ ?_ _) | (with_reducible refine Below.alloc ?_ ?_ _) | (with_reducible refine Below.drewN ?_ _) | (with_reducible refine Below.drew ?_) | (with_reducible exact Nat.le_refl _) | (focus (simp only [World.size_alloc, World.size_setCell, World.size_drew, World.size_drewN]; omega)) | omega | exact Nat.le_refl _ | (focus (simp; done)) | (focus (simp; omega)))) HG.out (by simp; omega) (by simp [Value.ownBlock])
end Go.Proofs.Ytigkcbnlbdiimaa
