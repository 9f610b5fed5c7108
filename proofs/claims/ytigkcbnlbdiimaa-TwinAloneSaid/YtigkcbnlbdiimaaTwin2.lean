/- Package twin: what is read off a pair; no pair. -/
import Derived.Test.YtigkcbnlbdiimaaTwin
namespace Go.Proofs.Ytigkcbnlbdiimaa
open Go.RowKit
def Pr.new : Pr := ⟨⟨true, []⟩, ⟨true, []⟩, false, 1, 0⟩
set_option maxRecDepth 100000 in
set_option maxHeartbeats 1000000 in
theorem twin_new (w : World) : Calls Try.prog 25 #[] w fun e w' => e = .returned (.pointer (some ⟨w.heap.size, 0, none⟩)) ∧ PairAt w' w.heap.size w.heap.size (.slice none 0 0) (.slice none 0 0) Pr.new ∧ Below w.heap.size w w' := by
  go_enter Try.func25, Try.ntmps25
  go_wp2
  go_ret
  exact ⟨rfl, ⟨heap_alloc_new _ _, World.ownsRow_nil _ _ _ _, World.ownsRow_nil _ _ _ _, Nat.le_refl _, by simp [Value.ownBlock], by simp [Value.ownBlock], by simp [Value.ownBlock]⟩, (by repeat (first | (with_reducible exact Below.refl _ _) | (with_reducible refine Below.setCell ?_ ?_ _) | (with_reducible refine Below.alloc ?_ ?_ _) | (with_reducible refine Below.drewN ?_ _) | (with_reducible refine Below.drew ?_) | (with_reducible exact Nat.le_refl _) | (focus (simp only [World.size_alloc, World.size_setCell, World.size_drew, World.size_drewN]; omega)) | omega | exact Nat.le_refl _ | (focus (simp; done)) | (focus (simp; omega))))⟩
set_option maxRecDepth 100000 in
set_option maxHeartbeats 1000000 in
theorem lead_any (base bp : Nat) (va vb : Value) (p : Pr) (w : World) (h : PairAt w base bp va vb p) :
    Calls Try.prog 26 #[.pointer (some ⟨bp, 0, none⟩)] w fun e w' => e = .returned (.tuple #[.int .i64 p.ld, .int .i64 p.term]) ∧ w.drew = w' := by
  obtain ⟨_, _, _, _, k4, k5, _, _⟩ := h.cell
  clear h
  generalize p.ld = ld at *
  generalize p.term = tm at *
  go_enter Try.func26, Try.ntmps26
  go_wp2_with fail
  refine wp_region_now0 [3, 7] [(0, 0), (1, 0), (2, 0), (3, 2), (4, 0), (5, 0), (6, 0), (7, 2), (8, 0), (9, 0)] (by kernel_rfl) (by kernel_rfl) rfl (by kernel_rfl) ?_
  refine stepE0 rfl rfl (fun K hK => ?_)
  go_simp
  refine hK _ ?_
  clear hK K
  refine stepE0 rfl rfl (fun K hK => ?_)
  go_simp
  refine hK _ ?_
  clear hK K
  refine stepE0 rfl rfl (fun K hK => ?_)
  go_simp
  refine hK _ ?_
  clear hK K
  refine stepE2 rfl rfl ?_ (fun w1 hS => ?_) (fun K hK => ?_)
  rotate_left
  focus (obtain rfl : w1 = _ := hS; go_simp; rfl)
  go_simp
  refine hK _ ?_
  clear hK K
  refine stepE0 rfl rfl (fun K hK => ?_)
  go_simp
  refine hK _ ?_
  clear hK K
  refine stepE0 rfl rfl (fun K hK => ?_)
  go_simp
  refine hK _ ?_
  clear hK K
  refine stepE0 rfl rfl (fun K hK => ?_)
  go_simp
  refine hK _ ?_
  clear hK K
  refine stepE2 rfl rfl ?_ (fun w1 hS => ?_) (fun K hK => ?_)
  rotate_left
  focus (obtain rfl : w1 = _ := hS; go_simp; rfl)
  go_simp
  refine hK _ ?_
  clear hK K
  refine stepE0 rfl rfl (fun K hK => ?_)
  go_simp
  refine hK _ ?_
  clear hK K
  refine stepE0 rfl rfl (fun K hK => ?_)
  go_simp
  refine hK _ ?_
  clear hK K
  try refine stepEnil0 ?_
  go_wp2_with fail
  go_ret2
  exact ⟨rfl, rfl⟩
set_option maxRecDepth 100000 in
set_option maxHeartbeats 1000000 in
theorem settled_any (base bp : Nat) (va vb : Value) (p : Pr) (w : World) (h : PairAt w base bp va vb p) :
    Calls Try.prog 28 #[.pointer (some ⟨bp, 0, none⟩)] w fun e w' => e = .returned (.int .i64 p.settled) ∧ w = w' := by
  obtain ⟨_, _, _, _, k4, k5, k6, _⟩ := h.cell
  clear h
  generalize p.settled = tm at *
  go_enter Try.func28, Try.ntmps28
  go_wp2
  go_ret
  exact ⟨rfl, rfl⟩
set_option maxRecDepth 100000 in
set_option maxHeartbeats 1000000 in
theorem logs_any (base bp : Nat) (va vb : Value) (p : Pr) (w : World) (h : PairAt w base bp va vb p) :
    Calls Try.prog 31 #[.pointer (some ⟨bp, 0, none⟩)] w fun e w' => e = .returned (.tuple #[.int .i64 p.a.log.length, .int .i64 p.b.log.length]) ∧ w.drew = w' := by
  obtain ⟨_, k1, _, k3, _, _, _, _⟩ := h.cell
  obtain ⟨aa, ca, rfl⟩ := ownsRow_len h.ra
  obtain ⟨ab, cb, rfl⟩ := ownsRow_len h.rb
  clear h
  generalize p.a.log.length = n at *
  generalize p.b.log.length = m at *
  go_enter Try.func31, Try.ntmps31
  go_wp2_with fail
  refine wp_region_now0 [5, 12] [(0, 0), (1, 0), (2, 0), (3, 0), (4, 0), (5, 2), (6, 0), (7, 0), (8, 0), (9, 0), (10, 0), (11, 0), (12, 2), (13, 0), (14, 0), (15, 0)] (by kernel_rfl) (by kernel_rfl) rfl (by kernel_rfl) ?_
  refine stepE0 rfl rfl (fun K hK => ?_)
  go_simp
  refine hK _ ?_
  clear hK K
  refine stepE0 rfl rfl (fun K hK => ?_)
  go_simp
  refine hK _ ?_
  clear hK K
  refine stepE0 rfl rfl (fun K hK => ?_)
  go_simp
  refine hK _ ?_
  clear hK K
  refine stepE0 rfl rfl (fun K hK => ?_)
  go_simp
  refine hK _ ?_
  clear hK K
  refine stepE0 rfl rfl (fun K hK => ?_)
  go_simp
  refine hK _ ?_
  clear hK K
  refine stepE2 rfl rfl ?_ (fun w1 hS => ?_) (fun K hK => ?_)
  rotate_left
  focus (obtain rfl : w1 = _ := hS; go_simp; rfl)
  go_simp
  refine hK _ ?_
  clear hK K
  refine stepE0 rfl rfl (fun K hK => ?_)
  go_simp
  refine hK _ ?_
  clear hK K
  refine stepE0 rfl rfl (fun K hK => ?_)
  go_simp
  refine hK _ ?_
  clear hK K
  refine stepE0 rfl rfl (fun K hK => ?_)
  go_simp
  refine hK _ ?_
  clear hK K
  refine stepE0 rfl rfl (fun K hK => ?_)
  go_simp
  refine hK _ ?_
  clear hK K
  refine stepE0 rfl rfl (fun K hK => ?_)
  go_simp
  refine hK _ ?_
  clear hK K
  refine stepE0 rfl rfl (fun K hK => ?_)
  go_simp
  refine hK _ ?_
  clear hK K
  refine stepE2 rfl rfl ?_ (fun w1 hS => ?_) (fun K hK => ?_)
  rotate_left
  focus (obtain rfl : w1 = _ := hS; go_simp; rfl)
  go_simp
  refine hK _ ?_
  clear hK K
  refine stepE0 rfl rfl (fun K hK => ?_)
  go_simp
  refine hK _ ?_
  clear hK K
  refine stepE0 rfl rfl (fun K hK => ?_)
  go_simp
  refine hK _ ?_
  clear hK K
  refine stepE0 rfl rfl (fun K hK => ?_)
  go_simp
  refine hK _ ?_
  clear hK K
  try refine stepEnil0 ?_
  go_wp2_with fail
  go_ret2
  exact ⟨rfl, rfl⟩
def sideI (s : Bool) : Int := if s then 1 else 0
set_option maxHeartbeats 400000 in
theorem right_ok (bp : Nat) (s : Bool) (w : World) : Calls Try.prog 64 #[.pointer (some ⟨bp, 0, none⟩), .int .i64 (sideI s)] w fun e w' => e = .returned .nilIface ∧ w = w' := by
  cases s
  all_goals
    simp only [sideI, if_true, if_false, Bool.false_eq_true]
    go_enter Try.func64, Try.ntmps64
    go_wp2
    go_ret
    exact ⟨rfl, rfl⟩
set_option maxHeartbeats 400000 in
theorem right_bad (bp : Nat) (n : Int) (h : n < 0 ∨ 2 ≤ n) (w : World) : Calls Try.prog 64 #[.pointer (some ⟨bp, 0, none⟩), .int .i64 n] w fun e w' => e = .returned (.iface 106 (.int .i64 1)) ∧ w = w' := by
  by_cases h0 : n < 0
  · clear h
    go_enter Try.func64, Try.ntmps64
    go_wp2
    go_ret
    exact ⟨rfl, rfl⟩
  · have h2 : 2 ≤ n := by omega
    have h3 : 0 ≤ n := by omega
    clear h
    go_enter Try.func64, Try.ntmps64
    go_wp2
    go_ret
    exact ⟨rfl, rfl⟩
set_option maxHeartbeats 400000 in
theorem right_nil (n : Int) (w : World) : Calls Try.prog 64 #[.pointer none, .int .i64 n] w fun e w' => e = .returned (.iface 106 (.int .i64 15)) ∧ w = w' := by
  go_enter Try.func64, Try.ntmps64
  go_wp2
  go_ret
  exact ⟨rfl, rfl⟩
set_option maxHeartbeats 400000 in
theorem ask_nil (t : Int) (c : Cmd) (w : World) : Calls Try.prog 30 #[.pointer none, .int .i64 t, .agg #[.int .i64 c.kind, .int .i64 c.vol, .int .i64 c.epoch, .int .i64 c.spot, .int .i64 c.node, .int .i64 c.n0, .int .i64 c.n1, .int .i64 c.n2]] w
    fun e w' => e = .returned (.tuple #[.int .i64 0, errV 15]) ∧ Below w.heap.size w w' := by
  obtain ⟨ck, cv, ce, cs, cn, c0, c1, c2⟩ := c
  go_enter Try.func30, Try.ntmps30
  go_wp2
  go_ret2
  exact ⟨by rw [errV_ne (by omega)]; rfl, (by repeat (first | (with_reducible exact Below.refl _ _) | (with_reducible refine Below.setCell ?_ ?_ _) | (with_reducible refine Below.alloc ?_ ?_ _) | (with_reducible refine Below.drewN ?_ _) | (with_reducible refine Below.drew ?_) | (with_reducible exact Nat.le_refl _) | (focus (simp only [World.size_alloc, World.size_setCell, World.size_drew, World.size_drewN]; omega)) | omega | exact Nat.le_refl _ | (focus (simp; done)) | (focus (simp; omega))))⟩
set_option maxHeartbeats 400000 in
theorem ship_nil (t : Int) (w : World) : Calls Try.prog 32 #[.pointer none, .int .i64 t] w fun e w' => e = .returned (errV 15) ∧ w = w' := by
  go_enter Try.func32, Try.ntmps32
  go_wp2
  go_ret
  exact ⟨by rw [errV_ne (by omega)]; rfl, rfl⟩
set_option maxHeartbeats 400000 in
theorem fall_nil (t : Int) (w : World) : Calls Try.prog 33 #[.pointer none, .int .i64 t] w fun e w' => e = .returned (errV 15) ∧ w = w' := by
  go_enter Try.func33, Try.ntmps33
  go_wp2_with (go_at_call 64; refine (right_nil _ _).mono ?_; rintro e w' ⟨rfl, rfl⟩)
  go_ret
  exact ⟨by rw [errV_ne (by omega)]; rfl, rfl⟩
set_option maxHeartbeats 400000 in
theorem rise_nil (t : Int) (w : World) : Calls Try.prog 34 #[.pointer none, .int .i64 t] w fun e w' => e = .returned (errV 15) ∧ w = w' := by
  go_enter Try.func34, Try.ntmps34
  go_wp2_with (go_at_call 64; refine (right_nil _ _).mono ?_; rintro e w' ⟨rfl, rfl⟩)
  go_ret
  exact ⟨by rw [errV_ne (by omega)]; rfl, rfl⟩
set_option maxHeartbeats 400000 in
theorem map_nil (t : Int) (w : World) : Calls Try.prog 35 #[.pointer none, .int .i64 t] w fun e w' => e = .returned (.pointer none) ∧ w = w' := by
  go_enter Try.func35, Try.ntmps35
  go_wp2_with (go_at_call 64; refine (right_nil _ _).mono ?_; rintro e w' ⟨rfl, rfl⟩)
  go_ret
  exact ⟨rfl, rfl⟩
set_option maxHeartbeats 400000 in
theorem answer_nil (t : Int) (w : World) : Calls Try.prog 29 #[.pointer none, .int .i64 t] w fun e w' => e = .returned (.tuple #[.int .i64 0, errV 15]) ∧ w = w' := by
  go_enter Try.func29, Try.ntmps29
  go_wp2
  go_ret2
  exact ⟨by rw [errV_ne (by omega)]; rfl, rfl⟩
set_option maxHeartbeats 400000 in
theorem lead_nil (w : World) : Calls Try.prog 26 #[.pointer none] w fun e w' => e = .returned (.tuple #[.int .i64 0, .int .i64 0]) ∧ w = w' := by
  go_enter Try.func26, Try.ntmps26
  go_wp2
  go_ret2
  exact ⟨rfl, rfl⟩
set_option maxHeartbeats 400000 in
theorem logs_nil (w : World) : Calls Try.prog 31 #[.pointer none] w fun e w' => e = .returned (.tuple #[.int .i64 0, .int .i64 0]) ∧ w = w' := by
  go_enter Try.func31, Try.ntmps31
  go_wp2
  go_ret2
  exact ⟨rfl, rfl⟩
set_option maxHeartbeats 400000 in
theorem settled_nil (w : World) : Calls Try.prog 28 #[.pointer none] w fun e w' => e = .returned (.int .i64 0) ∧ w = w' := by
  go_enter Try.func28, Try.ntmps28
  go_wp2
  go_ret
  exact ⟨rfl, rfl⟩
end Go.Proofs.Ytigkcbnlbdiimaa
