/- Joined texts: Ref20b, Ref20c, Ref20d. -/
import Derived.Test.YtigkcbnlbdiimaaPl4
/- corncribref20.Do: where nothing changes. -/
namespace Go.Proofs.Ytigkcbnlbdiimaa
open Go.RowKit
set_option maxRecDepth 100000 in
set_option maxHeartbeats 2000000 in
theorem rsame_0_0 (aA aB : Option Addr) (cA cB : Nat) (la lb : List Cmd) (uB : Bool) (tm st t s ck cv ce cp cn c0 c1 c2 : Int) (w : World) :
    Calls Try.prog 37 #[.agg #[.slice aA la.length cA, .slice aB lb.length cB, .bool false, .bool uB, .int .i64 0, .int .i64 tm, .int .i64 st], .agg #[.int .i64 0, .int .i64 t, .int .i64 s, .int .i64 ck, .int .i64 cv, .int .i64 ce, .int .i64 cp, .int .i64 cn, .int .i64 c0, .int .i64 c1, .int .i64 c2]] w
      fun e w' => e = .returned (.tuple #[.agg #[.slice aA la.length cA, .slice aB lb.length cB, .bool false, .bool uB, .int .i64 0, .int .i64 tm, .int .i64 st], .int .i64 0, .int .i64 12]) ∧ Below w.heap.size w w' := by
  go_enter Try.func37, Try.ntmps37
  go_wp2_with fail
  refine wp_region_now0 [1, 3] [(0, 0), (1, 2), (2, 0), (3, 2), (4, 0), (5, 0), (6, 0)] (by kernel_rfl) (by kernel_rfl) rfl (by kernel_rfl) ?_
  refine stepE0 rfl rfl (fun K hK => ?_)
  go_simp
  refine hK _ ?_
  clear hK K
  refine stepE2 rfl rfl ?_ (fun w1 hS => ?_) (fun K hK => ?_)
  rotate_left
  focus (obtain rfl : w1 = _ := hS; go_simp; rfl)
  go_simp
  refine hK _ ?_
  clear hK K
  refine stepE0 rfl rfl (fun K hK => ?_)
  go_simp
  refine hK _ ?_
  clear hK K
  refine stepE2 rfl rfl ?_ (fun w1 hS => ?_) (fun K hK => ?_)
  rotate_left
  focus (obtain rfl : w1 = _ := hS; go_simp; rfl)
  go_simp
  refine hK _ ?_
  clear hK K
  refine stepE0 rfl rfl (fun K hK => ?_)
  go_simp
  refine hK _ ?_
  clear hK K
  refine stepE0 rfl rfl (fun K hK => ?_)
  go_simp
  refine hK _ ?_
  clear hK K
  refine stepE0 rfl rfl (fun K hK => ?_)
  go_simp
  refine hK _ ?_
  clear hK K
  try refine stepEnil0 ?_
  go_wp2_with fail
  obtain ⟨SS, HSD⟩ : ∃ SS : World → Prop, Hid (SS = fun w' => w'.cell? ⟨w.heap.size, 0, none⟩ = some (.slice aA la.length cA) ∧ w'.cell? ⟨w.heap.size, 1, none⟩ = some (.slice aB lb.length cB) ∧ w'.cell? ⟨w.heap.size, 2, none⟩ = some (.bool false) ∧ w'.cell? ⟨w.heap.size, 3, none⟩ = some (.bool uB) ∧ w'.cell? ⟨w.heap.size, 4, none⟩ = some (.int .i64 0) ∧ w'.cell? ⟨w.heap.size, 5, none⟩ = some (.int .i64 tm) ∧ w'.cell? ⟨w.heap.size, 6, none⟩ = some (.int .i64 st)) := ⟨_, Lib.hid rfl⟩
  refine wp_region_order0 SS [0, 3] [(0, 2), (1, 0), (3, 2), (4, 0), (2, 1), (5, 1), (6, 0), (7, 0)] (by kernel_rfl) (by kernel_rfl) rfl (by kernel_rfl) ?_ ?_
  focus (rw [HSD.out]; refine ⟨?_, ?_, ?_, ?_, ?_, ?_, ?_⟩ <;> go_simp)
  refine stepE2 rfl rfl ?_ (fun w1 hS => ?_) (fun K hK => ?_)
  rotate_left
  focus (rw [HSD.out] at hS; obtain ⟨s0, s1, s2, s3, s4, s5, s6⟩ := hS; go_simp; rfl)
  go_simp
  refine hK _ ?_
  clear hK K
  refine stepE0 rfl rfl (fun K hK => ?_)
  go_simp
  refine hK _ ?_
  clear hK K
  refine stepE2 rfl rfl ?_ (fun w1 hS => ?_) (fun K hK => ?_)
  rotate_left
  focus (rw [HSD.out] at hS; obtain ⟨s0, s1, s2, s3, s4, s5, s6⟩ := hS; go_simp; rfl)
  go_simp
  refine hK _ ?_
  clear hK K
  refine stepE0 rfl rfl (fun K hK => ?_)
  go_simp
  refine hK _ ?_
  clear hK K
  refine stepE1S rfl rfl (fun K hK => ?_)
  (go_wp2_with fail; refine Calls.mono (rlog_0 _ _ _ _ _ _ _ _ _ _ _ _) ?_; rintro e w2 ⟨rfl, rfl⟩; go_wp2)
  refine ⟨by rw [HSD.out]; exact (by refine ⟨?_, ?_, ?_, ?_, ?_, ?_, ?_⟩ <;> go_simp), ?_⟩
  refine stepE1 rfl rfl (by kernel_rfl) (fun K hK => ?_)
  (go_wp2_with fail; refine Calls.mono (rlog_1 _ _ _ _ _ _ _ _ _ _ _ _) ?_; rintro e w2 ⟨rfl, rfl⟩; go_wp2)
  refine stepE0 rfl rfl (fun K hK => ?_)
  go_simp
  refine hK _ ?_
  clear hK K
  refine stepE0 rfl rfl (fun K hK => ?_)
  go_simp
  refine hK _ ?_
  clear hK K
  try refine stepEnil0 ?_
  clear HSD SS
  go_wp2_with fail
  refine bodyPost_ret (v := .tuple #[.agg #[.slice aA la.length cA, .slice aB lb.length cB, .bool false, .bool uB, .int .i64 0, .int .i64 tm, .int .i64 st], .int .i64 0, .int .i64 12]) ?_ rfl ?_
  · simp [results, Try.results37, go_sem]
  · exact ⟨rfl, (by repeat (first | (with_reducible exact Below.refl _ _) | (with_reducible refine Below.setCell ?_ ?_ _) | (with_reducible refine Below.alloc ?_ ?_ _) | (with_reducible refine Below.drewN ?_ _) | (with_reducible refine Below.drew ?_) | (with_reducible exact Nat.le_refl _) | (focus (simp only [World.size_alloc, World.size_setCell, World.size_drew, World.size_drewN]; omega)) | omega | exact Nat.le_refl _ | (focus (simp; done)) | (focus (simp; omega))))⟩
set_option maxRecDepth 100000 in
set_option maxHeartbeats 2000000 in
theorem rsame_0_1 (aA aB : Option Addr) (cA cB : Nat) (la lb : List Cmd) (uB : Bool) (tm st t s ck cv ce cp cn c0 c1 c2 : Int) (w : World) (h1 : (t != tm) = true) :
    Calls Try.prog 37 #[.agg #[.slice aA la.length cA, .slice aB lb.length cB, .bool true, .bool uB, .int .i64 0, .int .i64 tm, .int .i64 st], .agg #[.int .i64 0, .int .i64 t, .int .i64 s, .int .i64 ck, .int .i64 cv, .int .i64 ce, .int .i64 cp, .int .i64 cn, .int .i64 c0, .int .i64 c1, .int .i64 c2]] w
      fun e w' => e = .returned (.tuple #[.agg #[.slice aA la.length cA, .slice aB lb.length cB, .bool true, .bool uB, .int .i64 0, .int .i64 tm, .int .i64 st], .int .i64 0, .int .i64 13]) ∧ Below w.heap.size w w' := by
  go_enter Try.func37, Try.ntmps37
  go_wp2_with fail
  refine wp_region_now0 [1, 3] [(0, 0), (1, 2), (2, 0), (3, 2), (4, 0), (5, 0), (6, 0)] (by kernel_rfl) (by kernel_rfl) rfl (by kernel_rfl) ?_
  refine stepE0 rfl rfl (fun K hK => ?_)
  go_simp
  refine hK _ ?_
  clear hK K
  refine stepE2 rfl rfl ?_ (fun w1 hS => ?_) (fun K hK => ?_)
  rotate_left
  focus (obtain rfl : w1 = _ := hS; go_simp; rfl)
  go_simp
  refine hK _ ?_
  clear hK K
  refine stepE0 rfl rfl (fun K hK => ?_)
  go_simp
  refine hK _ ?_
  clear hK K
  refine stepE2 rfl rfl ?_ (fun w1 hS => ?_) (fun K hK => ?_)
  rotate_left
  focus (obtain rfl : w1 = _ := hS; go_simp; rfl)
  go_simp
  refine hK _ ?_
  clear hK K
  refine stepE0 rfl rfl (fun K hK => ?_)
  go_simp
  refine hK _ ?_
  clear hK K
  refine stepE0 rfl rfl (fun K hK => ?_)
  go_simp
  refine hK _ ?_
  clear hK K
  refine stepE0 rfl rfl (fun K hK => ?_)
  go_simp
  refine hK _ ?_
  clear hK K
  try refine stepEnil0 ?_
  go_wp2_with fail
  obtain ⟨SS, HSD⟩ : ∃ SS : World → Prop, Hid (SS = fun w' => w'.cell? ⟨w.heap.size, 0, none⟩ = some (.slice aA la.length cA) ∧ w'.cell? ⟨w.heap.size, 1, none⟩ = some (.slice aB lb.length cB) ∧ w'.cell? ⟨w.heap.size, 2, none⟩ = some (.bool true) ∧ w'.cell? ⟨w.heap.size, 3, none⟩ = some (.bool uB) ∧ w'.cell? ⟨w.heap.size, 4, none⟩ = some (.int .i64 0) ∧ w'.cell? ⟨w.heap.size, 5, none⟩ = some (.int .i64 tm) ∧ w'.cell? ⟨w.heap.size, 6, none⟩ = some (.int .i64 st)) := ⟨_, Lib.hid rfl⟩
  refine wp_region_order0 SS [0, 3] [(0, 2), (1, 0), (3, 2), (4, 0), (2, 1), (5, 1), (6, 0), (7, 0)] (by kernel_rfl) (by kernel_rfl) rfl (by kernel_rfl) ?_ ?_
  focus (rw [HSD.out]; refine ⟨?_, ?_, ?_, ?_, ?_, ?_, ?_⟩ <;> go_simp)
  refine stepE2 rfl rfl ?_ (fun w1 hS => ?_) (fun K hK => ?_)
  rotate_left
  focus (rw [HSD.out] at hS; obtain ⟨s0, s1, s2, s3, s4, s5, s6⟩ := hS; go_simp; rfl)
  go_simp
  refine hK _ ?_
  clear hK K
  refine stepE0 rfl rfl (fun K hK => ?_)
  go_simp
  refine hK _ ?_
  clear hK K
  refine stepE2 rfl rfl ?_ (fun w1 hS => ?_) (fun K hK => ?_)
  rotate_left
  focus (rw [HSD.out] at hS; obtain ⟨s0, s1, s2, s3, s4, s5, s6⟩ := hS; go_simp; rfl)
  go_simp
  refine hK _ ?_
  clear hK K
  refine stepE0 rfl rfl (fun K hK => ?_)
  go_simp
  refine hK _ ?_
  clear hK K
  refine stepE1S rfl rfl (fun K hK => ?_)
  (go_wp2_with fail; refine Calls.mono (rlog_0 _ _ _ _ _ _ _ _ _ _ _ _) ?_; rintro e w2 ⟨rfl, rfl⟩; go_wp2)
  refine ⟨by rw [HSD.out]; exact (by refine ⟨?_, ?_, ?_, ?_, ?_, ?_, ?_⟩ <;> go_simp), ?_⟩
  refine stepE1 rfl rfl (by kernel_rfl) (fun K hK => ?_)
  (go_wp2_with fail; refine Calls.mono (rlog_1 _ _ _ _ _ _ _ _ _ _ _ _) ?_; rintro e w2 ⟨rfl, rfl⟩; go_wp2)
  refine stepE0 rfl rfl (fun K hK => ?_)
  go_simp
  refine hK _ ?_
  clear hK K
  refine stepE0 rfl rfl (fun K hK => ?_)
  go_simp
  refine hK _ ?_
  clear hK K
  try refine stepEnil0 ?_
  clear HSD SS
  go_wp2_with fail
  refine bodyPost_ret (v := .tuple #[.agg #[.slice aA la.length cA, .slice aB lb.length cB, .bool true, .bool uB, .int .i64 0, .int .i64 tm, .int .i64 st], .int .i64 0, .int .i64 13]) ?_ rfl ?_
  · simp [results, Try.results37, go_sem]
  · exact ⟨rfl, (by repeat (first | (with_reducible exact Below.refl _ _) | (with_reducible refine Below.setCell ?_ ?_ _) | (with_reducible refine Below.alloc ?_ ?_ _) | (with_reducible refine Below.drewN ?_ _) | (with_reducible refine Below.drew ?_) | (with_reducible exact Nat.le_refl _) | (focus (simp only [World.size_alloc, World.size_setCell, World.size_drew, World.size_drewN]; omega)) | omega | exact Nat.le_refl _ | (focus (simp; done)) | (focus (simp; omega))))⟩
set_option maxRecDepth 100000 in
set_option maxHeartbeats 2000000 in
theorem rsame_0_2 (aA aB : Option Addr) (cA cB : Nat) (la lb : List Cmd)  (tm st t s ck cv ce cp cn c0 c1 c2 : Int) (w : World) :
    Calls Try.prog 37 #[.agg #[.slice aA la.length cA, .slice aB lb.length cB, .bool false, .bool false, .int .i64 0, .int .i64 tm, .int .i64 st], .agg #[.int .i64 1, .int .i64 t, .int .i64 s, .int .i64 ck, .int .i64 cv, .int .i64 ce, .int .i64 cp, .int .i64 cn, .int .i64 c0, .int .i64 c1, .int .i64 c2]] w
      fun e w' => e = .returned (.tuple #[.agg #[.slice aA la.length cA, .slice aB lb.length cB, .bool false, .bool false, .int .i64 0, .int .i64 tm, .int .i64 st], .int .i64 0, .int .i64 12]) ∧ Below w.heap.size w w' := by
  go_enter Try.func37, Try.ntmps37
  go_wp2_with fail
  refine wp_region_now0 [1, 3] [(0, 0), (1, 2), (2, 0), (3, 2), (4, 0), (5, 0), (6, 0)] (by kernel_rfl) (by kernel_rfl) rfl (by kernel_rfl) ?_
  refine stepE0 rfl rfl (fun K hK => ?_)
  go_simp
  refine hK _ ?_
  clear hK K
  refine stepE2 rfl rfl ?_ (fun w1 hS => ?_) (fun K hK => ?_)
  rotate_left
  focus (obtain rfl : w1 = _ := hS; go_simp; rfl)
  go_simp
  refine hK _ ?_
  clear hK K
  refine stepE0 rfl rfl (fun K hK => ?_)
  go_simp
  refine hK _ ?_
  clear hK K
  refine stepE2 rfl rfl ?_ (fun w1 hS => ?_) (fun K hK => ?_)
  rotate_left
  focus (obtain rfl : w1 = _ := hS; go_simp; rfl)
  go_simp
  refine hK _ ?_
  clear hK K
  refine stepE0 rfl rfl (fun K hK => ?_)
  go_simp
  refine hK _ ?_
  clear hK K
  refine stepE0 rfl rfl (fun K hK => ?_)
  go_simp
  refine hK _ ?_
  clear hK K
  refine stepE0 rfl rfl (fun K hK => ?_)
  go_simp
  refine hK _ ?_
  clear hK K
  try refine stepEnil0 ?_
  go_wp2_with fail
  obtain ⟨SS, HSD⟩ : ∃ SS : World → Prop, Hid (SS = fun w' => w'.cell? ⟨w.heap.size, 0, none⟩ = some (.slice aA la.length cA) ∧ w'.cell? ⟨w.heap.size, 1, none⟩ = some (.slice aB lb.length cB) ∧ w'.cell? ⟨w.heap.size, 2, none⟩ = some (.bool false) ∧ w'.cell? ⟨w.heap.size, 3, none⟩ = some (.bool false) ∧ w'.cell? ⟨w.heap.size, 4, none⟩ = some (.int .i64 0) ∧ w'.cell? ⟨w.heap.size, 5, none⟩ = some (.int .i64 tm) ∧ w'.cell? ⟨w.heap.size, 6, none⟩ = some (.int .i64 st)) := ⟨_, Lib.hid rfl⟩
  refine wp_region_order0 SS [0, 3] [(0, 2), (1, 0), (3, 2), (4, 0), (2, 1), (5, 1), (6, 0), (7, 0)] (by kernel_rfl) (by kernel_rfl) rfl (by kernel_rfl) ?_ ?_
  focus (rw [HSD.out]; refine ⟨?_, ?_, ?_, ?_, ?_, ?_, ?_⟩ <;> go_simp)
  refine stepE2 rfl rfl ?_ (fun w1 hS => ?_) (fun K hK => ?_)
  rotate_left
  focus (rw [HSD.out] at hS; obtain ⟨s0, s1, s2, s3, s4, s5, s6⟩ := hS; go_simp; rfl)
  go_simp
  refine hK _ ?_
  clear hK K
  refine stepE0 rfl rfl (fun K hK => ?_)
  go_simp
  refine hK _ ?_
  clear hK K
  refine stepE2 rfl rfl ?_ (fun w1 hS => ?_) (fun K hK => ?_)
  rotate_left
  focus (rw [HSD.out] at hS; obtain ⟨s0, s1, s2, s3, s4, s5, s6⟩ := hS; go_simp; rfl)
  go_simp
  refine hK _ ?_
  clear hK K
  refine stepE0 rfl rfl (fun K hK => ?_)
  go_simp
  refine hK _ ?_
  clear hK K
  refine stepE1S rfl rfl (fun K hK => ?_)
  (go_wp2_with fail; refine Calls.mono (rlog_0 _ _ _ _ _ _ _ _ _ _ _ _) ?_; rintro e w2 ⟨rfl, rfl⟩; go_wp2)
  refine ⟨by rw [HSD.out]; exact (by refine ⟨?_, ?_, ?_, ?_, ?_, ?_, ?_⟩ <;> go_simp), ?_⟩
  refine stepE1 rfl rfl (by kernel_rfl) (fun K hK => ?_)
  (go_wp2_with fail; refine Calls.mono (rlog_1 _ _ _ _ _ _ _ _ _ _ _ _) ?_; rintro e w2 ⟨rfl, rfl⟩; go_wp2)
  refine stepE0 rfl rfl (fun K hK => ?_)
  go_simp
  refine hK _ ?_
  clear hK K
  refine stepE0 rfl rfl (fun K hK => ?_)
  go_simp
  refine hK _ ?_
  clear hK K
  try refine stepEnil0 ?_
  clear HSD SS
  go_wp2_with fail
  refine bodyPost_ret (v := .tuple #[.agg #[.slice aA la.length cA, .slice aB lb.length cB, .bool false, .bool false, .int .i64 0, .int .i64 tm, .int .i64 st], .int .i64 0, .int .i64 12]) ?_ rfl ?_
  · simp [results, Try.results37, go_sem]
  · exact ⟨rfl, (by repeat (first | (with_reducible exact Below.refl _ _) | (with_reducible refine Below.setCell ?_ ?_ _) | (with_reducible refine Below.alloc ?_ ?_ _) | (with_reducible refine Below.drewN ?_ _) | (with_reducible refine Below.drew ?_) | (with_reducible exact Nat.le_refl _) | (focus (simp only [World.size_alloc, World.size_setCell, World.size_drew, World.size_drewN]; omega)) | omega | exact Nat.le_refl _ | (focus (simp; done)) | (focus (simp; omega))))⟩
set_option maxRecDepth 100000 in
set_option maxHeartbeats 2000000 in
theorem rsame_0_3 (aA aB : Option Addr) (cA cB : Nat) (la lb : List Cmd)  (tm st t s ck cv ce cp cn c0 c1 c2 : Int) (w : World) :
    Calls Try.prog 37 #[.agg #[.slice aA la.length cA, .slice aB lb.length cB, .bool true, .bool false, .int .i64 0, .int .i64 tm, .int .i64 st], .agg #[.int .i64 1, .int .i64 t, .int .i64 s, .int .i64 ck, .int .i64 cv, .int .i64 ce, .int .i64 cp, .int .i64 cn, .int .i64 c0, .int .i64 c1, .int .i64 c2]] w
      fun e w' => e = .returned (.tuple #[.agg #[.slice aA la.length cA, .slice aB lb.length cB, .bool true, .bool false, .int .i64 0, .int .i64 tm, .int .i64 st], .int .i64 0, .int .i64 12]) ∧ Below w.heap.size w w' := by
  go_enter Try.func37, Try.ntmps37
  go_wp2_with fail
  refine wp_region_now0 [1, 3] [(0, 0), (1, 2), (2, 0), (3, 2), (4, 0), (5, 0), (6, 0)] (by kernel_rfl) (by kernel_rfl) rfl (by kernel_rfl) ?_
  refine stepE0 rfl rfl (fun K hK => ?_)
  go_simp
  refine hK _ ?_
  clear hK K
  refine stepE2 rfl rfl ?_ (fun w1 hS => ?_) (fun K hK => ?_)
  rotate_left
  focus (obtain rfl : w1 = _ := hS; go_simp; rfl)
  go_simp
  refine hK _ ?_
  clear hK K
  refine stepE0 rfl rfl (fun K hK => ?_)
  go_simp
  refine hK _ ?_
  clear hK K
  refine stepE2 rfl rfl ?_ (fun w1 hS => ?_) (fun K hK => ?_)
  rotate_left
  focus (obtain rfl : w1 = _ := hS; go_simp; rfl)
  go_simp
  refine hK _ ?_
  clear hK K
  refine stepE0 rfl rfl (fun K hK => ?_)
  go_simp
  refine hK _ ?_
  clear hK K
  refine stepE0 rfl rfl (fun K hK => ?_)
  go_simp
  refine hK _ ?_
  clear hK K
  refine stepE0 rfl rfl (fun K hK => ?_)
  go_simp
  refine hK _ ?_
  clear hK K
  try refine stepEnil0 ?_
  go_wp2_with fail
  obtain ⟨SS, HSD⟩ : ∃ SS : World → Prop, Hid (SS = fun w' => w'.cell? ⟨w.heap.size, 0, none⟩ = some (.slice aA la.length cA) ∧ w'.cell? ⟨w.heap.size, 1, none⟩ = some (.slice aB lb.length cB) ∧ w'.cell? ⟨w.heap.size, 2, none⟩ = some (.bool true) ∧ w'.cell? ⟨w.heap.size, 3, none⟩ = some (.bool false) ∧ w'.cell? ⟨w.heap.size, 4, none⟩ = some (.int .i64 0) ∧ w'.cell? ⟨w.heap.size, 5, none⟩ = some (.int .i64 tm) ∧ w'.cell? ⟨w.heap.size, 6, none⟩ = some (.int .i64 st)) := ⟨_, Lib.hid rfl⟩
  refine wp_region_order0 SS [0, 3] [(0, 2), (1, 0), (3, 2), (4, 0), (2, 1), (5, 1), (6, 0), (7, 0)] (by kernel_rfl) (by kernel_rfl) rfl (by kernel_rfl) ?_ ?_
  focus (rw [HSD.out]; refine ⟨?_, ?_, ?_, ?_, ?_, ?_, ?_⟩ <;> go_simp)
  refine stepE2 rfl rfl ?_ (fun w1 hS => ?_) (fun K hK => ?_)
  rotate_left
  focus (rw [HSD.out] at hS; obtain ⟨s0, s1, s2, s3, s4, s5, s6⟩ := hS; go_simp; rfl)
  go_simp
  refine hK _ ?_
  clear hK K
  refine stepE0 rfl rfl (fun K hK => ?_)
  go_simp
  refine hK _ ?_
  clear hK K
  refine stepE2 rfl rfl ?_ (fun w1 hS => ?_) (fun K hK => ?_)
  rotate_left
  focus (rw [HSD.out] at hS; obtain ⟨s0, s1, s2, s3, s4, s5, s6⟩ := hS; go_simp; rfl)
  go_simp
  refine hK _ ?_
  clear hK K
  refine stepE0 rfl rfl (fun K hK => ?_)
  go_simp
  refine hK _ ?_
  clear hK K
  refine stepE1S rfl rfl (fun K hK => ?_)
  (go_wp2_with fail; refine Calls.mono (rlog_0 _ _ _ _ _ _ _ _ _ _ _ _) ?_; rintro e w2 ⟨rfl, rfl⟩; go_wp2)
  refine ⟨by rw [HSD.out]; exact (by refine ⟨?_, ?_, ?_, ?_, ?_, ?_, ?_⟩ <;> go_simp), ?_⟩
  refine stepE1 rfl rfl (by kernel_rfl) (fun K hK => ?_)
  (go_wp2_with fail; refine Calls.mono (rlog_1 _ _ _ _ _ _ _ _ _ _ _ _) ?_; rintro e w2 ⟨rfl, rfl⟩; go_wp2)
  refine stepE0 rfl rfl (fun K hK => ?_)
  go_simp
  refine hK _ ?_
  clear hK K
  refine stepE0 rfl rfl (fun K hK => ?_)
  go_simp
  refine hK _ ?_
  clear hK K
  try refine stepEnil0 ?_
  clear HSD SS
  go_wp2_with fail
  refine bodyPost_ret (v := .tuple #[.agg #[.slice aA la.length cA, .slice aB lb.length cB, .bool true, .bool false, .int .i64 0, .int .i64 tm, .int .i64 st], .int .i64 0, .int .i64 12]) ?_ rfl ?_
  · simp [results, Try.results37, go_sem]
  · exact ⟨rfl, (by repeat (first | (with_reducible exact Below.refl _ _) | (with_reducible refine Below.setCell ?_ ?_ _) | (with_reducible refine Below.alloc ?_ ?_ _) | (with_reducible refine Below.drewN ?_ _) | (with_reducible refine Below.drew ?_) | (with_reducible exact Nat.le_refl _) | (focus (simp only [World.size_alloc, World.size_setCell, World.size_drew, World.size_drewN]; omega)) | omega | exact Nat.le_refl _ | (focus (simp; done)) | (focus (simp; omega))))⟩
set_option maxRecDepth 100000 in
set_option maxHeartbeats 2000000 in
theorem rsame_0_4 (aA aB : Option Addr) (cA cB : Nat) (la lb : List Cmd)  (tm st t s ck cv ce cp cn c0 c1 c2 : Int) (w : World) (h1 : (t != tm) = true) :
    Calls Try.prog 37 #[.agg #[.slice aA la.length cA, .slice aB lb.length cB, .bool true, .bool true, .int .i64 0, .int .i64 tm, .int .i64 st], .agg #[.int .i64 1, .int .i64 t, .int .i64 s, .int .i64 ck, .int .i64 cv, .int .i64 ce, .int .i64 cp, .int .i64 cn, .int .i64 c0, .int .i64 c1, .int .i64 c2]] w
      fun e w' => e = .returned (.tuple #[.agg #[.slice aA la.length cA, .slice aB lb.length cB, .bool true, .bool true, .int .i64 0, .int .i64 tm, .int .i64 st], .int .i64 0, .int .i64 13]) ∧ Below w.heap.size w w' := by
  go_enter Try.func37, Try.ntmps37
  go_wp2_with fail
  refine wp_region_now0 [1, 3] [(0, 0), (1, 2), (2, 0), (3, 2), (4, 0), (5, 0), (6, 0)] (by kernel_rfl) (by kernel_rfl) rfl (by kernel_rfl) ?_
  refine stepE0 rfl rfl (fun K hK => ?_)
  go_simp
  refine hK _ ?_
  clear hK K
  refine stepE2 rfl rfl ?_ (fun w1 hS => ?_) (fun K hK => ?_)
  rotate_left
  focus (obtain rfl : w1 = _ := hS; go_simp; rfl)
  go_simp
  refine hK _ ?_
  clear hK K
  refine stepE0 rfl rfl (fun K hK => ?_)
  go_simp
  refine hK _ ?_
  clear hK K
  refine stepE2 rfl rfl ?_ (fun w1 hS => ?_) (fun K hK => ?_)
  rotate_left
  focus (obtain rfl : w1 = _ := hS; go_simp; rfl)
  go_simp
  refine hK _ ?_
  clear hK K
  refine stepE0 rfl rfl (fun K hK => ?_)
  go_simp
  refine hK _ ?_
  clear hK K
  refine stepE0 rfl rfl (fun K hK => ?_)
  go_simp
  refine hK _ ?_
  clear hK K
  refine stepE0 rfl rfl (fun K hK => ?_)
  go_simp
  refine hK _ ?_
  clear hK K
  try refine stepEnil0 ?_
  go_wp2_with fail
  obtain ⟨SS, HSD⟩ : ∃ SS : World → Prop, Hid (SS = fun w' => w'.cell? ⟨w.heap.size, 0, none⟩ = some (.slice aA la.length cA) ∧ w'.cell? ⟨w.heap.size, 1, none⟩ = some (.slice aB lb.length cB) ∧ w'.cell? ⟨w.heap.size, 2, none⟩ = some (.bool true) ∧ w'.cell? ⟨w.heap.size, 3, none⟩ = some (.bool true) ∧ w'.cell? ⟨w.heap.size, 4, none⟩ = some (.int .i64 0) ∧ w'.cell? ⟨w.heap.size, 5, none⟩ = some (.int .i64 tm) ∧ w'.cell? ⟨w.heap.size, 6, none⟩ = some (.int .i64 st)) := ⟨_, Lib.hid rfl⟩
  refine wp_region_order0 SS [0, 3] [(0, 2), (1, 0), (3, 2), (4, 0), (2, 1), (5, 1), (6, 0), (7, 0)] (by kernel_rfl) (by kernel_rfl) rfl (by kernel_rfl) ?_ ?_
  focus (rw [HSD.out]; refine ⟨?_, ?_, ?_, ?_, ?_, ?_, ?_⟩ <;> go_simp)
  refine stepE2 rfl rfl ?_ (fun w1 hS => ?_) (fun K hK => ?_)
  rotate_left
  focus (rw [HSD.out] at hS; obtain ⟨s0, s1, s2, s3, s4, s5, s6⟩ := hS; go_simp; rfl)
  go_simp
  refine hK _ ?_
  clear hK K
  refine stepE0 rfl rfl (fun K hK => ?_)
  go_simp
  refine hK _ ?_
  clear hK K
  refine stepE2 rfl rfl ?_ (fun w1 hS => ?_) (fun K hK => ?_)
  rotate_left
  focus (rw [HSD.out] at hS; obtain ⟨s0, s1, s2, s3, s4, s5, s6⟩ := hS; go_simp; rfl)
  go_simp
  refine hK _ ?_
  clear hK K
  refine stepE0 rfl rfl (fun K hK => ?_)
  go_simp
  refine hK _ ?_
  clear hK K
  refine stepE1S rfl rfl (fun K hK => ?_)
  (go_wp2_with fail; refine Calls.mono (rlog_0 _ _ _ _ _ _ _ _ _ _ _ _) ?_; rintro e w2 ⟨rfl, rfl⟩; go_wp2)
  refine ⟨by rw [HSD.out]; exact (by refine ⟨?_, ?_, ?_, ?_, ?_, ?_, ?_⟩ <;> go_simp), ?_⟩
  refine stepE1 rfl rfl (by kernel_rfl) (fun K hK => ?_)
  (go_wp2_with fail; refine Calls.mono (rlog_1 _ _ _ _ _ _ _ _ _ _ _ _) ?_; rintro e w2 ⟨rfl, rfl⟩; go_wp2)
  refine stepE0 rfl rfl (fun K hK => ?_)
  go_simp
  refine hK _ ?_
  clear hK K
  refine stepE0 rfl rfl (fun K hK => ?_)
  go_simp
  refine hK _ ?_
  clear hK K
  try refine stepEnil0 ?_
  clear HSD SS
  go_wp2_with fail
  refine bodyPost_ret (v := .tuple #[.agg #[.slice aA la.length cA, .slice aB lb.length cB, .bool true, .bool true, .int .i64 0, .int .i64 tm, .int .i64 st], .int .i64 0, .int .i64 13]) ?_ rfl ?_
  · simp [results, Try.results37, go_sem]
  · exact ⟨rfl, (by repeat (first | (with_reducible exact Below.refl _ _) | (with_reducible refine Below.setCell ?_ ?_ _) | (with_reducible refine Below.alloc ?_ ?_ _) | (with_reducible refine Below.drewN ?_ _) | (with_reducible refine Below.drew ?_) | (with_reducible exact Nat.le_refl _) | (focus (simp only [World.size_alloc, World.size_setCell, World.size_drew, World.size_drewN]; omega)) | omega | exact Nat.le_refl _ | (focus (simp; done)) | (focus (simp; omega))))⟩
set_option maxRecDepth 100000 in
set_option maxHeartbeats 2000000 in
theorem rsame_0_5 (aA aB : Option Addr) (cA cB : Nat) (la lb : List Cmd)  (tm st t s ck cv ce cp cn c0 c1 c2 : Int) (w : World) (h1 : (t != tm) = false) (h2 : ((lb.length : Int) == (la.length : Int)) = true) :
    Calls Try.prog 37 #[.agg #[.slice aA la.length cA, .slice aB lb.length cB, .bool true, .bool true, .int .i64 0, .int .i64 tm, .int .i64 st], .agg #[.int .i64 1, .int .i64 t, .int .i64 s, .int .i64 ck, .int .i64 cv, .int .i64 ce, .int .i64 cp, .int .i64 cn, .int .i64 c0, .int .i64 c1, .int .i64 c2]] w
      fun e w' => e = .returned (.tuple #[.agg #[.slice aA la.length cA, .slice aB lb.length cB, .bool true, .bool true, .int .i64 0, .int .i64 tm, .int .i64 st], .int .i64 0, .int .i64 6]) ∧ Below w.heap.size w w' := by
  go_enter Try.func37, Try.ntmps37
  go_wp2_with fail
  refine wp_region_now0 [1, 3] [(0, 0), (1, 2), (2, 0), (3, 2), (4, 0), (5, 0), (6, 0)] (by kernel_rfl) (by kernel_rfl) rfl (by kernel_rfl) ?_
  refine stepE0 rfl rfl (fun K hK => ?_)
  go_simp
  refine hK _ ?_
  clear hK K
  refine stepE2 rfl rfl ?_ (fun w1 hS => ?_) (fun K hK => ?_)
  rotate_left
  focus (obtain rfl : w1 = _ := hS; go_simp; rfl)
  go_simp
  refine hK _ ?_
  clear hK K
  refine stepE0 rfl rfl (fun K hK => ?_)
  go_simp
  refine hK _ ?_
  clear hK K
  refine stepE2 rfl rfl ?_ (fun w1 hS => ?_) (fun K hK => ?_)
  rotate_left
  focus (obtain rfl : w1 = _ := hS; go_simp; rfl)
  go_simp
  refine hK _ ?_
  clear hK K
  refine stepE0 rfl rfl (fun K hK => ?_)
  go_simp
  refine hK _ ?_
  clear hK K
  refine stepE0 rfl rfl (fun K hK => ?_)
  go_simp
  refine hK _ ?_
  clear hK K
  refine stepE0 rfl rfl (fun K hK => ?_)
  go_simp
  refine hK _ ?_
  clear hK K
  try refine stepEnil0 ?_
  go_wp2_with fail
  obtain ⟨SS, HSD⟩ : ∃ SS : World → Prop, Hid (SS = fun w' => w'.cell? ⟨w.heap.size, 0, none⟩ = some (.slice aA la.length cA) ∧ w'.cell? ⟨w.heap.size, 1, none⟩ = some (.slice aB lb.length cB) ∧ w'.cell? ⟨w.heap.size, 2, none⟩ = some (.bool true) ∧ w'.cell? ⟨w.heap.size, 3, none⟩ = some (.bool true) ∧ w'.cell? ⟨w.heap.size, 4, none⟩ = some (.int .i64 0) ∧ w'.cell? ⟨w.heap.size, 5, none⟩ = some (.int .i64 tm) ∧ w'.cell? ⟨w.heap.size, 6, none⟩ = some (.int .i64 st)) := ⟨_, Lib.hid rfl⟩
  refine wp_region_order0 SS [0, 3] [(0, 2), (1, 0), (3, 2), (4, 0), (2, 1), (5, 1), (6, 0), (7, 0)] (by kernel_rfl) (by kernel_rfl) rfl (by kernel_rfl) ?_ ?_
  focus (rw [HSD.out]; refine ⟨?_, ?_, ?_, ?_, ?_, ?_, ?_⟩ <;> go_simp)
  refine stepE2 rfl rfl ?_ (fun w1 hS => ?_) (fun K hK => ?_)
  rotate_left
  focus (rw [HSD.out] at hS; obtain ⟨s0, s1, s2, s3, s4, s5, s6⟩ := hS; go_simp; rfl)
  go_simp
  refine hK _ ?_
  clear hK K
  refine stepE0 rfl rfl (fun K hK => ?_)
  go_simp
  refine hK _ ?_
  clear hK K
  refine stepE2 rfl rfl ?_ (fun w1 hS => ?_) (fun K hK => ?_)
  rotate_left
  focus (rw [HSD.out] at hS; obtain ⟨s0, s1, s2, s3, s4, s5, s6⟩ := hS; go_simp; rfl)
  go_simp
  refine hK _ ?_
  clear hK K
  refine stepE0 rfl rfl (fun K hK => ?_)
  go_simp
  refine hK _ ?_
  clear hK K
  refine stepE1S rfl rfl (fun K hK => ?_)
  (go_wp2_with fail; refine Calls.mono (rlog_0 _ _ _ _ _ _ _ _ _ _ _ _) ?_; rintro e w2 ⟨rfl, rfl⟩; go_wp2)
  refine ⟨by rw [HSD.out]; exact (by refine ⟨?_, ?_, ?_, ?_, ?_, ?_, ?_⟩ <;> go_simp), ?_⟩
  refine stepE1 rfl rfl (by kernel_rfl) (fun K hK => ?_)
  (go_wp2_with fail; refine Calls.mono (rlog_1 _ _ _ _ _ _ _ _ _ _ _ _) ?_; rintro e w2 ⟨rfl, rfl⟩; go_wp2)
  refine stepE0 rfl rfl (fun K hK => ?_)
  go_simp
  refine hK _ ?_
  clear hK K
  refine stepE0 rfl rfl (fun K hK => ?_)
  go_simp
  refine hK _ ?_
  clear hK K
  try refine stepEnil0 ?_
  clear HSD SS
  go_wp2_with fail
  refine bodyPost_ret (v := .tuple #[.agg #[.slice aA la.length cA, .slice aB lb.length cB, .bool true, .bool true, .int .i64 0, .int .i64 tm, .int .i64 st], .int .i64 0, .int .i64 6]) ?_ rfl ?_
  · simp [results, Try.results37, go_sem]
  · exact ⟨rfl, (by repeat (first | (with_reducible exact Below.refl _ _) | (with_reducible refine Below.setCell ?_ ?_ _) | (with_reducible refine Below.alloc ?_ ?_ _) | (with_reducible refine Below.drewN ?_ _) | (with_reducible refine Below.drew ?_) | (with_reducible exact Nat.le_refl _) | (focus (simp only [World.size_alloc, World.size_setCell, World.size_drew, World.size_drewN]; omega)) | omega | exact Nat.le_refl _ | (focus (simp; done)) | (focus (simp; omega))))⟩
set_option maxRecDepth 100000 in
set_option maxHeartbeats 2000000 in
theorem rsame_0_6 (aA aB : Option Addr) (cA cB : Nat) (la lb : List Cmd) (uA uB : Bool) (tm st t s ck cv ce cp cn c0 c1 c2 : Int) (w : World) (h1 : decide (s < 0) = true) :
    Calls Try.prog 37 #[.agg #[.slice aA la.length cA, .slice aB lb.length cB, .bool uA, .bool uB, .int .i64 0, .int .i64 tm, .int .i64 st], .agg #[.int .i64 2, .int .i64 t, .int .i64 s, .int .i64 ck, .int .i64 cv, .int .i64 ce, .int .i64 cp, .int .i64 cn, .int .i64 c0, .int .i64 c1, .int .i64 c2]] w
      fun e w' => e = .returned (.tuple #[.agg #[.slice aA la.length cA, .slice aB lb.length cB, .bool uA, .bool uB, .int .i64 0, .int .i64 tm, .int .i64 st], .int .i64 0, .int .i64 1]) ∧ Below w.heap.size w w' := by
  go_enter Try.func37, Try.ntmps37
  go_wp2_with fail
  refine wp_region_now0 [1, 3] [(0, 0), (1, 2), (2, 0), (3, 2), (4, 0), (5, 0), (6, 0)] (by kernel_rfl) (by kernel_rfl) rfl (by kernel_rfl) ?_
  refine stepE0 rfl rfl (fun K hK => ?_)
  go_simp
  refine hK _ ?_
  clear hK K
  refine stepE2 rfl rfl ?_ (fun w1 hS => ?_) (fun K hK => ?_)
  rotate_left
  focus (obtain rfl : w1 = _ := hS; go_simp; rfl)
  go_simp
  refine hK _ ?_
  clear hK K
  refine stepE0 rfl rfl (fun K hK => ?_)
  go_simp
  refine hK _ ?_
  clear hK K
  refine stepE2 rfl rfl ?_ (fun w1 hS => ?_) (fun K hK => ?_)
  rotate_left
  focus (obtain rfl : w1 = _ := hS; go_simp; rfl)
  go_simp
  refine hK _ ?_
  clear hK K
  refine stepE0 rfl rfl (fun K hK => ?_)
  go_simp
  refine hK _ ?_
  clear hK K
  refine stepE0 rfl rfl (fun K hK => ?_)
  go_simp
  refine hK _ ?_
  clear hK K
  refine stepE0 rfl rfl (fun K hK => ?_)
  go_simp
  refine hK _ ?_
  clear hK K
  try refine stepEnil0 ?_
  go_wp2_with fail
  obtain ⟨SS, HSD⟩ : ∃ SS : World → Prop, Hid (SS = fun w' => w'.cell? ⟨w.heap.size, 0, none⟩ = some (.slice aA la.length cA) ∧ w'.cell? ⟨w.heap.size, 1, none⟩ = some (.slice aB lb.length cB) ∧ w'.cell? ⟨w.heap.size, 2, none⟩ = some (.bool uA) ∧ w'.cell? ⟨w.heap.size, 3, none⟩ = some (.bool uB) ∧ w'.cell? ⟨w.heap.size, 4, none⟩ = some (.int .i64 0) ∧ w'.cell? ⟨w.heap.size, 5, none⟩ = some (.int .i64 tm) ∧ w'.cell? ⟨w.heap.size, 6, none⟩ = some (.int .i64 st)) := ⟨_, Lib.hid rfl⟩
  refine wp_region_order0 SS [0, 3] [(0, 2), (1, 0), (3, 2), (4, 0), (2, 1), (5, 1), (6, 0), (7, 0)] (by kernel_rfl) (by kernel_rfl) rfl (by kernel_rfl) ?_ ?_
  focus (rw [HSD.out]; refine ⟨?_, ?_, ?_, ?_, ?_, ?_, ?_⟩ <;> go_simp)
  refine stepE2 rfl rfl ?_ (fun w1 hS => ?_) (fun K hK => ?_)
  rotate_left
  focus (rw [HSD.out] at hS; obtain ⟨s0, s1, s2, s3, s4, s5, s6⟩ := hS; go_simp; rfl)
  go_simp
  refine hK _ ?_
  clear hK K
  refine stepE0 rfl rfl (fun K hK => ?_)
  go_simp
  refine hK _ ?_
  clear hK K
  refine stepE2 rfl rfl ?_ (fun w1 hS => ?_) (fun K hK => ?_)
  rotate_left
  focus (rw [HSD.out] at hS; obtain ⟨s0, s1, s2, s3, s4, s5, s6⟩ := hS; go_simp; rfl)
  go_simp
  refine hK _ ?_
  clear hK K
  refine stepE0 rfl rfl (fun K hK => ?_)
  go_simp
  refine hK _ ?_
  clear hK K
  refine stepE1S rfl rfl (fun K hK => ?_)
  (go_wp2_with fail; refine Calls.mono (rlog_0 _ _ _ _ _ _ _ _ _ _ _ _) ?_; rintro e w2 ⟨rfl, rfl⟩; go_wp2)
  refine ⟨by rw [HSD.out]; exact (by refine ⟨?_, ?_, ?_, ?_, ?_, ?_, ?_⟩ <;> go_simp), ?_⟩
  refine stepE1 rfl rfl (by kernel_rfl) (fun K hK => ?_)
  (go_wp2_with fail; refine Calls.mono (rlog_1 _ _ _ _ _ _ _ _ _ _ _ _) ?_; rintro e w2 ⟨rfl, rfl⟩; go_wp2)
  refine stepE0 rfl rfl (fun K hK => ?_)
  go_simp
  refine hK _ ?_
  clear hK K
  refine stepE0 rfl rfl (fun K hK => ?_)
  go_simp
  refine hK _ ?_
  clear hK K
  try refine stepEnil0 ?_
  clear HSD SS
  go_wp2_with fail
  refine bodyPost_ret (v := .tuple #[.agg #[.slice aA la.length cA, .slice aB lb.length cB, .bool uA, .bool uB, .int .i64 0, .int .i64 tm, .int .i64 st], .int .i64 0, .int .i64 1]) ?_ rfl ?_
  · simp [results, Try.results37, go_sem]
  · exact ⟨rfl, (by repeat (first | (with_reducible exact Below.refl _ _) | (with_reducible refine Below.setCell ?_ ?_ _) | (with_reducible refine Below.alloc ?_ ?_ _) | (with_reducible refine Below.drewN ?_ _) | (with_reducible refine Below.drew ?_) | (with_reducible exact Nat.le_refl _) | (focus (simp only [World.size_alloc, World.size_setCell, World.size_drew, World.size_drewN]; omega)) | omega | exact Nat.le_refl _ | (focus (simp; done)) | (focus (simp; omega))))⟩
set_option maxRecDepth 100000 in
set_option maxHeartbeats 2000000 in
theorem rsame_0_7 (aA aB : Option Addr) (cA cB : Nat) (la lb : List Cmd) (uA uB : Bool) (tm st t s ck cv ce cp cn c0 c1 c2 : Int) (w : World) (h1 : decide (s < 0) = false) (h2 : decide (1 < s) = true) :
    Calls Try.prog 37 #[.agg #[.slice aA la.length cA, .slice aB lb.length cB, .bool uA, .bool uB, .int .i64 0, .int .i64 tm, .int .i64 st], .agg #[.int .i64 2, .int .i64 t, .int .i64 s, .int .i64 ck, .int .i64 cv, .int .i64 ce, .int .i64 cp, .int .i64 cn, .int .i64 c0, .int .i64 c1, .int .i64 c2]] w
      fun e w' => e = .returned (.tuple #[.agg #[.slice aA la.length cA, .slice aB lb.length cB, .bool uA, .bool uB, .int .i64 0, .int .i64 tm, .int .i64 st], .int .i64 0, .int .i64 1]) ∧ Below w.heap.size w w' := by
  go_enter Try.func37, Try.ntmps37
  go_wp2_with fail
  refine wp_region_now0 [1, 3] [(0, 0), (1, 2), (2, 0), (3, 2), (4, 0), (5, 0), (6, 0)] (by kernel_rfl) (by kernel_rfl) rfl (by kernel_rfl) ?_
  refine stepE0 rfl rfl (fun K hK => ?_)
  go_simp
  refine hK _ ?_
  clear hK K
  refine stepE2 rfl rfl ?_ (fun w1 hS => ?_) (fun K hK => ?_)
  rotate_left
  focus (obtain rfl : w1 = _ := hS; go_simp; rfl)
  go_simp
  refine hK _ ?_
  clear hK K
  refine stepE0 rfl rfl (fun K hK => ?_)
  go_simp
  refine hK _ ?_
  clear hK K
  refine stepE2 rfl rfl ?_ (fun w1 hS => ?_) (fun K hK => ?_)
  rotate_left
  focus (obtain rfl : w1 = _ := hS; go_simp; rfl)
  go_simp
  refine hK _ ?_
  clear hK K
  refine stepE0 rfl rfl (fun K hK => ?_)
  go_simp
  refine hK _ ?_
  clear hK K
  refine stepE0 rfl rfl (fun K hK => ?_)
  go_simp
  refine hK _ ?_
  clear hK K
  refine stepE0 rfl rfl (fun K hK => ?_)
  go_simp
  refine hK _ ?_
  clear hK K
  try refine stepEnil0 ?_
  go_wp2_with fail
  obtain ⟨SS, HSD⟩ : ∃ SS : World → Prop, Hid (SS = fun w' => w'.cell? ⟨w.heap.size, 0, none⟩ = some (.slice aA la.length cA) ∧ w'.cell? ⟨w.heap.size, 1, none⟩ = some (.slice aB lb.length cB) ∧ w'.cell? ⟨w.heap.size, 2, none⟩ = some (.bool uA) ∧ w'.cell? ⟨w.heap.size, 3, none⟩ = some (.bool uB) ∧ w'.cell? ⟨w.heap.size, 4, none⟩ = some (.int .i64 0) ∧ w'.cell? ⟨w.heap.size, 5, none⟩ = some (.int .i64 tm) ∧ w'.cell? ⟨w.heap.size, 6, none⟩ = some (.int .i64 st)) := ⟨_, Lib.hid rfl⟩
  refine wp_region_order0 SS [0, 3] [(0, 2), (1, 0), (3, 2), (4, 0), (2, 1), (5, 1), (6, 0), (7, 0)] (by kernel_rfl) (by kernel_rfl) rfl (by kernel_rfl) ?_ ?_
  focus (rw [HSD.out]; refine ⟨?_, ?_, ?_, ?_, ?_, ?_, ?_⟩ <;> go_simp)
  refine stepE2 rfl rfl ?_ (fun w1 hS => ?_) (fun K hK => ?_)
  rotate_left
  focus (rw [HSD.out] at hS; obtain ⟨s0, s1, s2, s3, s4, s5, s6⟩ := hS; go_simp; rfl)
  go_simp
  refine hK _ ?_
  clear hK K
  refine stepE0 rfl rfl (fun K hK => ?_)
  go_simp
  refine hK _ ?_
  clear hK K
  refine stepE2 rfl rfl ?_ (fun w1 hS => ?_) (fun K hK => ?_)
  rotate_left
  focus (rw [HSD.out] at hS; obtain ⟨s0, s1, s2, s3, s4, s5, s6⟩ := hS; go_simp; rfl)
  go_simp
  refine hK _ ?_
  clear hK K
  refine stepE0 rfl rfl (fun K hK => ?_)
  go_simp
  refine hK _ ?_
  clear hK K
  refine stepE1S rfl rfl (fun K hK => ?_)
  (go_wp2_with fail; refine Calls.mono (rlog_0 _ _ _ _ _ _ _ _ _ _ _ _) ?_; rintro e w2 ⟨rfl, rfl⟩; go_wp2)
  refine ⟨by rw [HSD.out]; exact (by refine ⟨?_, ?_, ?_, ?_, ?_, ?_, ?_⟩ <;> go_simp), ?_⟩
  refine stepE1 rfl rfl (by kernel_rfl) (fun K hK => ?_)
  (go_wp2_with fail; refine Calls.mono (rlog_1 _ _ _ _ _ _ _ _ _ _ _ _) ?_; rintro e w2 ⟨rfl, rfl⟩; go_wp2)
  refine stepE0 rfl rfl (fun K hK => ?_)
  go_simp
  refine hK _ ?_
  clear hK K
  refine stepE0 rfl rfl (fun K hK => ?_)
  go_simp
  refine hK _ ?_
  clear hK K
  try refine stepEnil0 ?_
  clear HSD SS
  go_wp2_with fail
  refine bodyPost_ret (v := .tuple #[.agg #[.slice aA la.length cA, .slice aB lb.length cB, .bool uA, .bool uB, .int .i64 0, .int .i64 tm, .int .i64 st], .int .i64 0, .int .i64 1]) ?_ rfl ?_
  · simp [results, Try.results37, go_sem]
  · exact ⟨rfl, (by repeat (first | (with_reducible exact Below.refl _ _) | (with_reducible refine Below.setCell ?_ ?_ _) | (with_reducible refine Below.alloc ?_ ?_ _) | (with_reducible refine Below.drewN ?_ _) | (with_reducible refine Below.drew ?_) | (with_reducible exact Nat.le_refl _) | (focus (simp only [World.size_alloc, World.size_setCell, World.size_drew, World.size_drewN]; omega)) | omega | exact Nat.le_refl _ | (focus (simp; done)) | (focus (simp; omega))))⟩
set_option maxRecDepth 100000 in
set_option maxHeartbeats 2000000 in
theorem rsame_0_8 (aA aB : Option Addr) (cA cB : Nat) (la lb : List Cmd) (uA uB : Bool) (tm st t s ck cv ce cp cn c0 c1 c2 : Int) (w : World) (h1 : decide (s < 0) = true) :
    Calls Try.prog 37 #[.agg #[.slice aA la.length cA, .slice aB lb.length cB, .bool uA, .bool uB, .int .i64 0, .int .i64 tm, .int .i64 st], .agg #[.int .i64 3, .int .i64 t, .int .i64 s, .int .i64 ck, .int .i64 cv, .int .i64 ce, .int .i64 cp, .int .i64 cn, .int .i64 c0, .int .i64 c1, .int .i64 c2]] w
      fun e w' => e = .returned (.tuple #[.agg #[.slice aA la.length cA, .slice aB lb.length cB, .bool uA, .bool uB, .int .i64 0, .int .i64 tm, .int .i64 st], .int .i64 0, .int .i64 1]) ∧ Below w.heap.size w w' := by
  go_enter Try.func37, Try.ntmps37
  go_wp2_with fail
  refine wp_region_now0 [1, 3] [(0, 0), (1, 2), (2, 0), (3, 2), (4, 0), (5, 0), (6, 0)] (by kernel_rfl) (by kernel_rfl) rfl (by kernel_rfl) ?_
  refine stepE0 rfl rfl (fun K hK => ?_)
  go_simp
  refine hK _ ?_
  clear hK K
  refine stepE2 rfl rfl ?_ (fun w1 hS => ?_) (fun K hK => ?_)
  rotate_left
  focus (obtain rfl : w1 = _ := hS; go_simp; rfl)
  go_simp
  refine hK _ ?_
  clear hK K
  refine stepE0 rfl rfl (fun K hK => ?_)
  go_simp
  refine hK _ ?_
  clear hK K
  refine stepE2 rfl rfl ?_ (fun w1 hS => ?_) (fun K hK => ?_)
  rotate_left
  focus (obtain rfl : w1 = _ := hS; go_simp; rfl)
  go_simp
  refine hK _ ?_
  clear hK K
  refine stepE0 rfl rfl (fun K hK => ?_)
  go_simp
  refine hK _ ?_
  clear hK K
  refine stepE0 rfl rfl (fun K hK => ?_)
  go_simp
  refine hK _ ?_
  clear hK K
  refine stepE0 rfl rfl (fun K hK => ?_)
  go_simp
  refine hK _ ?_
  clear hK K
  try refine stepEnil0 ?_
  go_wp2_with fail
  obtain ⟨SS, HSD⟩ : ∃ SS : World → Prop, Hid (SS = fun w' => w'.cell? ⟨w.heap.size, 0, none⟩ = some (.slice aA la.length cA) ∧ w'.cell? ⟨w.heap.size, 1, none⟩ = some (.slice aB lb.length cB) ∧ w'.cell? ⟨w.heap.size, 2, none⟩ = some (.bool uA) ∧ w'.cell? ⟨w.heap.size, 3, none⟩ = some (.bool uB) ∧ w'.cell? ⟨w.heap.size, 4, none⟩ = some (.int .i64 0) ∧ w'.cell? ⟨w.heap.size, 5, none⟩ = some (.int .i64 tm) ∧ w'.cell? ⟨w.heap.size, 6, none⟩ = some (.int .i64 st)) := ⟨_, Lib.hid rfl⟩
  refine wp_region_order0 SS [0, 3] [(0, 2), (1, 0), (3, 2), (4, 0), (2, 1), (5, 1), (6, 0), (7, 0)] (by kernel_rfl) (by kernel_rfl) rfl (by kernel_rfl) ?_ ?_
  focus (rw [HSD.out]; refine ⟨?_, ?_, ?_, ?_, ?_, ?_, ?_⟩ <;> go_simp)
  refine stepE2 rfl rfl ?_ (fun w1 hS => ?_) (fun K hK => ?_)
  rotate_left
  focus (rw [HSD.out] at hS; obtain ⟨s0, s1, s2, s3, s4, s5, s6⟩ := hS; go_simp; rfl)
  go_simp
  refine hK _ ?_
  clear hK K
  refine stepE0 rfl rfl (fun K hK => ?_)
  go_simp
  refine hK _ ?_
  clear hK K
  refine stepE2 rfl rfl ?_ (fun w1 hS => ?_) (fun K hK => ?_)
  rotate_left
  focus (rw [HSD.out] at hS; obtain ⟨s0, s1, s2, s3, s4, s5, s6⟩ := hS; go_simp; rfl)
  go_simp
  refine hK _ ?_
  clear hK K
  refine stepE0 rfl rfl (fun K hK => ?_)
  go_simp
  refine hK _ ?_
  clear hK K
  refine stepE1S rfl rfl (fun K hK => ?_)
  (go_wp2_with fail; refine Calls.mono (rlog_0 _ _ _ _ _ _ _ _ _ _ _ _) ?_; rintro e w2 ⟨rfl, rfl⟩; go_wp2)
  refine ⟨by rw [HSD.out]; exact (by refine ⟨?_, ?_, ?_, ?_, ?_, ?_, ?_⟩ <;> go_simp), ?_⟩
  refine stepE1 rfl rfl (by kernel_rfl) (fun K hK => ?_)
  (go_wp2_with fail; refine Calls.mono (rlog_1 _ _ _ _ _ _ _ _ _ _ _ _) ?_; rintro e w2 ⟨rfl, rfl⟩; go_wp2)
  refine stepE0 rfl rfl (fun K hK => ?_)
  go_simp
  refine hK _ ?_
  clear hK K
  refine stepE0 rfl rfl (fun K hK => ?_)
  go_simp
  refine hK _ ?_
  clear hK K
  try refine stepEnil0 ?_
  clear HSD SS
  go_wp2_with fail
  refine bodyPost_ret (v := .tuple #[.agg #[.slice aA la.length cA, .slice aB lb.length cB, .bool uA, .bool uB, .int .i64 0, .int .i64 tm, .int .i64 st], .int .i64 0, .int .i64 1]) ?_ rfl ?_
  · simp [results, Try.results37, go_sem]
  · exact ⟨rfl, (by repeat (first | (with_reducible exact Below.refl _ _) | (with_reducible refine Below.setCell ?_ ?_ _) | (with_reducible refine Below.alloc ?_ ?_ _) | (with_reducible refine Below.drewN ?_ _) | (with_reducible refine Below.drew ?_) | (with_reducible exact Nat.le_refl _) | (focus (simp only [World.size_alloc, World.size_setCell, World.size_drew, World.size_drewN]; omega)) | omega | exact Nat.le_refl _ | (focus (simp; done)) | (focus (simp; omega))))⟩
set_option maxRecDepth 100000 in
set_option maxHeartbeats 2000000 in
theorem rsame_0_9 (aA aB : Option Addr) (cA cB : Nat) (la lb : List Cmd) (uA uB : Bool) (tm st t s ck cv ce cp cn c0 c1 c2 : Int) (w : World) (h1 : decide (s < 0) = false) (h2 : decide (1 < s) = true) :
    Calls Try.prog 37 #[.agg #[.slice aA la.length cA, .slice aB lb.length cB, .bool uA, .bool uB, .int .i64 0, .int .i64 tm, .int .i64 st], .agg #[.int .i64 3, .int .i64 t, .int .i64 s, .int .i64 ck, .int .i64 cv, .int .i64 ce, .int .i64 cp, .int .i64 cn, .int .i64 c0, .int .i64 c1, .int .i64 c2]] w
      fun e w' => e = .returned (.tuple #[.agg #[.slice aA la.length cA, .slice aB lb.length cB, .bool uA, .bool uB, .int .i64 0, .int .i64 tm, .int .i64 st], .int .i64 0, .int .i64 1]) ∧ Below w.heap.size w w' := by
  go_enter Try.func37, Try.ntmps37
  go_wp2_with fail
  refine wp_region_now0 [1, 3] [(0, 0), (1, 2), (2, 0), (3, 2), (4, 0), (5, 0), (6, 0)] (by kernel_rfl) (by kernel_rfl) rfl (by kernel_rfl) ?_
  refine stepE0 rfl rfl (fun K hK => ?_)
  go_simp
  refine hK _ ?_
  clear hK K
  refine stepE2 rfl rfl ?_ (fun w1 hS => ?_) (fun K hK => ?_)
  rotate_left
  focus (obtain rfl : w1 = _ := hS; go_simp; rfl)
  go_simp
  refine hK _ ?_
  clear hK K
  refine stepE0 rfl rfl (fun K hK => ?_)
  go_simp
  refine hK _ ?_
  clear hK K
  refine stepE2 rfl rfl ?_ (fun w1 hS => ?_) (fun K hK => ?_)
  rotate_left
  focus (obtain rfl : w1 = _ := hS; go_simp; rfl)
  go_simp
  refine hK _ ?_
  clear hK K
  refine stepE0 rfl rfl (fun K hK => ?_)
  go_simp
  refine hK _ ?_
  clear hK K
  refine stepE0 rfl rfl (fun K hK => ?_)
  go_simp
  refine hK _ ?_
  clear hK K
  refine stepE0 rfl rfl (fun K hK => ?_)
  go_simp
  refine hK _ ?_
  clear hK K
  try refine stepEnil0 ?_
  go_wp2_with fail
  obtain ⟨SS, HSD⟩ : ∃ SS : World → Prop, Hid (SS = fun w' => w'.cell? ⟨w.heap.size, 0, none⟩ = some (.slice aA la.length cA) ∧ w'.cell? ⟨w.heap.size, 1, none⟩ = some (.slice aB lb.length cB) ∧ w'.cell? ⟨w.heap.size, 2, none⟩ = some (.bool uA) ∧ w'.cell? ⟨w.heap.size, 3, none⟩ = some (.bool uB) ∧ w'.cell? ⟨w.heap.size, 4, none⟩ = some (.int .i64 0) ∧ w'.cell? ⟨w.heap.size, 5, none⟩ = some (.int .i64 tm) ∧ w'.cell? ⟨w.heap.size, 6, none⟩ = some (.int .i64 st)) := ⟨_, Lib.hid rfl⟩
  refine wp_region_order0 SS [0, 3] [(0, 2), (1, 0), (3, 2), (4, 0), (2, 1), (5, 1), (6, 0), (7, 0)] (by kernel_rfl) (by kernel_rfl) rfl (by kernel_rfl) ?_ ?_
  focus (rw [HSD.out]; refine ⟨?_, ?_, ?_, ?_, ?_, ?_, ?_⟩ <;> go_simp)
  refine stepE2 rfl rfl ?_ (fun w1 hS => ?_) (fun K hK => ?_)
  rotate_left
  focus (rw [HSD.out] at hS; obtain ⟨s0, s1, s2, s3, s4, s5, s6⟩ := hS; go_simp; rfl)
  go_simp
  refine hK _ ?_
  clear hK K
  refine stepE0 rfl rfl (fun K hK => ?_)
  go_simp
  refine hK _ ?_
  clear hK K
  refine stepE2 rfl rfl ?_ (fun w1 hS => ?_) (fun K hK => ?_)
  rotate_left
  focus (rw [HSD.out] at hS; obtain ⟨s0, s1, s2, s3, s4, s5, s6⟩ := hS; go_simp; rfl)
  go_simp
  refine hK _ ?_
  clear hK K
  refine stepE0 rfl rfl (fun K hK => ?_)
  go_simp
  refine hK _ ?_
  clear hK K
  refine stepE1S rfl rfl (fun K hK => ?_)
  (go_wp2_with fail; refine Calls.mono (rlog_0 _ _ _ _ _ _ _ _ _ _ _ _) ?_; rintro e w2 ⟨rfl, rfl⟩; go_wp2)
  refine ⟨by rw [HSD.out]; exact (by refine ⟨?_, ?_, ?_, ?_, ?_, ?_, ?_⟩ <;> go_simp), ?_⟩
  refine stepE1 rfl rfl (by kernel_rfl) (fun K hK => ?_)
  (go_wp2_with fail; refine Calls.mono (rlog_1 _ _ _ _ _ _ _ _ _ _ _ _) ?_; rintro e w2 ⟨rfl, rfl⟩; go_wp2)
  refine stepE0 rfl rfl (fun K hK => ?_)
  go_simp
  refine hK _ ?_
  clear hK K
  refine stepE0 rfl rfl (fun K hK => ?_)
  go_simp
  refine hK _ ?_
  clear hK K
  try refine stepEnil0 ?_
  clear HSD SS
  go_wp2_with fail
  refine bodyPost_ret (v := .tuple #[.agg #[.slice aA la.length cA, .slice aB lb.length cB, .bool uA, .bool uB, .int .i64 0, .int .i64 tm, .int .i64 st], .int .i64 0, .int .i64 1]) ?_ rfl ?_
  · simp [results, Try.results37, go_sem]
  · exact ⟨rfl, (by repeat (first | (with_reducible exact Below.refl _ _) | (with_reducible refine Below.setCell ?_ ?_ _) | (with_reducible refine Below.alloc ?_ ?_ _) | (with_reducible refine Below.drewN ?_ _) | (with_reducible refine Below.drew ?_) | (with_reducible exact Nat.le_refl _) | (focus (simp only [World.size_alloc, World.size_setCell, World.size_drew, World.size_drewN]; omega)) | omega | exact Nat.le_refl _ | (focus (simp; done)) | (focus (simp; omega))))⟩
set_option maxRecDepth 100000 in
set_option maxHeartbeats 2000000 in
theorem rsame_0_10 (aA aB : Option Addr) (cA cB : Nat) (la lb : List Cmd) (uB : Bool) (tm st t ck cv ce cp cn c0 c1 c2 : Int) (w : World) :
    Calls Try.prog 37 #[.agg #[.slice aA la.length cA, .slice aB lb.length cB, .bool false, .bool uB, .int .i64 0, .int .i64 tm, .int .i64 st], .agg #[.int .i64 2, .int .i64 t, .int .i64 0, .int .i64 ck, .int .i64 cv, .int .i64 ce, .int .i64 cp, .int .i64 cn, .int .i64 c0, .int .i64 c1, .int .i64 c2]] w
      fun e w' => e = .returned (.tuple #[.agg #[.slice aA la.length cA, .slice aB lb.length cB, .bool false, .bool uB, .int .i64 0, .int .i64 tm, .int .i64 st], .int .i64 0, .int .i64 12]) ∧ Below w.heap.size w w' := by
  go_enter Try.func37, Try.ntmps37
  go_wp2_with fail
  refine wp_region_now0 [1, 3] [(0, 0), (1, 2), (2, 0), (3, 2), (4, 0), (5, 0), (6, 0)] (by kernel_rfl) (by kernel_rfl) rfl (by kernel_rfl) ?_
  refine stepE0 rfl rfl (fun K hK => ?_)
  go_simp
  refine hK _ ?_
  clear hK K
  refine stepE2 rfl rfl ?_ (fun w1 hS => ?_) (fun K hK => ?_)
  rotate_left
  focus (obtain rfl : w1 = _ := hS; go_simp; rfl)
  go_simp
  refine hK _ ?_
  clear hK K
  refine stepE0 rfl rfl (fun K hK => ?_)
  go_simp
  refine hK _ ?_
  clear hK K
  refine stepE2 rfl rfl ?_ (fun w1 hS => ?_) (fun K hK => ?_)
  rotate_left
  focus (obtain rfl : w1 = _ := hS; go_simp; rfl)
  go_simp
  refine hK _ ?_
  clear hK K
  refine stepE0 rfl rfl (fun K hK => ?_)
  go_simp
  refine hK _ ?_
  clear hK K
  refine stepE0 rfl rfl (fun K hK => ?_)
  go_simp
  refine hK _ ?_
  clear hK K
  refine stepE0 rfl rfl (fun K hK => ?_)
  go_simp
  refine hK _ ?_
  clear hK K
  try refine stepEnil0 ?_
  go_wp2_with fail
  obtain ⟨SS, HSD⟩ : ∃ SS : World → Prop, Hid (SS = fun w' => w'.cell? ⟨w.heap.size, 0, none⟩ = some (.slice aA la.length cA) ∧ w'.cell? ⟨w.heap.size, 1, none⟩ = some (.slice aB lb.length cB) ∧ w'.cell? ⟨w.heap.size, 2, none⟩ = some (.bool false) ∧ w'.cell? ⟨w.heap.size, 3, none⟩ = some (.bool uB) ∧ w'.cell? ⟨w.heap.size, 4, none⟩ = some (.int .i64 0) ∧ w'.cell? ⟨w.heap.size, 5, none⟩ = some (.int .i64 tm) ∧ w'.cell? ⟨w.heap.size, 6, none⟩ = some (.int .i64 st)) := ⟨_, Lib.hid rfl⟩
  refine wp_region_order0 SS [0, 3] [(0, 2), (1, 0), (3, 2), (4, 0), (2, 1), (5, 1), (6, 0), (7, 0)] (by kernel_rfl) (by kernel_rfl) rfl (by kernel_rfl) ?_ ?_
  focus (rw [HSD.out]; refine ⟨?_, ?_, ?_, ?_, ?_, ?_, ?_⟩ <;> go_simp)
  refine stepE2 rfl rfl ?_ (fun w1 hS => ?_) (fun K hK => ?_)
  rotate_left
  focus (rw [HSD.out] at hS; obtain ⟨s0, s1, s2, s3, s4, s5, s6⟩ := hS; go_simp; rfl)
  go_simp
  refine hK _ ?_
  clear hK K
  refine stepE0 rfl rfl (fun K hK => ?_)
  go_simp
  refine hK _ ?_
  clear hK K
  refine stepE2 rfl rfl ?_ (fun w1 hS => ?_) (fun K hK => ?_)
  rotate_left
  focus (rw [HSD.out] at hS; obtain ⟨s0, s1, s2, s3, s4, s5, s6⟩ := hS; go_simp; rfl)
  go_simp
  refine hK _ ?_
  clear hK K
  refine stepE0 rfl rfl (fun K hK => ?_)
  go_simp
  refine hK _ ?_
  clear hK K
  refine stepE1S rfl rfl (fun K hK => ?_)
  (go_wp2_with fail; refine Calls.mono (rlog_0 _ _ _ _ _ _ _ _ _ _ _ _) ?_; rintro e w2 ⟨rfl, rfl⟩; go_wp2)
  refine ⟨by rw [HSD.out]; exact (by refine ⟨?_, ?_, ?_, ?_, ?_, ?_, ?_⟩ <;> go_simp), ?_⟩
  refine stepE1 rfl rfl (by kernel_rfl) (fun K hK => ?_)
  (go_wp2_with fail; refine Calls.mono (rlog_1 _ _ _ _ _ _ _ _ _ _ _ _) ?_; rintro e w2 ⟨rfl, rfl⟩; go_wp2)
  refine stepE0 rfl rfl (fun K hK => ?_)
  go_simp
  refine hK _ ?_
  clear hK K
  refine stepE0 rfl rfl (fun K hK => ?_)
  go_simp
  refine hK _ ?_
  clear hK K
  try refine stepEnil0 ?_
  clear HSD SS
  go_wp2_with fail
  refine bodyPost_ret (v := .tuple #[.agg #[.slice aA la.length cA, .slice aB lb.length cB, .bool false, .bool uB, .int .i64 0, .int .i64 tm, .int .i64 st], .int .i64 0, .int .i64 12]) ?_ rfl ?_
  · simp [results, Try.results37, go_sem]
  · exact ⟨rfl, (by repeat (first | (with_reducible exact Below.refl _ _) | (with_reducible refine Below.setCell ?_ ?_ _) | (with_reducible refine Below.alloc ?_ ?_ _) | (with_reducible refine Below.drewN ?_ _) | (with_reducible refine Below.drew ?_) | (with_reducible exact Nat.le_refl _) | (focus (simp only [World.size_alloc, World.size_setCell, World.size_drew, World.size_drewN]; omega)) | omega | exact Nat.le_refl _ | (focus (simp; done)) | (focus (simp; omega))))⟩
set_option maxRecDepth 100000 in
set_option maxHeartbeats 2000000 in
theorem rsame_0_11 (aA aB : Option Addr) (cA cB : Nat) (la lb : List Cmd) (uA : Bool) (tm st t ck cv ce cp cn c0 c1 c2 : Int) (w : World) :
    Calls Try.prog 37 #[.agg #[.slice aA la.length cA, .slice aB lb.length cB, .bool uA, .bool false, .int .i64 0, .int .i64 tm, .int .i64 st], .agg #[.int .i64 2, .int .i64 t, .int .i64 1, .int .i64 ck, .int .i64 cv, .int .i64 ce, .int .i64 cp, .int .i64 cn, .int .i64 c0, .int .i64 c1, .int .i64 c2]] w
      fun e w' => e = .returned (.tuple #[.agg #[.slice aA la.length cA, .slice aB lb.length cB, .bool uA, .bool false, .int .i64 0, .int .i64 tm, .int .i64 st], .int .i64 0, .int .i64 12]) ∧ Below w.heap.size w w' := by
  go_enter Try.func37, Try.ntmps37
  go_wp2_with fail
  refine wp_region_now0 [1, 3] [(0, 0), (1, 2), (2, 0), (3, 2), (4, 0), (5, 0), (6, 0)] (by kernel_rfl) (by kernel_rfl) rfl (by kernel_rfl) ?_
  refine stepE0 rfl rfl (fun K hK => ?_)
  go_simp
  refine hK _ ?_
  clear hK K
  refine stepE2 rfl rfl ?_ (fun w1 hS => ?_) (fun K hK => ?_)
  rotate_left
  focus (obtain rfl : w1 = _ := hS; go_simp; rfl)
  go_simp
  refine hK _ ?_
  clear hK K
  refine stepE0 rfl rfl (fun K hK => ?_)
  go_simp
  refine hK _ ?_
  clear hK K
  refine stepE2 rfl rfl ?_ (fun w1 hS => ?_) (fun K hK => ?_)
  rotate_left
  focus (obtain rfl : w1 = _ := hS; go_simp; rfl)
  go_simp
  refine hK _ ?_
  clear hK K
  refine stepE0 rfl rfl (fun K hK => ?_)
  go_simp
  refine hK _ ?_
  clear hK K
  refine stepE0 rfl rfl (fun K hK => ?_)
  go_simp
  refine hK _ ?_
  clear hK K
  refine stepE0 rfl rfl (fun K hK => ?_)
  go_simp
  refine hK _ ?_
  clear hK K
  try refine stepEnil0 ?_
  go_wp2_with fail
  obtain ⟨SS, HSD⟩ : ∃ SS : World → Prop, Hid (SS = fun w' => w'.cell? ⟨w.heap.size, 0, none⟩ = some (.slice aA la.length cA) ∧ w'.cell? ⟨w.heap.size, 1, none⟩ = some (.slice aB lb.length cB) ∧ w'.cell? ⟨w.heap.size, 2, none⟩ = some (.bool uA) ∧ w'.cell? ⟨w.heap.size, 3, none⟩ = some (.bool false) ∧ w'.cell? ⟨w.heap.size, 4, none⟩ = some (.int .i64 0) ∧ w'.cell? ⟨w.heap.size, 5, none⟩ = some (.int .i64 tm) ∧ w'.cell? ⟨w.heap.size, 6, none⟩ = some (.int .i64 st)) := ⟨_, Lib.hid rfl⟩
  refine wp_region_order0 SS [0, 3] [(0, 2), (1, 0), (3, 2), (4, 0), (2, 1), (5, 1), (6, 0), (7, 0)] (by kernel_rfl) (by kernel_rfl) rfl (by kernel_rfl) ?_ ?_
  focus (rw [HSD.out]; refine ⟨?_, ?_, ?_, ?_, ?_, ?_, ?_⟩ <;> go_simp)
  refine stepE2 rfl rfl ?_ (fun w1 hS => ?_) (fun K hK => ?_)
  rotate_left
  focus (rw [HSD.out] at hS; obtain ⟨s0, s1, s2, s3, s4, s5, s6⟩ := hS; go_simp; rfl)
  go_simp
  refine hK _ ?_
  clear hK K
  refine stepE0 rfl rfl (fun K hK => ?_)
  go_simp
  refine hK _ ?_
  clear hK K
  refine stepE2 rfl rfl ?_ (fun w1 hS => ?_) (fun K hK => ?_)
  rotate_left
  focus (rw [HSD.out] at hS; obtain ⟨s0, s1, s2, s3, s4, s5, s6⟩ := hS; go_simp; rfl)
  go_simp
  refine hK _ ?_
  clear hK K
  refine stepE0 rfl rfl (fun K hK => ?_)
  go_simp
  refine hK _ ?_
  clear hK K
  refine stepE1S rfl rfl (fun K hK => ?_)
  (go_wp2_with fail; refine Calls.mono (rlog_0 _ _ _ _ _ _ _ _ _ _ _ _) ?_; rintro e w2 ⟨rfl, rfl⟩; go_wp2)
  refine ⟨by rw [HSD.out]; exact (by refine ⟨?_, ?_, ?_, ?_, ?_, ?_, ?_⟩ <;> go_simp), ?_⟩
  refine stepE1 rfl rfl (by kernel_rfl) (fun K hK => ?_)
  (go_wp2_with fail; refine Calls.mono (rlog_1 _ _ _ _ _ _ _ _ _ _ _ _) ?_; rintro e w2 ⟨rfl, rfl⟩; go_wp2)
  refine stepE0 rfl rfl (fun K hK => ?_)
  go_simp
  refine hK _ ?_
  clear hK K
  refine stepE0 rfl rfl (fun K hK => ?_)
  go_simp
  refine hK _ ?_
  clear hK K
  try refine stepEnil0 ?_
  clear HSD SS
  go_wp2_with fail
  refine bodyPost_ret (v := .tuple #[.agg #[.slice aA la.length cA, .slice aB lb.length cB, .bool uA, .bool false, .int .i64 0, .int .i64 tm, .int .i64 st], .int .i64 0, .int .i64 12]) ?_ rfl ?_
  · simp [results, Try.results37, go_sem]
  · exact ⟨rfl, (by repeat (first | (with_reducible exact Below.refl _ _) | (with_reducible refine Below.setCell ?_ ?_ _) | (with_reducible refine Below.alloc ?_ ?_ _) | (with_reducible refine Below.drewN ?_ _) | (with_reducible refine Below.drew ?_) | (with_reducible exact Nat.le_refl _) | (focus (simp only [World.size_alloc, World.size_setCell, World.size_drew, World.size_drewN]; omega)) | omega | exact Nat.le_refl _ | (focus (simp; done)) | (focus (simp; omega))))⟩
set_option maxRecDepth 100000 in
set_option maxHeartbeats 2000000 in
theorem rsame_0_12 (aA aB : Option Addr) (cA cB : Nat) (la lb : List Cmd) (uB : Bool) (tm st t ck cv ce cp cn c0 c1 c2 : Int) (w : World) :
    Calls Try.prog 37 #[.agg #[.slice aA la.length cA, .slice aB lb.length cB, .bool true, .bool uB, .int .i64 0, .int .i64 tm, .int .i64 st], .agg #[.int .i64 3, .int .i64 t, .int .i64 0, .int .i64 ck, .int .i64 cv, .int .i64 ce, .int .i64 cp, .int .i64 cn, .int .i64 c0, .int .i64 c1, .int .i64 c2]] w
      fun e w' => e = .returned (.tuple #[.agg #[.slice aA la.length cA, .slice aB lb.length cB, .bool true, .bool uB, .int .i64 0, .int .i64 tm, .int .i64 st], .int .i64 0, .int .i64 14]) ∧ Below w.heap.size w w' := by
  go_enter Try.func37, Try.ntmps37
  go_wp2_with fail
  refine wp_region_now0 [1, 3] [(0, 0), (1, 2), (2, 0), (3, 2), (4, 0), (5, 0), (6, 0)] (by kernel_rfl) (by kernel_rfl) rfl (by kernel_rfl) ?_
  refine stepE0 rfl rfl (fun K hK => ?_)
  go_simp
  refine hK _ ?_
  clear hK K
  refine stepE2 rfl rfl ?_ (fun w1 hS => ?_) (fun K hK => ?_)
  rotate_left
  focus (obtain rfl : w1 = _ := hS; go_simp; rfl)
  go_simp
  refine hK _ ?_
  clear hK K
  refine stepE0 rfl rfl (fun K hK => ?_)
  go_simp
  refine hK _ ?_
  clear hK K
  refine stepE2 rfl rfl ?_ (fun w1 hS => ?_) (fun K hK => ?_)
  rotate_left
  focus (obtain rfl : w1 = _ := hS; go_simp; rfl)
  go_simp
  refine hK _ ?_
  clear hK K
  refine stepE0 rfl rfl (fun K hK => ?_)
  go_simp
  refine hK _ ?_
  clear hK K
  refine stepE0 rfl rfl (fun K hK => ?_)
  go_simp
  refine hK _ ?_
  clear hK K
  refine stepE0 rfl rfl (fun K hK => ?_)
  go_simp
  refine hK _ ?_
  clear hK K
  try refine stepEnil0 ?_
  go_wp2_with fail
  obtain ⟨SS, HSD⟩ : ∃ SS : World → Prop, Hid (SS = fun w' => w'.cell? ⟨w.heap.size, 0, none⟩ = some (.slice aA la.length cA) ∧ w'.cell? ⟨w.heap.size, 1, none⟩ = some (.slice aB lb.length cB) ∧ w'.cell? ⟨w.heap.size, 2, none⟩ = some (.bool true) ∧ w'.cell? ⟨w.heap.size, 3, none⟩ = some (.bool uB) ∧ w'.cell? ⟨w.heap.size, 4, none⟩ = some (.int .i64 0) ∧ w'.cell? ⟨w.heap.size, 5, none⟩ = some (.int .i64 tm) ∧ w'.cell? ⟨w.heap.size, 6, none⟩ = some (.int .i64 st)) := ⟨_, Lib.hid rfl⟩
  refine wp_region_order0 SS [0, 3] [(0, 2), (1, 0), (3, 2), (4, 0), (2, 1), (5, 1), (6, 0), (7, 0)] (by kernel_rfl) (by kernel_rfl) rfl (by kernel_rfl) ?_ ?_
  focus (rw [HSD.out]; refine ⟨?_, ?_, ?_, ?_, ?_, ?_, ?_⟩ <;> go_simp)
  refine stepE2 rfl rfl ?_ (fun w1 hS => ?_) (fun K hK => ?_)
  rotate_left
  focus (rw [HSD.out] at hS; obtain ⟨s0, s1, s2, s3, s4, s5, s6⟩ := hS; go_simp; rfl)
  go_simp
  refine hK _ ?_
  clear hK K
  refine stepE0 rfl rfl (fun K hK => ?_)
  go_simp
  refine hK _ ?_
  clear hK K
  refine stepE2 rfl rfl ?_ (fun w1 hS => ?_) (fun K hK => ?_)
  rotate_left
  focus (rw [HSD.out] at hS; obtain ⟨s0, s1, s2, s3, s4, s5, s6⟩ := hS; go_simp; rfl)
  go_simp
  refine hK _ ?_
  clear hK K
  refine stepE0 rfl rfl (fun K hK => ?_)
  go_simp
  refine hK _ ?_
  clear hK K
  refine stepE1S rfl rfl (fun K hK => ?_)
  (go_wp2_with fail; refine Calls.mono (rlog_0 _ _ _ _ _ _ _ _ _ _ _ _) ?_; rintro e w2 ⟨rfl, rfl⟩; go_wp2)
  refine ⟨by rw [HSD.out]; exact (by refine ⟨?_, ?_, ?_, ?_, ?_, ?_, ?_⟩ <;> go_simp), ?_⟩
  refine stepE1 rfl rfl (by kernel_rfl) (fun K hK => ?_)
  (go_wp2_with fail; refine Calls.mono (rlog_1 _ _ _ _ _ _ _ _ _ _ _ _) ?_; rintro e w2 ⟨rfl, rfl⟩; go_wp2)
  refine stepE0 rfl rfl (fun K hK => ?_)
  go_simp
  refine hK _ ?_
  clear hK K
  refine stepE0 rfl rfl (fun K hK => ?_)
  go_simp
  refine hK _ ?_
  clear hK K
  try refine stepEnil0 ?_
  clear HSD SS
  go_wp2_with fail
  refine bodyPost_ret (v := .tuple #[.agg #[.slice aA la.length cA, .slice aB lb.length cB, .bool true, .bool uB, .int .i64 0, .int .i64 tm, .int .i64 st], .int .i64 0, .int .i64 14]) ?_ rfl ?_
  · simp [results, Try.results37, go_sem]
  · exact ⟨rfl, (by repeat (first | (with_reducible exact Below.refl _ _) | (with_reducible refine Below.setCell ?_ ?_ _) | (with_reducible refine Below.alloc ?_ ?_ _) | (with_reducible refine Below.drewN ?_ _) | (with_reducible refine Below.drew ?_) | (with_reducible exact Nat.le_refl _) | (focus (simp only [World.size_alloc, World.size_setCell, World.size_drew, World.size_drewN]; omega)) | omega | exact Nat.le_refl _ | (focus (simp; done)) | (focus (simp; omega))))⟩
set_option maxRecDepth 100000 in
set_option maxHeartbeats 2000000 in
theorem rsame_0_13 (aA aB : Option Addr) (cA cB : Nat) (la lb : List Cmd) (uA : Bool) (tm st t ck cv ce cp cn c0 c1 c2 : Int) (w : World) :
    Calls Try.prog 37 #[.agg #[.slice aA la.length cA, .slice aB lb.length cB, .bool uA, .bool true, .int .i64 0, .int .i64 tm, .int .i64 st], .agg #[.int .i64 3, .int .i64 t, .int .i64 1, .int .i64 ck, .int .i64 cv, .int .i64 ce, .int .i64 cp, .int .i64 cn, .int .i64 c0, .int .i64 c1, .int .i64 c2]] w
      fun e w' => e = .returned (.tuple #[.agg #[.slice aA la.length cA, .slice aB lb.length cB, .bool uA, .bool true, .int .i64 0, .int .i64 tm, .int .i64 st], .int .i64 0, .int .i64 14]) ∧ Below w.heap.size w w' := by
  go_enter Try.func37, Try.ntmps37
  go_wp2_with fail
  refine wp_region_now0 [1, 3] [(0, 0), (1, 2), (2, 0), (3, 2), (4, 0), (5, 0), (6, 0)] (by kernel_rfl) (by kernel_rfl) rfl (by kernel_rfl) ?_
  refine stepE0 rfl rfl (fun K hK => ?_)
  go_simp
  refine hK _ ?_
  clear hK K
  refine stepE2 rfl rfl ?_ (fun w1 hS => ?_) (fun K hK => ?_)
  rotate_left
  focus (obtain rfl : w1 = _ := hS; go_simp; rfl)
  go_simp
  refine hK _ ?_
  clear hK K
  refine stepE0 rfl rfl (fun K hK => ?_)
  go_simp
  refine hK _ ?_
  clear hK K
  refine stepE2 rfl rfl ?_ (fun w1 hS => ?_) (fun K hK => ?_)
  rotate_left
  focus (obtain rfl : w1 = _ := hS; go_simp; rfl)
  go_simp
  refine hK _ ?_
  clear hK K
  refine stepE0 rfl rfl (fun K hK => ?_)
  go_simp
  refine hK _ ?_
  clear hK K
  refine stepE0 rfl rfl (fun K hK => ?_)
  go_simp
  refine hK _ ?_
  clear hK K
  refine stepE0 rfl rfl (fun K hK => ?_)
  go_simp
  refine hK _ ?_
  clear hK K
  try refine stepEnil0 ?_
  go_wp2_with fail
  obtain ⟨SS, HSD⟩ : ∃ SS : World → Prop, Hid (SS = fun w' => w'.cell? ⟨w.heap.size, 0, none⟩ = some (.slice aA la.length cA) ∧ w'.cell? ⟨w.heap.size, 1, none⟩ = some (.slice aB lb.length cB) ∧ w'.cell? ⟨w.heap.size, 2, none⟩ = some (.bool uA) ∧ w'.cell? ⟨w.heap.size, 3, none⟩ = some (.bool true) ∧ w'.cell? ⟨w.heap.size, 4, none⟩ = some (.int .i64 0) ∧ w'.cell? ⟨w.heap.size, 5, none⟩ = some (.int .i64 tm) ∧ w'.cell? ⟨w.heap.size, 6, none⟩ = some (.int .i64 st)) := ⟨_, Lib.hid rfl⟩
  refine wp_region_order0 SS [0, 3] [(0, 2), (1, 0), (3, 2), (4, 0), (2, 1), (5, 1), (6, 0), (7, 0)] (by kernel_rfl) (by kernel_rfl) rfl (by kernel_rfl) ?_ ?_
  focus (rw [HSD.out]; refine ⟨?_, ?_, ?_, ?_, ?_, ?_, ?_⟩ <;> go_simp)
  refine stepE2 rfl rfl ?_ (fun w1 hS => ?_) (fun K hK => ?_)
  rotate_left
  focus (rw [HSD.out] at hS; obtain ⟨s0, s1, s2, s3, s4, s5, s6⟩ := hS; go_simp; rfl)
  go_simp
  refine hK _ ?_
  clear hK K
  refine stepE0 rfl rfl (fun K hK => ?_)
  go_simp
  refine hK _ ?_
  clear hK K
  refine stepE2 rfl rfl ?_ (fun w1 hS => ?_) (fun K hK => ?_)
  rotate_left
  focus (rw [HSD.out] at hS; obtain ⟨s0, s1, s2, s3, s4, s5, s6⟩ := hS; go_simp; rfl)
  go_simp
  refine hK _ ?_
  clear hK K
  refine stepE0 rfl rfl (fun K hK => ?_)
  go_simp
  refine hK _ ?_
  clear hK K
  refine stepE1S rfl rfl (fun K hK => ?_)
  (go_wp2_with fail; refine Calls.mono (rlog_0 _ _ _ _ _ _ _ _ _ _ _ _) ?_; rintro e w2 ⟨rfl, rfl⟩; go_wp2)
  refine ⟨by rw [HSD.out]; exact (by refine ⟨?_, ?_, ?_, ?_, ?_, ?_, ?_⟩ <;> go_simp), ?_⟩
  refine stepE1 rfl rfl (by kernel_rfl) (fun K hK => ?_)
  (go_wp2_with fail; refine Calls.mono (rlog_1 _ _ _ _ _ _ _ _ _ _ _ _) ?_; rintro e w2 ⟨rfl, rfl⟩; go_wp2)
  refine stepE0 rfl rfl (fun K hK => ?_)
  go_simp
  refine hK _ ?_
  clear hK K
  refine stepE0 rfl rfl (fun K hK => ?_)
  go_simp
  refine hK _ ?_
  clear hK K
  try refine stepEnil0 ?_
  clear HSD SS
  go_wp2_with fail
  refine bodyPost_ret (v := .tuple #[.agg #[.slice aA la.length cA, .slice aB lb.length cB, .bool uA, .bool true, .int .i64 0, .int .i64 tm, .int .i64 st], .int .i64 0, .int .i64 14]) ?_ rfl ?_
  · simp [results, Try.results37, go_sem]
  · exact ⟨rfl, (by repeat (first | (with_reducible exact Below.refl _ _) | (with_reducible refine Below.setCell ?_ ?_ _) | (with_reducible refine Below.alloc ?_ ?_ _) | (with_reducible refine Below.drewN ?_ _) | (with_reducible refine Below.drew ?_) | (with_reducible exact Nat.le_refl _) | (focus (simp only [World.size_alloc, World.size_setCell, World.size_drew, World.size_drewN]; omega)) | omega | exact Nat.le_refl _ | (focus (simp; done)) | (focus (simp; omega))))⟩
set_option maxRecDepth 100000 in
set_option maxHeartbeats 2000000 in
theorem rsame_0_14 (aA aB : Option Addr) (cA cB : Nat) (la lb : List Cmd)  (tm st t ck cv ce cp cn c0 c1 c2 : Int) (w : World) :
    Calls Try.prog 37 #[.agg #[.slice aA la.length cA, .slice aB lb.length cB, .bool false, .bool false, .int .i64 0, .int .i64 tm, .int .i64 st], .agg #[.int .i64 3, .int .i64 t, .int .i64 1, .int .i64 ck, .int .i64 cv, .int .i64 ce, .int .i64 cp, .int .i64 cn, .int .i64 c0, .int .i64 c1, .int .i64 c2]] w
      fun e w' => e = .returned (.tuple #[.agg #[.slice aA la.length cA, .slice aB lb.length cB, .bool false, .bool false, .int .i64 0, .int .i64 tm, .int .i64 st], .int .i64 0, .int .i64 12]) ∧ Below w.heap.size w w' := by
  go_enter Try.func37, Try.ntmps37
  go_wp2_with fail
  refine wp_region_now0 [1, 3] [(0, 0), (1, 2), (2, 0), (3, 2), (4, 0), (5, 0), (6, 0)] (by kernel_rfl) (by kernel_rfl) rfl (by kernel_rfl) ?_
  refine stepE0 rfl rfl (fun K hK => ?_)
  go_simp
  refine hK _ ?_
  clear hK K
  refine stepE2 rfl rfl ?_ (fun w1 hS => ?_) (fun K hK => ?_)
  rotate_left
  focus (obtain rfl : w1 = _ := hS; go_simp; rfl)
  go_simp
  refine hK _ ?_
  clear hK K
  refine stepE0 rfl rfl (fun K hK => ?_)
  go_simp
  refine hK _ ?_
  clear hK K
  refine stepE2 rfl rfl ?_ (fun w1 hS => ?_) (fun K hK => ?_)
  rotate_left
  focus (obtain rfl : w1 = _ := hS; go_simp; rfl)
  go_simp
  refine hK _ ?_
  clear hK K
  refine stepE0 rfl rfl (fun K hK => ?_)
  go_simp
  refine hK _ ?_
  clear hK K
  refine stepE0 rfl rfl (fun K hK => ?_)
  go_simp
  refine hK _ ?_
  clear hK K
  refine stepE0 rfl rfl (fun K hK => ?_)
  go_simp
  refine hK _ ?_
  clear hK K
  try refine stepEnil0 ?_
  go_wp2_with fail
  obtain ⟨SS, HSD⟩ : ∃ SS : World → Prop, Hid (SS = fun w' => w'.cell? ⟨w.heap.size, 0, none⟩ = some (.slice aA la.length cA) ∧ w'.cell? ⟨w.heap.size, 1, none⟩ = some (.slice aB lb.length cB) ∧ w'.cell? ⟨w.heap.size, 2, none⟩ = some (.bool false) ∧ w'.cell? ⟨w.heap.size, 3, none⟩ = some (.bool false) ∧ w'.cell? ⟨w.heap.size, 4, none⟩ = some (.int .i64 0) ∧ w'.cell? ⟨w.heap.size, 5, none⟩ = some (.int .i64 tm) ∧ w'.cell? ⟨w.heap.size, 6, none⟩ = some (.int .i64 st)) := ⟨_, Lib.hid rfl⟩
  refine wp_region_order0 SS [0, 3] [(0, 2), (1, 0), (3, 2), (4, 0), (2, 1), (5, 1), (6, 0), (7, 0)] (by kernel_rfl) (by kernel_rfl) rfl (by kernel_rfl) ?_ ?_
  focus (rw [HSD.out]; refine ⟨?_, ?_, ?_, ?_, ?_, ?_, ?_⟩ <;> go_simp)
  refine stepE2 rfl rfl ?_ (fun w1 hS => ?_) (fun K hK => ?_)
  rotate_left
  focus (rw [HSD.out] at hS; obtain ⟨s0, s1, s2, s3, s4, s5, s6⟩ := hS; go_simp; rfl)
  go_simp
  refine hK _ ?_
  clear hK K
  refine stepE0 rfl rfl (fun K hK => ?_)
  go_simp
  refine hK _ ?_
  clear hK K
  refine stepE2 rfl rfl ?_ (fun w1 hS => ?_) (fun K hK => ?_)
  rotate_left
  focus (rw [HSD.out] at hS; obtain ⟨s0, s1, s2, s3, s4, s5, s6⟩ := hS; go_simp; rfl)
  go_simp
  refine hK _ ?_
  clear hK K
  refine stepE0 rfl rfl (fun K hK => ?_)
  go_simp
  refine hK _ ?_
  clear hK K
  refine stepE1S rfl rfl (fun K hK => ?_)
  (go_wp2_with fail; refine Calls.mono (rlog_0 _ _ _ _ _ _ _ _ _ _ _ _) ?_; rintro e w2 ⟨rfl, rfl⟩; go_wp2)
  refine ⟨by rw [HSD.out]; exact (by refine ⟨?_, ?_, ?_, ?_, ?_, ?_, ?_⟩ <;> go_simp), ?_⟩
  refine stepE1 rfl rfl (by kernel_rfl) (fun K hK => ?_)
  (go_wp2_with fail; refine Calls.mono (rlog_1 _ _ _ _ _ _ _ _ _ _ _ _) ?_; rintro e w2 ⟨rfl, rfl⟩; go_wp2)
  refine stepE0 rfl rfl (fun K hK => ?_)
  go_simp
  refine hK _ ?_
  clear hK K
  refine stepE0 rfl rfl (fun K hK => ?_)
  go_simp
  refine hK _ ?_
  clear hK K
  try refine stepEnil0 ?_
  clear HSD SS
  go_wp2_with fail
  refine bodyPost_ret (v := .tuple #[.agg #[.slice aA la.length cA, .slice aB lb.length cB, .bool false, .bool false, .int .i64 0, .int .i64 tm, .int .i64 st], .int .i64 0, .int .i64 12]) ?_ rfl ?_
  · simp [results, Try.results37, go_sem]
  · exact ⟨rfl, (by repeat (first | (with_reducible exact Below.refl _ _) | (with_reducible refine Below.setCell ?_ ?_ _) | (with_reducible refine Below.alloc ?_ ?_ _) | (with_reducible refine Below.drewN ?_ _) | (with_reducible refine Below.drew ?_) | (with_reducible exact Nat.le_refl _) | (focus (simp only [World.size_alloc, World.size_setCell, World.size_drew, World.size_drewN]; omega)) | omega | exact Nat.le_refl _ | (focus (simp; done)) | (focus (simp; omega))))⟩
end Go.Proofs.Ytigkcbnlbdiimaa

/- corncribref20.Do: where nothing changes. -/
namespace Go.Proofs.Ytigkcbnlbdiimaa
open Go.RowKit
set_option maxRecDepth 100000 in
set_option maxHeartbeats 2000000 in
theorem rsame_1_0 (aA aB : Option Addr) (cA cB : Nat) (la lb : List Cmd) (uA : Bool) (tm st t s ck cv ce cp cn c0 c1 c2 : Int) (w : World) :
    Calls Try.prog 37 #[.agg #[.slice aA la.length cA, .slice aB lb.length cB, .bool uA, .bool false, .int .i64 1, .int .i64 tm, .int .i64 st], .agg #[.int .i64 0, .int .i64 t, .int .i64 s, .int .i64 ck, .int .i64 cv, .int .i64 ce, .int .i64 cp, .int .i64 cn, .int .i64 c0, .int .i64 c1, .int .i64 c2]] w
      fun e w' => e = .returned (.tuple #[.agg #[.slice aA la.length cA, .slice aB lb.length cB, .bool uA, .bool false, .int .i64 1, .int .i64 tm, .int .i64 st], .int .i64 0, .int .i64 12]) ∧ Below w.heap.size w w' := by
  go_enter Try.func37, Try.ntmps37
  go_wp2_with fail
  refine wp_region_now0 [1, 3] [(0, 0), (1, 2), (2, 0), (3, 2), (4, 0), (5, 0), (6, 0)] (by kernel_rfl) (by kernel_rfl) rfl (by kernel_rfl) ?_
  refine stepE0 rfl rfl (fun K hK => ?_)
  go_simp
  refine hK _ ?_
  clear hK K
  refine stepE2 rfl rfl ?_ (fun w1 hS => ?_) (fun K hK => ?_)
  rotate_left
  focus (obtain rfl : w1 = _ := hS; go_simp; rfl)
  go_simp
  refine hK _ ?_
  clear hK K
  refine stepE0 rfl rfl (fun K hK => ?_)
  go_simp
  refine hK _ ?_
  clear hK K
  refine stepE2 rfl rfl ?_ (fun w1 hS => ?_) (fun K hK => ?_)
  rotate_left
  focus (obtain rfl : w1 = _ := hS; go_simp; rfl)
  go_simp
  refine hK _ ?_
  clear hK K
  refine stepE0 rfl rfl (fun K hK => ?_)
  go_simp
  refine hK _ ?_
  clear hK K
  refine stepE0 rfl rfl (fun K hK => ?_)
  go_simp
  refine hK _ ?_
  clear hK K
  refine stepE0 rfl rfl (fun K hK => ?_)
  go_simp
  refine hK _ ?_
  clear hK K
  try refine stepEnil0 ?_
  go_wp2_with fail
  obtain ⟨SS, HSD⟩ : ∃ SS : World → Prop, Hid (SS = fun w' => w'.cell? ⟨w.heap.size, 0, none⟩ = some (.slice aA la.length cA) ∧ w'.cell? ⟨w.heap.size, 1, none⟩ = some (.slice aB lb.length cB) ∧ w'.cell? ⟨w.heap.size, 2, none⟩ = some (.bool uA) ∧ w'.cell? ⟨w.heap.size, 3, none⟩ = some (.bool false) ∧ w'.cell? ⟨w.heap.size, 4, none⟩ = some (.int .i64 1) ∧ w'.cell? ⟨w.heap.size, 5, none⟩ = some (.int .i64 tm) ∧ w'.cell? ⟨w.heap.size, 6, none⟩ = some (.int .i64 st)) := ⟨_, Lib.hid rfl⟩
  refine wp_region_order0 SS [0, 3] [(0, 2), (1, 0), (3, 2), (4, 0), (2, 1), (5, 1), (6, 0), (7, 0)] (by kernel_rfl) (by kernel_rfl) rfl (by kernel_rfl) ?_ ?_
  focus (rw [HSD.out]; refine ⟨?_, ?_, ?_, ?_, ?_, ?_, ?_⟩ <;> go_simp)
  refine stepE2 rfl rfl ?_ (fun w1 hS => ?_) (fun K hK => ?_)
  rotate_left
  focus (rw [HSD.out] at hS; obtain ⟨s0, s1, s2, s3, s4, s5, s6⟩ := hS; go_simp; rfl)
  go_simp
  refine hK _ ?_
  clear hK K
  refine stepE0 rfl rfl (fun K hK => ?_)
  go_simp
  refine hK _ ?_
  clear hK K
  refine stepE2 rfl rfl ?_ (fun w1 hS => ?_) (fun K hK => ?_)
  rotate_left
  focus (rw [HSD.out] at hS; obtain ⟨s0, s1, s2, s3, s4, s5, s6⟩ := hS; go_simp; rfl)
  go_simp
  refine hK _ ?_
  clear hK K
  refine stepE0 rfl rfl (fun K hK => ?_)
  go_simp
  refine hK _ ?_
  clear hK K
  refine stepE1S rfl rfl (fun K hK => ?_)
  (go_wp2_with fail; refine Calls.mono (rlog_1 _ _ _ _ _ _ _ _ _ _ _ _) ?_; rintro e w2 ⟨rfl, rfl⟩; go_wp2)
  refine ⟨by rw [HSD.out]; exact (by refine ⟨?_, ?_, ?_, ?_, ?_, ?_, ?_⟩ <;> go_simp), ?_⟩
  refine stepE1 rfl rfl (by kernel_rfl) (fun K hK => ?_)
  (go_wp2_with fail; refine Calls.mono (rlog_0 _ _ _ _ _ _ _ _ _ _ _ _) ?_; rintro e w2 ⟨rfl, rfl⟩; go_wp2)
  refine stepE0 rfl rfl (fun K hK => ?_)
  go_simp
  refine hK _ ?_
  clear hK K
  refine stepE0 rfl rfl (fun K hK => ?_)
  go_simp
  refine hK _ ?_
  clear hK K
  try refine stepEnil0 ?_
  clear HSD SS
  go_wp2_with fail
  refine bodyPost_ret (v := .tuple #[.agg #[.slice aA la.length cA, .slice aB lb.length cB, .bool uA, .bool false, .int .i64 1, .int .i64 tm, .int .i64 st], .int .i64 0, .int .i64 12]) ?_ rfl ?_
  · simp [results, Try.results37, go_sem]
  · exact ⟨rfl, (by repeat (first | (with_reducible exact Below.refl _ _) | (with_reducible refine Below.setCell ?_ ?_ _) | (with_reducible refine Below.alloc ?_ ?_ _) | (with_reducible refine Below.drewN ?_ _) | (with_reducible refine Below.drew ?_) | (with_reducible exact Nat.le_refl _) | (focus (simp only [World.size_alloc, World.size_setCell, World.size_drew, World.size_drewN]; omega)) | omega | exact Nat.le_refl _ | (focus (simp; done)) | (focus (simp; omega))))⟩
set_option maxRecDepth 100000 in
set_option maxHeartbeats 2000000 in
theorem rsame_1_1 (aA aB : Option Addr) (cA cB : Nat) (la lb : List Cmd) (uA : Bool) (tm st t s ck cv ce cp cn c0 c1 c2 : Int) (w : World) (h1 : (t != tm) = true) :
    Calls Try.prog 37 #[.agg #[.slice aA la.length cA, .slice aB lb.length cB, .bool uA, .bool true, .int .i64 1, .int .i64 tm, .int .i64 st], .agg #[.int .i64 0, .int .i64 t, .int .i64 s, .int .i64 ck, .int .i64 cv, .int .i64 ce, .int .i64 cp, .int .i64 cn, .int .i64 c0, .int .i64 c1, .int .i64 c2]] w
      fun e w' => e = .returned (.tuple #[.agg #[.slice aA la.length cA, .slice aB lb.length cB, .bool uA, .bool true, .int .i64 1, .int .i64 tm, .int .i64 st], .int .i64 0, .int .i64 13]) ∧ Below w.heap.size w w' := by
  go_enter Try.func37, Try.ntmps37
  go_wp2_with fail
  refine wp_region_now0 [1, 3] [(0, 0), (1, 2), (2, 0), (3, 2), (4, 0), (5, 0), (6, 0)] (by kernel_rfl) (by kernel_rfl) rfl (by kernel_rfl) ?_
  refine stepE0 rfl rfl (fun K hK => ?_)
  go_simp
  refine hK _ ?_
  clear hK K
  refine stepE2 rfl rfl ?_ (fun w1 hS => ?_) (fun K hK => ?_)
  rotate_left
  focus (obtain rfl : w1 = _ := hS; go_simp; rfl)
  go_simp
  refine hK _ ?_
  clear hK K
  refine stepE0 rfl rfl (fun K hK => ?_)
  go_simp
  refine hK _ ?_
  clear hK K
  refine stepE2 rfl rfl ?_ (fun w1 hS => ?_) (fun K hK => ?_)
  rotate_left
  focus (obtain rfl : w1 = _ := hS; go_simp; rfl)
  go_simp
  refine hK _ ?_
  clear hK K
  refine stepE0 rfl rfl (fun K hK => ?_)
  go_simp
  refine hK _ ?_
  clear hK K
  refine stepE0 rfl rfl (fun K hK => ?_)
  go_simp
  refine hK _ ?_
  clear hK K
  refine stepE0 rfl rfl (fun K hK => ?_)
  go_simp
  refine hK _ ?_
  clear hK K
  try refine stepEnil0 ?_
  go_wp2_with fail
  obtain ⟨SS, HSD⟩ : ∃ SS : World → Prop, Hid (SS = fun w' => w'.cell? ⟨w.heap.size, 0, none⟩ = some (.slice aA la.length cA) ∧ w'.cell? ⟨w.heap.size, 1, none⟩ = some (.slice aB lb.length cB) ∧ w'.cell? ⟨w.heap.size, 2, none⟩ = some (.bool uA) ∧ w'.cell? ⟨w.heap.size, 3, none⟩ = some (.bool true) ∧ w'.cell? ⟨w.heap.size, 4, none⟩ = some (.int .i64 1) ∧ w'.cell? ⟨w.heap.size, 5, none⟩ = some (.int .i64 tm) ∧ w'.cell? ⟨w.heap.size, 6, none⟩ = some (.int .i64 st)) := ⟨_, Lib.hid rfl⟩
  refine wp_region_order0 SS [0, 3] [(0, 2), (1, 0), (3, 2), (4, 0), (2, 1), (5, 1), (6, 0), (7, 0)] (by kernel_rfl) (by kernel_rfl) rfl (by kernel_rfl) ?_ ?_
  focus (rw [HSD.out]; refine ⟨?_, ?_, ?_, ?_, ?_, ?_, ?_⟩ <;> go_simp)
  refine stepE2 rfl rfl ?_ (fun w1 hS => ?_) (fun K hK => ?_)
  rotate_left
  focus (rw [HSD.out] at hS; obtain ⟨s0, s1, s2, s3, s4, s5, s6⟩ := hS; go_simp; rfl)
  go_simp
  refine hK _ ?_
  clear hK K
  refine stepE0 rfl rfl (fun K hK => ?_)
  go_simp
  refine hK _ ?_
  clear hK K
  refine stepE2 rfl rfl ?_ (fun w1 hS => ?_) (fun K hK => ?_)
  rotate_left
  focus (rw [HSD.out] at hS; obtain ⟨s0, s1, s2, s3, s4, s5, s6⟩ := hS; go_simp; rfl)
  go_simp
  refine hK _ ?_
  clear hK K
  refine stepE0 rfl rfl (fun K hK => ?_)
  go_simp
  refine hK _ ?_
  clear hK K
  refine stepE1S rfl rfl (fun K hK => ?_)
  (go_wp2_with fail; refine Calls.mono (rlog_1 _ _ _ _ _ _ _ _ _ _ _ _) ?_; rintro e w2 ⟨rfl, rfl⟩; go_wp2)
  refine ⟨by rw [HSD.out]; exact (by refine ⟨?_, ?_, ?_, ?_, ?_, ?_, ?_⟩ <;> go_simp), ?_⟩
  refine stepE1 rfl rfl (by kernel_rfl) (fun K hK => ?_)
  (go_wp2_with fail; refine Calls.mono (rlog_0 _ _ _ _ _ _ _ _ _ _ _ _) ?_; rintro e w2 ⟨rfl, rfl⟩; go_wp2)
  refine stepE0 rfl rfl (fun K hK => ?_)
  go_simp
  refine hK _ ?_
  clear hK K
  refine stepE0 rfl rfl (fun K hK => ?_)
  go_simp
  refine hK _ ?_
  clear hK K
  try refine stepEnil0 ?_
  clear HSD SS
  go_wp2_with fail
  refine bodyPost_ret (v := .tuple #[.agg #[.slice aA la.length cA, .slice aB lb.length cB, .bool uA, .bool true, .int .i64 1, .int .i64 tm, .int .i64 st], .int .i64 0, .int .i64 13]) ?_ rfl ?_
  · simp [results, Try.results37, go_sem]
  · exact ⟨rfl, (by repeat (first | (with_reducible exact Below.refl _ _) | (with_reducible refine Below.setCell ?_ ?_ _) | (with_reducible refine Below.alloc ?_ ?_ _) | (with_reducible refine Below.drewN ?_ _) | (with_reducible refine Below.drew ?_) | (with_reducible exact Nat.le_refl _) | (focus (simp only [World.size_alloc, World.size_setCell, World.size_drew, World.size_drewN]; omega)) | omega | exact Nat.le_refl _ | (focus (simp; done)) | (focus (simp; omega))))⟩
set_option maxRecDepth 100000 in
set_option maxHeartbeats 2000000 in
theorem rsame_1_2 (aA aB : Option Addr) (cA cB : Nat) (la lb : List Cmd)  (tm st t s ck cv ce cp cn c0 c1 c2 : Int) (w : World) :
    Calls Try.prog 37 #[.agg #[.slice aA la.length cA, .slice aB lb.length cB, .bool false, .bool false, .int .i64 1, .int .i64 tm, .int .i64 st], .agg #[.int .i64 1, .int .i64 t, .int .i64 s, .int .i64 ck, .int .i64 cv, .int .i64 ce, .int .i64 cp, .int .i64 cn, .int .i64 c0, .int .i64 c1, .int .i64 c2]] w
      fun e w' => e = .returned (.tuple #[.agg #[.slice aA la.length cA, .slice aB lb.length cB, .bool false, .bool false, .int .i64 1, .int .i64 tm, .int .i64 st], .int .i64 0, .int .i64 12]) ∧ Below w.heap.size w w' := by
  go_enter Try.func37, Try.ntmps37
  go_wp2_with fail
  refine wp_region_now0 [1, 3] [(0, 0), (1, 2), (2, 0), (3, 2), (4, 0), (5, 0), (6, 0)] (by kernel_rfl) (by kernel_rfl) rfl (by kernel_rfl) ?_
  refine stepE0 rfl rfl (fun K hK => ?_)
  go_simp
  refine hK _ ?_
  clear hK K
  refine stepE2 rfl rfl ?_ (fun w1 hS => ?_) (fun K hK => ?_)
  rotate_left
  focus (obtain rfl : w1 = _ := hS; go_simp; rfl)
  go_simp
  refine hK _ ?_
  clear hK K
  refine stepE0 rfl rfl (fun K hK => ?_)
  go_simp
  refine hK _ ?_
  clear hK K
  refine stepE2 rfl rfl ?_ (fun w1 hS => ?_) (fun K hK => ?_)
  rotate_left
  focus (obtain rfl : w1 = _ := hS; go_simp; rfl)
  go_simp
  refine hK _ ?_
  clear hK K
  refine stepE0 rfl rfl (fun K hK => ?_)
  go_simp
  refine hK _ ?_
  clear hK K
  refine stepE0 rfl rfl (fun K hK => ?_)
  go_simp
  refine hK _ ?_
  clear hK K
  refine stepE0 rfl rfl (fun K hK => ?_)
  go_simp
  refine hK _ ?_
  clear hK K
  try refine stepEnil0 ?_
  go_wp2_with fail
  obtain ⟨SS, HSD⟩ : ∃ SS : World → Prop, Hid (SS = fun w' => w'.cell? ⟨w.heap.size, 0, none⟩ = some (.slice aA la.length cA) ∧ w'.cell? ⟨w.heap.size, 1, none⟩ = some (.slice aB lb.length cB) ∧ w'.cell? ⟨w.heap.size, 2, none⟩ = some (.bool false) ∧ w'.cell? ⟨w.heap.size, 3, none⟩ = some (.bool false) ∧ w'.cell? ⟨w.heap.size, 4, none⟩ = some (.int .i64 1) ∧ w'.cell? ⟨w.heap.size, 5, none⟩ = some (.int .i64 tm) ∧ w'.cell? ⟨w.heap.size, 6, none⟩ = some (.int .i64 st)) := ⟨_, Lib.hid rfl⟩
  refine wp_region_order0 SS [0, 3] [(0, 2), (1, 0), (3, 2), (4, 0), (2, 1), (5, 1), (6, 0), (7, 0)] (by kernel_rfl) (by kernel_rfl) rfl (by kernel_rfl) ?_ ?_
  focus (rw [HSD.out]; refine ⟨?_, ?_, ?_, ?_, ?_, ?_, ?_⟩ <;> go_simp)
  refine stepE2 rfl rfl ?_ (fun w1 hS => ?_) (fun K hK => ?_)
  rotate_left
  focus (rw [HSD.out] at hS; obtain ⟨s0, s1, s2, s3, s4, s5, s6⟩ := hS; go_simp; rfl)
  go_simp
  refine hK _ ?_
  clear hK K
  refine stepE0 rfl rfl (fun K hK => ?_)
  go_simp
  refine hK _ ?_
  clear hK K
  refine stepE2 rfl rfl ?_ (fun w1 hS => ?_) (fun K hK => ?_)
  rotate_left
  focus (rw [HSD.out] at hS; obtain ⟨s0, s1, s2, s3, s4, s5, s6⟩ := hS; go_simp; rfl)
  go_simp
  refine hK _ ?_
  clear hK K
  refine stepE0 rfl rfl (fun K hK => ?_)
  go_simp
  refine hK _ ?_
  clear hK K
  refine stepE1S rfl rfl (fun K hK => ?_)
  (go_wp2_with fail; refine Calls.mono (rlog_1 _ _ _ _ _ _ _ _ _ _ _ _) ?_; rintro e w2 ⟨rfl, rfl⟩; go_wp2)
  refine ⟨by rw [HSD.out]; exact (by refine ⟨?_, ?_, ?_, ?_, ?_, ?_, ?_⟩ <;> go_simp), ?_⟩
  refine stepE1 rfl rfl (by kernel_rfl) (fun K hK => ?_)
  (go_wp2_with fail; refine Calls.mono (rlog_0 _ _ _ _ _ _ _ _ _ _ _ _) ?_; rintro e w2 ⟨rfl, rfl⟩; go_wp2)
  refine stepE0 rfl rfl (fun K hK => ?_)
  go_simp
  refine hK _ ?_
  clear hK K
  refine stepE0 rfl rfl (fun K hK => ?_)
  go_simp
  refine hK _ ?_
  clear hK K
  try refine stepEnil0 ?_
  clear HSD SS
  go_wp2_with fail
  refine bodyPost_ret (v := .tuple #[.agg #[.slice aA la.length cA, .slice aB lb.length cB, .bool false, .bool false, .int .i64 1, .int .i64 tm, .int .i64 st], .int .i64 0, .int .i64 12]) ?_ rfl ?_
  · simp [results, Try.results37, go_sem]
  · exact ⟨rfl, (by repeat (first | (with_reducible exact Below.refl _ _) | (with_reducible refine Below.setCell ?_ ?_ _) | (with_reducible refine Below.alloc ?_ ?_ _) | (with_reducible refine Below.drewN ?_ _) | (with_reducible refine Below.drew ?_) | (with_reducible exact Nat.le_refl _) | (focus (simp only [World.size_alloc, World.size_setCell, World.size_drew, World.size_drewN]; omega)) | omega | exact Nat.le_refl _ | (focus (simp; done)) | (focus (simp; omega))))⟩
set_option maxRecDepth 100000 in
set_option maxHeartbeats 2000000 in
theorem rsame_1_3 (aA aB : Option Addr) (cA cB : Nat) (la lb : List Cmd)  (tm st t s ck cv ce cp cn c0 c1 c2 : Int) (w : World) :
    Calls Try.prog 37 #[.agg #[.slice aA la.length cA, .slice aB lb.length cB, .bool false, .bool true, .int .i64 1, .int .i64 tm, .int .i64 st], .agg #[.int .i64 1, .int .i64 t, .int .i64 s, .int .i64 ck, .int .i64 cv, .int .i64 ce, .int .i64 cp, .int .i64 cn, .int .i64 c0, .int .i64 c1, .int .i64 c2]] w
      fun e w' => e = .returned (.tuple #[.agg #[.slice aA la.length cA, .slice aB lb.length cB, .bool false, .bool true, .int .i64 1, .int .i64 tm, .int .i64 st], .int .i64 0, .int .i64 12]) ∧ Below w.heap.size w w' := by
  go_enter Try.func37, Try.ntmps37
  go_wp2_with fail
  refine wp_region_now0 [1, 3] [(0, 0), (1, 2), (2, 0), (3, 2), (4, 0), (5, 0), (6, 0)] (by kernel_rfl) (by kernel_rfl) rfl (by kernel_rfl) ?_
  refine stepE0 rfl rfl (fun K hK => ?_)
  go_simp
  refine hK _ ?_
  clear hK K
  refine stepE2 rfl rfl ?_ (fun w1 hS => ?_) (fun K hK => ?_)
  rotate_left
  focus (obtain rfl : w1 = _ := hS; go_simp; rfl)
  go_simp
  refine hK _ ?_
  clear hK K
  refine stepE0 rfl rfl (fun K hK => ?_)
  go_simp
  refine hK _ ?_
  clear hK K
  refine stepE2 rfl rfl ?_ (fun w1 hS => ?_) (fun K hK => ?_)
  rotate_left
  focus (obtain rfl : w1 = _ := hS; go_simp; rfl)
  go_simp
  refine hK _ ?_
  clear hK K
  refine stepE0 rfl rfl (fun K hK => ?_)
  go_simp
  refine hK _ ?_
  clear hK K
  refine stepE0 rfl rfl (fun K hK => ?_)
  go_simp
  refine hK _ ?_
  clear hK K
  refine stepE0 rfl rfl (fun K hK => ?_)
  go_simp
  refine hK _ ?_
  clear hK K
  try refine stepEnil0 ?_
  go_wp2_with fail
  obtain ⟨SS, HSD⟩ : ∃ SS : World → Prop, Hid (SS = fun w' => w'.cell? ⟨w.heap.size, 0, none⟩ = some (.slice aA la.length cA) ∧ w'.cell? ⟨w.heap.size, 1, none⟩ = some (.slice aB lb.length cB) ∧ w'.cell? ⟨w.heap.size, 2, none⟩ = some (.bool false) ∧ w'.cell? ⟨w.heap.size, 3, none⟩ = some (.bool true) ∧ w'.cell? ⟨w.heap.size, 4, none⟩ = some (.int .i64 1) ∧ w'.cell? ⟨w.heap.size, 5, none⟩ = some (.int .i64 tm) ∧ w'.cell? ⟨w.heap.size, 6, none⟩ = some (.int .i64 st)) := ⟨_, Lib.hid rfl⟩
  refine wp_region_order0 SS [0, 3] [(0, 2), (1, 0), (3, 2), (4, 0), (2, 1), (5, 1), (6, 0), (7, 0)] (by kernel_rfl) (by kernel_rfl) rfl (by kernel_rfl) ?_ ?_
  focus (rw [HSD.out]; refine ⟨?_, ?_, ?_, ?_, ?_, ?_, ?_⟩ <;> go_simp)
  refine stepE2 rfl rfl ?_ (fun w1 hS => ?_) (fun K hK => ?_)
  rotate_left
  focus (rw [HSD.out] at hS; obtain ⟨s0, s1, s2, s3, s4, s5, s6⟩ := hS; go_simp; rfl)
  go_simp
  refine hK _ ?_
  clear hK K
  refine stepE0 rfl rfl (fun K hK => ?_)
  go_simp
  refine hK _ ?_
  clear hK K
  refine stepE2 rfl rfl ?_ (fun w1 hS => ?_) (fun K hK => ?_)
  rotate_left
  focus (rw [HSD.out] at hS; obtain ⟨s0, s1, s2, s3, s4, s5, s6⟩ := hS; go_simp; rfl)
  go_simp
  refine hK _ ?_
  clear hK K
  refine stepE0 rfl rfl (fun K hK => ?_)
  go_simp
  refine hK _ ?_
  clear hK K
  refine stepE1S rfl rfl (fun K hK => ?_)
  (go_wp2_with fail; refine Calls.mono (rlog_1 _ _ _ _ _ _ _ _ _ _ _ _) ?_; rintro e w2 ⟨rfl, rfl⟩; go_wp2)
  refine ⟨by rw [HSD.out]; exact (by refine ⟨?_, ?_, ?_, ?_, ?_, ?_, ?_⟩ <;> go_simp), ?_⟩
  refine stepE1 rfl rfl (by kernel_rfl) (fun K hK => ?_)
  (go_wp2_with fail; refine Calls.mono (rlog_0 _ _ _ _ _ _ _ _ _ _ _ _) ?_; rintro e w2 ⟨rfl, rfl⟩; go_wp2)
  refine stepE0 rfl rfl (fun K hK => ?_)
  go_simp
  refine hK _ ?_
  clear hK K
  refine stepE0 rfl rfl (fun K hK => ?_)
  go_simp
  refine hK _ ?_
  clear hK K
  try refine stepEnil0 ?_
  clear HSD SS
  go_wp2_with fail
  refine bodyPost_ret (v := .tuple #[.agg #[.slice aA la.length cA, .slice aB lb.length cB, .bool false, .bool true, .int .i64 1, .int .i64 tm, .int .i64 st], .int .i64 0, .int .i64 12]) ?_ rfl ?_
  · simp [results, Try.results37, go_sem]
  · exact ⟨rfl, (by repeat (first | (with_reducible exact Below.refl _ _) | (with_reducible refine Below.setCell ?_ ?_ _) | (with_reducible refine Below.alloc ?_ ?_ _) | (with_reducible refine Below.drewN ?_ _) | (with_reducible refine Below.drew ?_) | (with_reducible exact Nat.le_refl _) | (focus (simp only [World.size_alloc, World.size_setCell, World.size_drew, World.size_drewN]; omega)) | omega | exact Nat.le_refl _ | (focus (simp; done)) | (focus (simp; omega))))⟩
set_option maxRecDepth 100000 in
set_option maxHeartbeats 2000000 in
theorem rsame_1_4 (aA aB : Option Addr) (cA cB : Nat) (la lb : List Cmd)  (tm st t s ck cv ce cp cn c0 c1 c2 : Int) (w : World) (h1 : (t != tm) = true) :
    Calls Try.prog 37 #[.agg #[.slice aA la.length cA, .slice aB lb.length cB, .bool true, .bool true, .int .i64 1, .int .i64 tm, .int .i64 st], .agg #[.int .i64 1, .int .i64 t, .int .i64 s, .int .i64 ck, .int .i64 cv, .int .i64 ce, .int .i64 cp, .int .i64 cn, .int .i64 c0, .int .i64 c1, .int .i64 c2]] w
      fun e w' => e = .returned (.tuple #[.agg #[.slice aA la.length cA, .slice aB lb.length cB, .bool true, .bool true, .int .i64 1, .int .i64 tm, .int .i64 st], .int .i64 0, .int .i64 13]) ∧ Below w.heap.size w w' := by
  go_enter Try.func37, Try.ntmps37
  go_wp2_with fail
  refine wp_region_now0 [1, 3] [(0, 0), (1, 2), (2, 0), (3, 2), (4, 0), (5, 0), (6, 0)] (by kernel_rfl) (by kernel_rfl) rfl (by kernel_rfl) ?_
  refine stepE0 rfl rfl (fun K hK => ?_)
  go_simp
  refine hK _ ?_
  clear hK K
  refine stepE2 rfl rfl ?_ (fun w1 hS => ?_) (fun K hK => ?_)
  rotate_left
  focus (obtain rfl : w1 = _ := hS; go_simp; rfl)
  go_simp
  refine hK _ ?_
  clear hK K
  refine stepE0 rfl rfl (fun K hK => ?_)
  go_simp
  refine hK _ ?_
  clear hK K
  refine stepE2 rfl rfl ?_ (fun w1 hS => ?_) (fun K hK => ?_)
  rotate_left
  focus (obtain rfl : w1 = _ := hS; go_simp; rfl)
  go_simp
  refine hK _ ?_
  clear hK K
  refine stepE0 rfl rfl (fun K hK => ?_)
  go_simp
  refine hK _ ?_
  clear hK K
  refine stepE0 rfl rfl (fun K hK => ?_)
  go_simp
  refine hK _ ?_
  clear hK K
  refine stepE0 rfl rfl (fun K hK => ?_)
  go_simp
  refine hK _ ?_
  clear hK K
  try refine stepEnil0 ?_
  go_wp2_with fail
  obtain ⟨SS, HSD⟩ : ∃ SS : World → Prop, Hid (SS = fun w' => w'.cell? ⟨w.heap.size, 0, none⟩ = some (.slice aA la.length cA) ∧ w'.cell? ⟨w.heap.size, 1, none⟩ = some (.slice aB lb.length cB) ∧ w'.cell? ⟨w.heap.size, 2, none⟩ = some (.bool true) ∧ w'.cell? ⟨w.heap.size, 3, none⟩ = some (.bool true) ∧ w'.cell? ⟨w.heap.size, 4, none⟩ = some (.int .i64 1) ∧ w'.cell? ⟨w.heap.size, 5, none⟩ = some (.int .i64 tm) ∧ w'.cell? ⟨w.heap.size, 6, none⟩ = some (.int .i64 st)) := ⟨_, Lib.hid rfl⟩
  refine wp_region_order0 SS [0, 3] [(0, 2), (1, 0), (3, 2), (4, 0), (2, 1), (5, 1), (6, 0), (7, 0)] (by kernel_rfl) (by kernel_rfl) rfl (by kernel_rfl) ?_ ?_
  focus (rw [HSD.out]; refine ⟨?_, ?_, ?_, ?_, ?_, ?_, ?_⟩ <;> go_simp)
  refine stepE2 rfl rfl ?_ (fun w1 hS => ?_) (fun K hK => ?_)
  rotate_left
  focus (rw [HSD.out] at hS; obtain ⟨s0, s1, s2, s3, s4, s5, s6⟩ := hS; go_simp; rfl)
  go_simp
  refine hK _ ?_
  clear hK K
  refine stepE0 rfl rfl (fun K hK => ?_)
  go_simp
  refine hK _ ?_
  clear hK K
  refine stepE2 rfl rfl ?_ (fun w1 hS => ?_) (fun K hK => ?_)
  rotate_left
  focus (rw [HSD.out] at hS; obtain ⟨s0, s1, s2, s3, s4, s5, s6⟩ := hS; go_simp; rfl)
  go_simp
  refine hK _ ?_
  clear hK K
  refine stepE0 rfl rfl (fun K hK => ?_)
  go_simp
  refine hK _ ?_
  clear hK K
  refine stepE1S rfl rfl (fun K hK => ?_)
  (go_wp2_with fail; refine Calls.mono (rlog_1 _ _ _ _ _ _ _ _ _ _ _ _) ?_; rintro e w2 ⟨rfl, rfl⟩; go_wp2)
  refine ⟨by rw [HSD.out]; exact (by refine ⟨?_, ?_, ?_, ?_, ?_, ?_, ?_⟩ <;> go_simp), ?_⟩
  refine stepE1 rfl rfl (by kernel_rfl) (fun K hK => ?_)
  (go_wp2_with fail; refine Calls.mono (rlog_0 _ _ _ _ _ _ _ _ _ _ _ _) ?_; rintro e w2 ⟨rfl, rfl⟩; go_wp2)
  refine stepE0 rfl rfl (fun K hK => ?_)
  go_simp
  refine hK _ ?_
  clear hK K
  refine stepE0 rfl rfl (fun K hK => ?_)
  go_simp
  refine hK _ ?_
  clear hK K
  try refine stepEnil0 ?_
  clear HSD SS
  go_wp2_with fail
  refine bodyPost_ret (v := .tuple #[.agg #[.slice aA la.length cA, .slice aB lb.length cB, .bool true, .bool true, .int .i64 1, .int .i64 tm, .int .i64 st], .int .i64 0, .int .i64 13]) ?_ rfl ?_
  · simp [results, Try.results37, go_sem]
  · exact ⟨rfl, (by repeat (first | (with_reducible exact Below.refl _ _) | (with_reducible refine Below.setCell ?_ ?_ _) | (with_reducible refine Below.alloc ?_ ?_ _) | (with_reducible refine Below.drewN ?_ _) | (with_reducible refine Below.drew ?_) | (with_reducible exact Nat.le_refl _) | (focus (simp only [World.size_alloc, World.size_setCell, World.size_drew, World.size_drewN]; omega)) | omega | exact Nat.le_refl _ | (focus (simp; done)) | (focus (simp; omega))))⟩
set_option maxRecDepth 100000 in
set_option maxHeartbeats 2000000 in
theorem rsame_1_5 (aA aB : Option Addr) (cA cB : Nat) (la lb : List Cmd)  (tm st t s ck cv ce cp cn c0 c1 c2 : Int) (w : World) (h1 : (t != tm) = false) (h2 : ((la.length : Int) == (lb.length : Int)) = true) :
    Calls Try.prog 37 #[.agg #[.slice aA la.length cA, .slice aB lb.length cB, .bool true, .bool true, .int .i64 1, .int .i64 tm, .int .i64 st], .agg #[.int .i64 1, .int .i64 t, .int .i64 s, .int .i64 ck, .int .i64 cv, .int .i64 ce, .int .i64 cp, .int .i64 cn, .int .i64 c0, .int .i64 c1, .int .i64 c2]] w
      fun e w' => e = .returned (.tuple #[.agg #[.slice aA la.length cA, .slice aB lb.length cB, .bool true, .bool true, .int .i64 1, .int .i64 tm, .int .i64 st], .int .i64 0, .int .i64 6]) ∧ Below w.heap.size w w' := by
  go_enter Try.func37, Try.ntmps37
  go_wp2_with fail
  refine wp_region_now0 [1, 3] [(0, 0), (1, 2), (2, 0), (3, 2), (4, 0), (5, 0), (6, 0)] (by kernel_rfl) (by kernel_rfl) rfl (by kernel_rfl) ?_
  refine stepE0 rfl rfl (fun K hK => ?_)
  go_simp
  refine hK _ ?_
  clear hK K
  refine stepE2 rfl rfl ?_ (fun w1 hS => ?_) (fun K hK => ?_)
  rotate_left
  focus (obtain rfl : w1 = _ := hS; go_simp; rfl)
  go_simp
  refine hK _ ?_
  clear hK K
  refine stepE0 rfl rfl (fun K hK => ?_)
  go_simp
  refine hK _ ?_
  clear hK K
  refine stepE2 rfl rfl ?_ (fun w1 hS => ?_) (fun K hK => ?_)
  rotate_left
  focus (obtain rfl : w1 = _ := hS; go_simp; rfl)
  go_simp
  refine hK _ ?_
  clear hK K
  refine stepE0 rfl rfl (fun K hK => ?_)
  go_simp
  refine hK _ ?_
  clear hK K
  refine stepE0 rfl rfl (fun K hK => ?_)
  go_simp
  refine hK _ ?_
  clear hK K
  refine stepE0 rfl rfl (fun K hK => ?_)
  go_simp
  refine hK _ ?_
  clear hK K
  try refine stepEnil0 ?_
  go_wp2_with fail
  obtain ⟨SS, HSD⟩ : ∃ SS : World → Prop, Hid (SS = fun w' => w'.cell? ⟨w.heap.size, 0, none⟩ = some (.slice aA la.length cA) ∧ w'.cell? ⟨w.heap.size, 1, none⟩ = some (.slice aB lb.length cB) ∧ w'.cell? ⟨w.heap.size, 2, none⟩ = some (.bool true) ∧ w'.cell? ⟨w.heap.size, 3, none⟩ = some (.bool true) ∧ w'.cell? ⟨w.heap.size, 4, none⟩ = some (.int .i64 1) ∧ w'.cell? ⟨w.heap.size, 5, none⟩ = some (.int .i64 tm) ∧ w'.cell? ⟨w.heap.size, 6, none⟩ = some (.int .i64 st)) := ⟨_, Lib.hid rfl⟩
  refine wp_region_order0 SS [0, 3] [(0, 2), (1, 0), (3, 2), (4, 0), (2, 1), (5, 1), (6, 0), (7, 0)] (by kernel_rfl) (by kernel_rfl) rfl (by kernel_rfl) ?_ ?_
  focus (rw [HSD.out]; refine ⟨?_, ?_, ?_, ?_, ?_, ?_, ?_⟩ <;> go_simp)
  refine stepE2 rfl rfl ?_ (fun w1 hS => ?_) (fun K hK => ?_)
  rotate_left
  focus (rw [HSD.out] at hS; obtain ⟨s0, s1, s2, s3, s4, s5, s6⟩ := hS; go_simp; rfl)
  go_simp
  refine hK _ ?_
  clear hK K
  refine stepE0 rfl rfl (fun K hK => ?_)
  go_simp
  refine hK _ ?_
  clear hK K
  refine stepE2 rfl rfl ?_ (fun w1 hS => ?_) (fun K hK => ?_)
  rotate_left
  focus (rw [HSD.out] at hS; obtain ⟨s0, s1, s2, s3, s4, s5, s6⟩ := hS; go_simp; rfl)
  go_simp
  refine hK _ ?_
  clear hK K
  refine stepE0 rfl rfl (fun K hK => ?_)
  go_simp
  refine hK _ ?_
  clear hK K
  refine stepE1S rfl rfl (fun K hK => ?_)
  (go_wp2_with fail; refine Calls.mono (rlog_1 _ _ _ _ _ _ _ _ _ _ _ _) ?_; rintro e w2 ⟨rfl, rfl⟩; go_wp2)
  refine ⟨by rw [HSD.out]; exact (by refine ⟨?_, ?_, ?_, ?_, ?_, ?_, ?_⟩ <;> go_simp), ?_⟩
  refine stepE1 rfl rfl (by kernel_rfl) (fun K hK => ?_)
  (go_wp2_with fail; refine Calls.mono (rlog_0 _ _ _ _ _ _ _ _ _ _ _ _) ?_; rintro e w2 ⟨rfl, rfl⟩; go_wp2)
  refine stepE0 rfl rfl (fun K hK => ?_)
  go_simp
  refine hK _ ?_
  clear hK K
  refine stepE0 rfl rfl (fun K hK => ?_)
  go_simp
  refine hK _ ?_
  clear hK K
  try refine stepEnil0 ?_
  clear HSD SS
  go_wp2_with fail
  refine bodyPost_ret (v := .tuple #[.agg #[.slice aA la.length cA, .slice aB lb.length cB, .bool true, .bool true, .int .i64 1, .int .i64 tm, .int .i64 st], .int .i64 0, .int .i64 6]) ?_ rfl ?_
  · simp [results, Try.results37, go_sem]
  · exact ⟨rfl, (by repeat (first | (with_reducible exact Below.refl _ _) | (with_reducible refine Below.setCell ?_ ?_ _) | (with_reducible refine Below.alloc ?_ ?_ _) | (with_reducible refine Below.drewN ?_ _) | (with_reducible refine Below.drew ?_) | (with_reducible exact Nat.le_refl _) | (focus (simp only [World.size_alloc, World.size_setCell, World.size_drew, World.size_drewN]; omega)) | omega | exact Nat.le_refl _ | (focus (simp; done)) | (focus (simp; omega))))⟩
set_option maxRecDepth 100000 in
set_option maxHeartbeats 2000000 in
theorem rsame_1_6 (aA aB : Option Addr) (cA cB : Nat) (la lb : List Cmd) (uA uB : Bool) (tm st t s ck cv ce cp cn c0 c1 c2 : Int) (w : World) (h1 : decide (s < 0) = true) :
    Calls Try.prog 37 #[.agg #[.slice aA la.length cA, .slice aB lb.length cB, .bool uA, .bool uB, .int .i64 1, .int .i64 tm, .int .i64 st], .agg #[.int .i64 2, .int .i64 t, .int .i64 s, .int .i64 ck, .int .i64 cv, .int .i64 ce, .int .i64 cp, .int .i64 cn, .int .i64 c0, .int .i64 c1, .int .i64 c2]] w
      fun e w' => e = .returned (.tuple #[.agg #[.slice aA la.length cA, .slice aB lb.length cB, .bool uA, .bool uB, .int .i64 1, .int .i64 tm, .int .i64 st], .int .i64 0, .int .i64 1]) ∧ Below w.heap.size w w' := by
  go_enter Try.func37, Try.ntmps37
  go_wp2_with fail
  refine wp_region_now0 [1, 3] [(0, 0), (1, 2), (2, 0), (3, 2), (4, 0), (5, 0), (6, 0)] (by kernel_rfl) (by kernel_rfl) rfl (by kernel_rfl) ?_
  refine stepE0 rfl rfl (fun K hK => ?_)
  go_simp
  refine hK _ ?_
  clear hK K
  refine stepE2 rfl rfl ?_ (fun w1 hS => ?_) (fun K hK => ?_)
  rotate_left
  focus (obtain rfl : w1 = _ := hS; go_simp; rfl)
  go_simp
  refine hK _ ?_
  clear hK K
  refine stepE0 rfl rfl (fun K hK => ?_)
  go_simp
  refine hK _ ?_
  clear hK K
  refine stepE2 rfl rfl ?_ (fun w1 hS => ?_) (fun K hK => ?_)
  rotate_left
  focus (obtain rfl : w1 = _ := hS; go_simp; rfl)
  go_simp
  refine hK _ ?_
  clear hK K
  refine stepE0 rfl rfl (fun K hK => ?_)
  go_simp
  refine hK _ ?_
  clear hK K
  refine stepE0 rfl rfl (fun K hK => ?_)
  go_simp
  refine hK _ ?_
  clear hK K
  refine stepE0 rfl rfl (fun K hK => ?_)
  go_simp
  refine hK _ ?_
  clear hK K
  try refine stepEnil0 ?_
  go_wp2_with fail
  obtain ⟨SS, HSD⟩ : ∃ SS : World → Prop, Hid (SS = fun w' => w'.cell? ⟨w.heap.size, 0, none⟩ = some (.slice aA la.length cA) ∧ w'.cell? ⟨w.heap.size, 1, none⟩ = some (.slice aB lb.length cB) ∧ w'.cell? ⟨w.heap.size, 2, none⟩ = some (.bool uA) ∧ w'.cell? ⟨w.heap.size, 3, none⟩ = some (.bool uB) ∧ w'.cell? ⟨w.heap.size, 4, none⟩ = some (.int .i64 1) ∧ w'.cell? ⟨w.heap.size, 5, none⟩ = some (.int .i64 tm) ∧ w'.cell? ⟨w.heap.size, 6, none⟩ = some (.int .i64 st)) := ⟨_, Lib.hid rfl⟩
  refine wp_region_order0 SS [0, 3] [(0, 2), (1, 0), (3, 2), (4, 0), (2, 1), (5, 1), (6, 0), (7, 0)] (by kernel_rfl) (by kernel_rfl) rfl (by kernel_rfl) ?_ ?_
  focus (rw [HSD.out]; refine ⟨?_, ?_, ?_, ?_, ?_, ?_, ?_⟩ <;> go_simp)
  refine stepE2 rfl rfl ?_ (fun w1 hS => ?_) (fun K hK => ?_)
  rotate_left
  focus (rw [HSD.out] at hS; obtain ⟨s0, s1, s2, s3, s4, s5, s6⟩ := hS; go_simp; rfl)
  go_simp
  refine hK _ ?_
  clear hK K
  refine stepE0 rfl rfl (fun K hK => ?_)
  go_simp
  refine hK _ ?_
  clear hK K
  refine stepE2 rfl rfl ?_ (fun w1 hS => ?_) (fun K hK => ?_)
  rotate_left
  focus (rw [HSD.out] at hS; obtain ⟨s0, s1, s2, s3, s4, s5, s6⟩ := hS; go_simp; rfl)
  go_simp
  refine hK _ ?_
  clear hK K
  refine stepE0 rfl rfl (fun K hK => ?_)
  go_simp
  refine hK _ ?_
  clear hK K
  refine stepE1S rfl rfl (fun K hK => ?_)
  (go_wp2_with fail; refine Calls.mono (rlog_1 _ _ _ _ _ _ _ _ _ _ _ _) ?_; rintro e w2 ⟨rfl, rfl⟩; go_wp2)
  refine ⟨by rw [HSD.out]; exact (by refine ⟨?_, ?_, ?_, ?_, ?_, ?_, ?_⟩ <;> go_simp), ?_⟩
  refine stepE1 rfl rfl (by kernel_rfl) (fun K hK => ?_)
  (go_wp2_with fail; refine Calls.mono (rlog_0 _ _ _ _ _ _ _ _ _ _ _ _) ?_; rintro e w2 ⟨rfl, rfl⟩; go_wp2)
  refine stepE0 rfl rfl (fun K hK => ?_)
  go_simp
  refine hK _ ?_
  clear hK K
  refine stepE0 rfl rfl (fun K hK => ?_)
  go_simp
  refine hK _ ?_
  clear hK K
  try refine stepEnil0 ?_
  clear HSD SS
  go_wp2_with fail
  refine bodyPost_ret (v := .tuple #[.agg #[.slice aA la.length cA, .slice aB lb.length cB, .bool uA, .bool uB, .int .i64 1, .int .i64 tm, .int .i64 st], .int .i64 0, .int .i64 1]) ?_ rfl ?_
  · simp [results, Try.results37, go_sem]
  · exact ⟨rfl, (by repeat (first | (with_reducible exact Below.refl _ _) | (with_reducible refine Below.setCell ?_ ?_ _) | (with_reducible refine Below.alloc ?_ ?_ _) | (with_reducible refine Below.drewN ?_ _) | (with_reducible refine Below.drew ?_) | (with_reducible exact Nat.le_refl _) | (focus (simp only [World.size_alloc, World.size_setCell, World.size_drew, World.size_drewN]; omega)) | omega | exact Nat.le_refl _ | (focus (simp; done)) | (focus (simp; omega))))⟩
set_option maxRecDepth 100000 in
set_option maxHeartbeats 2000000 in
theorem rsame_1_7 (aA aB : Option Addr) (cA cB : Nat) (la lb : List Cmd) (uA uB : Bool) (tm st t s ck cv ce cp cn c0 c1 c2 : Int) (w : World) (h1 : decide (s < 0) = false) (h2 : decide (1 < s) = true) :
    Calls Try.prog 37 #[.agg #[.slice aA la.length cA, .slice aB lb.length cB, .bool uA, .bool uB, .int .i64 1, .int .i64 tm, .int .i64 st], .agg #[.int .i64 2, .int .i64 t, .int .i64 s, .int .i64 ck, .int .i64 cv, .int .i64 ce, .int .i64 cp, .int .i64 cn, .int .i64 c0, .int .i64 c1, .int .i64 c2]] w
      fun e w' => e = .returned (.tuple #[.agg #[.slice aA la.length cA, .slice aB lb.length cB, .bool uA, .bool uB, .int .i64 1, .int .i64 tm, .int .i64 st], .int .i64 0, .int .i64 1]) ∧ Below w.heap.size w w' := by
  go_enter Try.func37, Try.ntmps37
  go_wp2_with fail
  refine wp_region_now0 [1, 3] [(0, 0), (1, 2), (2, 0), (3, 2), (4, 0), (5, 0), (6, 0)] (by kernel_rfl) (by kernel_rfl) rfl (by kernel_rfl) ?_
  refine stepE0 rfl rfl (fun K hK => ?_)
  go_simp
  refine hK _ ?_
  clear hK K
  refine stepE2 rfl rfl ?_ (fun w1 hS => ?_) (fun K hK => ?_)
  rotate_left
  focus (obtain rfl : w1 = _ := hS; go_simp; rfl)
  go_simp
  refine hK _ ?_
  clear hK K
  refine stepE0 rfl rfl (fun K hK => ?_)
  go_simp
  refine hK _ ?_
  clear hK K
  refine stepE2 rfl rfl ?_ (fun w1 hS => ?_) (fun K hK => ?_)
  rotate_left
  focus (obtain rfl : w1 = _ := hS; go_simp; rfl)
  go_simp
  refine hK _ ?_
  clear hK K
  refine stepE0 rfl rfl (fun K hK => ?_)
  go_simp
  refine hK _ ?_
  clear hK K
  refine stepE0 rfl rfl (fun K hK => ?_)
  go_simp
  refine hK _ ?_
  clear hK K
  refine stepE0 rfl rfl (fun K hK => ?_)
  go_simp
  refine hK _ ?_
  clear hK K
  try refine stepEnil0 ?_
  go_wp2_with fail
  obtain ⟨SS, HSD⟩ : ∃ SS : World → Prop, Hid (SS = fun w' => w'.cell? ⟨w.heap.size, 0, none⟩ = some (.slice aA la.length cA) ∧ w'.cell? ⟨w.heap.size, 1, none⟩ = some (.slice aB lb.length cB) ∧ w'.cell? ⟨w.heap.size, 2, none⟩ = some (.bool uA) ∧ w'.cell? ⟨w.heap.size, 3, none⟩ = some (.bool uB) ∧ w'.cell? ⟨w.heap.size, 4, none⟩ = some (.int .i64 1) ∧ w'.cell? ⟨w.heap.size, 5, none⟩ = some (.int .i64 tm) ∧ w'.cell? ⟨w.heap.size, 6, none⟩ = some (.int .i64 st)) := ⟨_, Lib.hid rfl⟩
  refine wp_region_order0 SS [0, 3] [(0, 2), (1, 0), (3, 2), (4, 0), (2, 1), (5, 1), (6, 0), (7, 0)] (by kernel_rfl) (by kernel_rfl) rfl (by kernel_rfl) ?_ ?_
  focus (rw [HSD.out]; refine ⟨?_, ?_, ?_, ?_, ?_, ?_, ?_⟩ <;> go_simp)
  refine stepE2 rfl rfl ?_ (fun w1 hS => ?_) (fun K hK => ?_)
  rotate_left
  focus (rw [HSD.out] at hS; obtain ⟨s0, s1, s2, s3, s4, s5, s6⟩ := hS; go_simp; rfl)
  go_simp
  refine hK _ ?_
  clear hK K
  refine stepE0 rfl rfl (fun K hK => ?_)
  go_simp
  refine hK _ ?_
  clear hK K
  refine stepE2 rfl rfl ?_ (fun w1 hS => ?_) (fun K hK => ?_)
  rotate_left
  focus (rw [HSD.out] at hS; obtain ⟨s0, s1, s2, s3, s4, s5, s6⟩ := hS; go_simp; rfl)
  go_simp
  refine hK _ ?_
  clear hK K
  refine stepE0 rfl rfl (fun K hK => ?_)
  go_simp
  refine hK _ ?_
  clear hK K
  refine stepE1S rfl rfl (fun K hK => ?_)
  (go_wp2_with fail; refine Calls.mono (rlog_1 _ _ _ _ _ _ _ _ _ _ _ _) ?_; rintro e w2 ⟨rfl, rfl⟩; go_wp2)
  refine ⟨by rw [HSD.out]; exact (by refine ⟨?_, ?_, ?_, ?_, ?_, ?_, ?_⟩ <;> go_simp), ?_⟩
  refine stepE1 rfl rfl (by kernel_rfl) (fun K hK => ?_)
  (go_wp2_with fail; refine Calls.mono (rlog_0 _ _ _ _ _ _ _ _ _ _ _ _) ?_; rintro e w2 ⟨rfl, rfl⟩; go_wp2)
  refine stepE0 rfl rfl (fun K hK => ?_)
  go_simp
  refine hK _ ?_
  clear hK K
  refine stepE0 rfl rfl (fun K hK => ?_)
  go_simp
  refine hK _ ?_
  clear hK K
  try refine stepEnil0 ?_
  clear HSD SS
  go_wp2_with fail
  refine bodyPost_ret (v := .tuple #[.agg #[.slice aA la.length cA, .slice aB lb.length cB, .bool uA, .bool uB, .int .i64 1, .int .i64 tm, .int .i64 st], .int .i64 0, .int .i64 1]) ?_ rfl ?_
  · simp [results, Try.results37, go_sem]
  · exact ⟨rfl, (by repeat (first | (with_reducible exact Below.refl _ _) | (with_reducible refine Below.setCell ?_ ?_ _) | (with_reducible refine Below.alloc ?_ ?_ _) | (with_reducible refine Below.drewN ?_ _) | (with_reducible refine Below.drew ?_) | (with_reducible exact Nat.le_refl _) | (focus (simp only [World.size_alloc, World.size_setCell, World.size_drew, World.size_drewN]; omega)) | omega | exact Nat.le_refl _ | (focus (simp; done)) | (focus (simp; omega))))⟩
set_option maxRecDepth 100000 in
set_option maxHeartbeats 2000000 in
theorem rsame_1_8 (aA aB : Option Addr) (cA cB : Nat) (la lb : List Cmd) (uA uB : Bool) (tm st t s ck cv ce cp cn c0 c1 c2 : Int) (w : World) (h1 : decide (s < 0) = true) :
    Calls Try.prog 37 #[.agg #[.slice aA la.length cA, .slice aB lb.length cB, .bool uA, .bool uB, .int .i64 1, .int .i64 tm, .int .i64 st], .agg #[.int .i64 3, .int .i64 t, .int .i64 s, .int .i64 ck, .int .i64 cv, .int .i64 ce, .int .i64 cp, .int .i64 cn, .int .i64 c0, .int .i64 c1, .int .i64 c2]] w
      fun e w' => e = .returned (.tuple #[.agg #[.slice aA la.length cA, .slice aB lb.length cB, .bool uA, .bool uB, .int .i64 1, .int .i64 tm, .int .i64 st], .int .i64 0, .int .i64 1]) ∧ Below w.heap.size w w' := by
  go_enter Try.func37, Try.ntmps37
  go_wp2_with fail
  refine wp_region_now0 [1, 3] [(0, 0), (1, 2), (2, 0), (3, 2), (4, 0), (5, 0), (6, 0)] (by kernel_rfl) (by kernel_rfl) rfl (by kernel_rfl) ?_
  refine stepE0 rfl rfl (fun K hK => ?_)
  go_simp
  refine hK _ ?_
  clear hK K
  refine stepE2 rfl rfl ?_ (fun w1 hS => ?_) (fun K hK => ?_)
  rotate_left
  focus (obtain rfl : w1 = _ := hS; go_simp; rfl)
  go_simp
  refine hK _ ?_
  clear hK K
  refine stepE0 rfl rfl (fun K hK => ?_)
  go_simp
  refine hK _ ?_
  clear hK K
  refine stepE2 rfl rfl ?_ (fun w1 hS => ?_) (fun K hK => ?_)
  rotate_left
  focus (obtain rfl : w1 = _ := hS; go_simp; rfl)
  go_simp
  refine hK _ ?_
  clear hK K
  refine stepE0 rfl rfl (fun K hK => ?_)
  go_simp
  refine hK _ ?_
  clear hK K
  refine stepE0 rfl rfl (fun K hK => ?_)
  go_simp
  refine hK _ ?_
  clear hK K
  refine stepE0 rfl rfl (fun K hK => ?_)
  go_simp
  refine hK _ ?_
  clear hK K
  try refine stepEnil0 ?_
  go_wp2_with fail
  obtain ⟨SS, HSD⟩ : ∃ SS : World → Prop, Hid (SS = fun w' => w'.cell? ⟨w.heap.size, 0, none⟩ = some (.slice aA la.length cA) ∧ w'.cell? ⟨w.heap.size, 1, none⟩ = some (.slice aB lb.length cB) ∧ w'.cell? ⟨w.heap.size, 2, none⟩ = some (.bool uA) ∧ w'.cell? ⟨w.heap.size, 3, none⟩ = some (.bool uB) ∧ w'.cell? ⟨w.heap.size, 4, none⟩ = some (.int .i64 1) ∧ w'.cell? ⟨w.heap.size, 5, none⟩ = some (.int .i64 tm) ∧ w'.cell? ⟨w.heap.size, 6, none⟩ = some (.int .i64 st)) := ⟨_, Lib.hid rfl⟩
  refine wp_region_order0 SS [0, 3] [(0, 2), (1, 0), (3, 2), (4, 0), (2, 1), (5, 1), (6, 0), (7, 0)] (by kernel_rfl) (by kernel_rfl) rfl (by kernel_rfl) ?_ ?_
  focus (rw [HSD.out]; refine ⟨?_, ?_, ?_, ?_, ?_, ?_, ?_⟩ <;> go_simp)
  refine stepE2 rfl rfl ?_ (fun w1 hS => ?_) (fun K hK => ?_)
  rotate_left
  focus (rw [HSD.out] at hS; obtain ⟨s0, s1, s2, s3, s4, s5, s6⟩ := hS; go_simp; rfl)
  go_simp
  refine hK _ ?_
  clear hK K
  refine stepE0 rfl rfl (fun K hK => ?_)
  go_simp
  refine hK _ ?_
  clear hK K
  refine stepE2 rfl rfl ?_ (fun w1 hS => ?_) (fun K hK => ?_)
  rotate_left
  focus (rw [HSD.out] at hS; obtain ⟨s0, s1, s2, s3, s4, s5, s6⟩ := hS; go_simp; rfl)
  go_simp
  refine hK _ ?_
  clear hK K
  refine stepE0 rfl rfl (fun K hK => ?_)
  go_simp
  refine hK _ ?_
  clear hK K
  refine stepE1S rfl rfl (fun K hK => ?_)
  (go_wp2_with fail; refine Calls.mono (rlog_1 _ _ _ _ _ _ _ _ _ _ _ _) ?_; rintro e w2 ⟨rfl, rfl⟩; go_wp2)
  refine ⟨by rw [HSD.out]; exact (by refine ⟨?_, ?_, ?_, ?_, ?_, ?_, ?_⟩ <;> go_simp), ?_⟩
  refine stepE1 rfl rfl (by kernel_rfl) (fun K hK => ?_)
  (go_wp2_with fail; refine Calls.mono (rlog_0 _ _ _ _ _ _ _ _ _ _ _ _) ?_; rintro e w2 ⟨rfl, rfl⟩; go_wp2)
  refine stepE0 rfl rfl (fun K hK => ?_)
  go_simp
  refine hK _ ?_
  clear hK K
  refine stepE0 rfl rfl (fun K hK => ?_)
  go_simp
  refine hK _ ?_
  clear hK K
  try refine stepEnil0 ?_
  clear HSD SS
  go_wp2_with fail
  refine bodyPost_ret (v := .tuple #[.agg #[.slice aA la.length cA, .slice aB lb.length cB, .bool uA, .bool uB, .int .i64 1, .int .i64 tm, .int .i64 st], .int .i64 0, .int .i64 1]) ?_ rfl ?_
  · simp [results, Try.results37, go_sem]
  · exact ⟨rfl, (by repeat (first | (with_reducible exact Below.refl _ _) | (with_reducible refine Below.setCell ?_ ?_ _) | (with_reducible refine Below.alloc ?_ ?_ _) | (with_reducible refine Below.drewN ?_ _) | (with_reducible refine Below.drew ?_) | (with_reducible exact Nat.le_refl _) | (focus (simp only [World.size_alloc, World.size_setCell, World.size_drew, World.size_drewN]; omega)) | omega | exact Nat.le_refl _ | (focus (simp; done)) | (focus (simp; omega))))⟩
set_option maxRecDepth 100000 in
set_option maxHeartbeats 2000000 in
theorem rsame_1_9 (aA aB : Option Addr) (cA cB : Nat) (la lb : List Cmd) (uA uB : Bool) (tm st t s ck cv ce cp cn c0 c1 c2 : Int) (w : World) (h1 : decide (s < 0) = false) (h2 : decide (1 < s) = true) :
    Calls Try.prog 37 #[.agg #[.slice aA la.length cA, .slice aB lb.length cB, .bool uA, .bool uB, .int .i64 1, .int .i64 tm, .int .i64 st], .agg #[.int .i64 3, .int .i64 t, .int .i64 s, .int .i64 ck, .int .i64 cv, .int .i64 ce, .int .i64 cp, .int .i64 cn, .int .i64 c0, .int .i64 c1, .int .i64 c2]] w
      fun e w' => e = .returned (.tuple #[.agg #[.slice aA la.length cA, .slice aB lb.length cB, .bool uA, .bool uB, .int .i64 1, .int .i64 tm, .int .i64 st], .int .i64 0, .int .i64 1]) ∧ Below w.heap.size w w' := by
  go_enter Try.func37, Try.ntmps37
  go_wp2_with fail
  refine wp_region_now0 [1, 3] [(0, 0), (1, 2), (2, 0), (3, 2), (4, 0), (5, 0), (6, 0)] (by kernel_rfl) (by kernel_rfl) rfl (by kernel_rfl) ?_
  refine stepE0 rfl rfl (fun K hK => ?_)
  go_simp
  refine hK _ ?_
  clear hK K
  refine stepE2 rfl rfl ?_ (fun w1 hS => ?_) (fun K hK => ?_)
  rotate_left
  focus (obtain rfl : w1 = _ := hS; go_simp; rfl)
  go_simp
  refine hK _ ?_
  clear hK K
  refine stepE0 rfl rfl (fun K hK => ?_)
  go_simp
  refine hK _ ?_
  clear hK K
  refine stepE2 rfl rfl ?_ (fun w1 hS => ?_) (fun K hK => ?_)
  rotate_left
  focus (obtain rfl : w1 = _ := hS; go_simp; rfl)
  go_simp
  refine hK _ ?_
  clear hK K
  refine stepE0 rfl rfl (fun K hK => ?_)
  go_simp
  refine hK _ ?_
  clear hK K
  refine stepE0 rfl rfl (fun K hK => ?_)
  go_simp
  refine hK _ ?_
  clear hK K
  refine stepE0 rfl rfl (fun K hK => ?_)
  go_simp
  refine hK _ ?_
  clear hK K
  try refine stepEnil0 ?_
  go_wp2_with fail
  obtain ⟨SS, HSD⟩ : ∃ SS : World → Prop, Hid (SS = fun w' => w'.cell? ⟨w.heap.size, 0, none⟩ = some (.slice aA la.length cA) ∧ w'.cell? ⟨w.heap.size, 1, none⟩ = some (.slice aB lb.length cB) ∧ w'.cell? ⟨w.heap.size, 2, none⟩ = some (.bool uA) ∧ w'.cell? ⟨w.heap.size, 3, none⟩ = some (.bool uB) ∧ w'.cell? ⟨w.heap.size, 4, none⟩ = some (.int .i64 1) ∧ w'.cell? ⟨w.heap.size, 5, none⟩ = some (.int .i64 tm) ∧ w'.cell? ⟨w.heap.size, 6, none⟩ = some (.int .i64 st)) := ⟨_, Lib.hid rfl⟩
  refine wp_region_order0 SS [0, 3] [(0, 2), (1, 0), (3, 2), (4, 0), (2, 1), (5, 1), (6, 0), (7, 0)] (by kernel_rfl) (by kernel_rfl) rfl (by kernel_rfl) ?_ ?_
  focus (rw [HSD.out]; refine ⟨?_, ?_, ?_, ?_, ?_, ?_, ?_⟩ <;> go_simp)
  refine stepE2 rfl rfl ?_ (fun w1 hS => ?_) (fun K hK => ?_)
  rotate_left
  focus (rw [HSD.out] at hS; obtain ⟨s0, s1, s2, s3, s4, s5, s6⟩ := hS; go_simp; rfl)
  go_simp
  refine hK _ ?_
  clear hK K
  refine stepE0 rfl rfl (fun K hK => ?_)
  go_simp
  refine hK _ ?_
  clear hK K
  refine stepE2 rfl rfl ?_ (fun w1 hS => ?_) (fun K hK => ?_)
  rotate_left
  focus (rw [HSD.out] at hS; obtain ⟨s0, s1, s2, s3, s4, s5, s6⟩ := hS; go_simp; rfl)
  go_simp
  refine hK _ ?_
  clear hK K
  refine stepE0 rfl rfl (fun K hK => ?_)
  go_simp
  refine hK _ ?_
  clear hK K
  refine stepE1S rfl rfl (fun K hK => ?_)
  (go_wp2_with fail; refine Calls.mono (rlog_1 _ _ _ _ _ _ _ _ _ _ _ _) ?_; rintro e w2 ⟨rfl, rfl⟩; go_wp2)
  refine ⟨by rw [HSD.out]; exact (by refine ⟨?_, ?_, ?_, ?_, ?_, ?_, ?_⟩ <;> go_simp), ?_⟩
  refine stepE1 rfl rfl (by kernel_rfl) (fun K hK => ?_)
  (go_wp2_with fail; refine Calls.mono (rlog_0 _ _ _ _ _ _ _ _ _ _ _ _) ?_; rintro e w2 ⟨rfl, rfl⟩; go_wp2)
  refine stepE0 rfl rfl (fun K hK => ?_)
  go_simp
  refine hK _ ?_
  clear hK K
  refine stepE0 rfl rfl (fun K hK => ?_)
  go_simp
  refine hK _ ?_
  clear hK K
  try refine stepEnil0 ?_
  clear HSD SS
  go_wp2_with fail
  refine bodyPost_ret (v := .tuple #[.agg #[.slice aA la.length cA, .slice aB lb.length cB, .bool uA, .bool uB, .int .i64 1, .int .i64 tm, .int .i64 st], .int .i64 0, .int .i64 1]) ?_ rfl ?_
  · simp [results, Try.results37, go_sem]
  · exact ⟨rfl, (by repeat (first | (with_reducible exact Below.refl _ _) | (with_reducible refine Below.setCell ?_ ?_ _) | (with_reducible refine Below.alloc ?_ ?_ _) | (with_reducible refine Below.drewN ?_ _) | (with_reducible refine Below.drew ?_) | (with_reducible exact Nat.le_refl _) | (focus (simp only [World.size_alloc, World.size_setCell, World.size_drew, World.size_drewN]; omega)) | omega | exact Nat.le_refl _ | (focus (simp; done)) | (focus (simp; omega))))⟩
set_option maxRecDepth 100000 in
set_option maxHeartbeats 2000000 in
theorem rsame_1_10 (aA aB : Option Addr) (cA cB : Nat) (la lb : List Cmd) (uA : Bool) (tm st t ck cv ce cp cn c0 c1 c2 : Int) (w : World) :
    Calls Try.prog 37 #[.agg #[.slice aA la.length cA, .slice aB lb.length cB, .bool uA, .bool false, .int .i64 1, .int .i64 tm, .int .i64 st], .agg #[.int .i64 2, .int .i64 t, .int .i64 1, .int .i64 ck, .int .i64 cv, .int .i64 ce, .int .i64 cp, .int .i64 cn, .int .i64 c0, .int .i64 c1, .int .i64 c2]] w
      fun e w' => e = .returned (.tuple #[.agg #[.slice aA la.length cA, .slice aB lb.length cB, .bool uA, .bool false, .int .i64 1, .int .i64 tm, .int .i64 st], .int .i64 0, .int .i64 12]) ∧ Below w.heap.size w w' := by
  go_enter Try.func37, Try.ntmps37
  go_wp2_with fail
  refine wp_region_now0 [1, 3] [(0, 0), (1, 2), (2, 0), (3, 2), (4, 0), (5, 0), (6, 0)] (by kernel_rfl) (by kernel_rfl) rfl (by kernel_rfl) ?_
  refine stepE0 rfl rfl (fun K hK => ?_)
  go_simp
  refine hK _ ?_
  clear hK K
  refine stepE2 rfl rfl ?_ (fun w1 hS => ?_) (fun K hK => ?_)
  rotate_left
  focus (obtain rfl : w1 = _ := hS; go_simp; rfl)
  go_simp
  refine hK _ ?_
  clear hK K
  refine stepE0 rfl rfl (fun K hK => ?_)
  go_simp
  refine hK _ ?_
  clear hK K
  refine stepE2 rfl rfl ?_ (fun w1 hS => ?_) (fun K hK => ?_)
  rotate_left
  focus (obtain rfl : w1 = _ := hS; go_simp; rfl)
  go_simp
  refine hK _ ?_
  clear hK K
  refine stepE0 rfl rfl (fun K hK => ?_)
  go_simp
  refine hK _ ?_
  clear hK K
  refine stepE0 rfl rfl (fun K hK => ?_)
  go_simp
  refine hK _ ?_
  clear hK K
  refine stepE0 rfl rfl (fun K hK => ?_)
  go_simp
  refine hK _ ?_
  clear hK K
  try refine stepEnil0 ?_
  go_wp2_with fail
  obtain ⟨SS, HSD⟩ : ∃ SS : World → Prop, Hid (SS = fun w' => w'.cell? ⟨w.heap.size, 0, none⟩ = some (.slice aA la.length cA) ∧ w'.cell? ⟨w.heap.size, 1, none⟩ = some (.slice aB lb.length cB) ∧ w'.cell? ⟨w.heap.size, 2, none⟩ = some (.bool uA) ∧ w'.cell? ⟨w.heap.size, 3, none⟩ = some (.bool false) ∧ w'.cell? ⟨w.heap.size, 4, none⟩ = some (.int .i64 1) ∧ w'.cell? ⟨w.heap.size, 5, none⟩ = some (.int .i64 tm) ∧ w'.cell? ⟨w.heap.size, 6, none⟩ = some (.int .i64 st)) := ⟨_, Lib.hid rfl⟩
  refine wp_region_order0 SS [0, 3] [(0, 2), (1, 0), (3, 2), (4, 0), (2, 1), (5, 1), (6, 0), (7, 0)] (by kernel_rfl) (by kernel_rfl) rfl (by kernel_rfl) ?_ ?_
  focus (rw [HSD.out]; refine ⟨?_, ?_, ?_, ?_, ?_, ?_, ?_⟩ <;> go_simp)
  refine stepE2 rfl rfl ?_ (fun w1 hS => ?_) (fun K hK => ?_)
  rotate_left
  focus (rw [HSD.out] at hS; obtain ⟨s0, s1, s2, s3, s4, s5, s6⟩ := hS; go_simp; rfl)
  go_simp
  refine hK _ ?_
  clear hK K
  refine stepE0 rfl rfl (fun K hK => ?_)
  go_simp
  refine hK _ ?_
  clear hK K
  refine stepE2 rfl rfl ?_ (fun w1 hS => ?_) (fun K hK => ?_)
  rotate_left
  focus (rw [HSD.out] at hS; obtain ⟨s0, s1, s2, s3, s4, s5, s6⟩ := hS; go_simp; rfl)
  go_simp
  refine hK _ ?_
  clear hK K
  refine stepE0 rfl rfl (fun K hK => ?_)
  go_simp
  refine hK _ ?_
  clear hK K
  refine stepE1S rfl rfl (fun K hK => ?_)
  (go_wp2_with fail; refine Calls.mono (rlog_1 _ _ _ _ _ _ _ _ _ _ _ _) ?_; rintro e w2 ⟨rfl, rfl⟩; go_wp2)
  refine ⟨by rw [HSD.out]; exact (by refine ⟨?_, ?_, ?_, ?_, ?_, ?_, ?_⟩ <;> go_simp), ?_⟩
  refine stepE1 rfl rfl (by kernel_rfl) (fun K hK => ?_)
  (go_wp2_with fail; refine Calls.mono (rlog_0 _ _ _ _ _ _ _ _ _ _ _ _) ?_; rintro e w2 ⟨rfl, rfl⟩; go_wp2)
  refine stepE0 rfl rfl (fun K hK => ?_)
  go_simp
  refine hK _ ?_
  clear hK K
  refine stepE0 rfl rfl (fun K hK => ?_)
  go_simp
  refine hK _ ?_
  clear hK K
  try refine stepEnil0 ?_
  clear HSD SS
  go_wp2_with fail
  refine bodyPost_ret (v := .tuple #[.agg #[.slice aA la.length cA, .slice aB lb.length cB, .bool uA, .bool false, .int .i64 1, .int .i64 tm, .int .i64 st], .int .i64 0, .int .i64 12]) ?_ rfl ?_
  · simp [results, Try.results37, go_sem]
  · exact ⟨rfl, (by repeat (first | (with_reducible exact Below.refl _ _) | (with_reducible refine Below.setCell ?_ ?_ _) | (with_reducible refine Below.alloc ?_ ?_ _) | (with_reducible refine Below.drewN ?_ _) | (with_reducible refine Below.drew ?_) | (with_reducible exact Nat.le_refl _) | (focus (simp only [World.size_alloc, World.size_setCell, World.size_drew, World.size_drewN]; omega)) | omega | exact Nat.le_refl _ | (focus (simp; done)) | (focus (simp; omega))))⟩
set_option maxRecDepth 100000 in
set_option maxHeartbeats 2000000 in
theorem rsame_1_11 (aA aB : Option Addr) (cA cB : Nat) (la lb : List Cmd) (uB : Bool) (tm st t ck cv ce cp cn c0 c1 c2 : Int) (w : World) :
    Calls Try.prog 37 #[.agg #[.slice aA la.length cA, .slice aB lb.length cB, .bool false, .bool uB, .int .i64 1, .int .i64 tm, .int .i64 st], .agg #[.int .i64 2, .int .i64 t, .int .i64 0, .int .i64 ck, .int .i64 cv, .int .i64 ce, .int .i64 cp, .int .i64 cn, .int .i64 c0, .int .i64 c1, .int .i64 c2]] w
      fun e w' => e = .returned (.tuple #[.agg #[.slice aA la.length cA, .slice aB lb.length cB, .bool false, .bool uB, .int .i64 1, .int .i64 tm, .int .i64 st], .int .i64 0, .int .i64 12]) ∧ Below w.heap.size w w' := by
  go_enter Try.func37, Try.ntmps37
  go_wp2_with fail
  refine wp_region_now0 [1, 3] [(0, 0), (1, 2), (2, 0), (3, 2), (4, 0), (5, 0), (6, 0)] (by kernel_rfl) (by kernel_rfl) rfl (by kernel_rfl) ?_
  refine stepE0 rfl rfl (fun K hK => ?_)
  go_simp
  refine hK _ ?_
  clear hK K
  refine stepE2 rfl rfl ?_ (fun w1 hS => ?_) (fun K hK => ?_)
  rotate_left
  focus (obtain rfl : w1 = _ := hS; go_simp; rfl)
  go_simp
  refine hK _ ?_
  clear hK K
  refine stepE0 rfl rfl (fun K hK => ?_)
  go_simp
  refine hK _ ?_
  clear hK K
  refine stepE2 rfl rfl ?_ (fun w1 hS => ?_) (fun K hK => ?_)
  rotate_left
  focus (obtain rfl : w1 = _ := hS; go_simp; rfl)
  go_simp
  refine hK _ ?_
  clear hK K
  refine stepE0 rfl rfl (fun K hK => ?_)
  go_simp
  refine hK _ ?_
  clear hK K
  refine stepE0 rfl rfl (fun K hK => ?_)
  go_simp
  refine hK _ ?_
  clear hK K
  refine stepE0 rfl rfl (fun K hK => ?_)
  go_simp
  refine hK _ ?_
  clear hK K
  try refine stepEnil0 ?_
  go_wp2_with fail
  obtain ⟨SS, HSD⟩ : ∃ SS : World → Prop, Hid (SS = fun w' => w'.cell? ⟨w.heap.size, 0, none⟩ = some (.slice aA la.length cA) ∧ w'.cell? ⟨w.heap.size, 1, none⟩ = some (.slice aB lb.length cB) ∧ w'.cell? ⟨w.heap.size, 2, none⟩ = some (.bool false) ∧ w'.cell? ⟨w.heap.size, 3, none⟩ = some (.bool uB) ∧ w'.cell? ⟨w.heap.size, 4, none⟩ = some (.int .i64 1) ∧ w'.cell? ⟨w.heap.size, 5, none⟩ = some (.int .i64 tm) ∧ w'.cell? ⟨w.heap.size, 6, none⟩ = some (.int .i64 st)) := ⟨_, Lib.hid rfl⟩
  refine wp_region_order0 SS [0, 3] [(0, 2), (1, 0), (3, 2), (4, 0), (2, 1), (5, 1), (6, 0), (7, 0)] (by kernel_rfl) (by kernel_rfl) rfl (by kernel_rfl) ?_ ?_
  focus (rw [HSD.out]; refine ⟨?_, ?_, ?_, ?_, ?_, ?_, ?_⟩ <;> go_simp)
  refine stepE2 rfl rfl ?_ (fun w1 hS => ?_) (fun K hK => ?_)
  rotate_left
  focus (rw [HSD.out] at hS; obtain ⟨s0, s1, s2, s3, s4, s5, s6⟩ := hS; go_simp; rfl)
  go_simp
  refine hK _ ?_
  clear hK K
  refine stepE0 rfl rfl (fun K hK => ?_)
  go_simp
  refine hK _ ?_
  clear hK K
  refine stepE2 rfl rfl ?_ (fun w1 hS => ?_) (fun K hK => ?_)
  rotate_left
  focus (rw [HSD.out] at hS; obtain ⟨s0, s1, s2, s3, s4, s5, s6⟩ := hS; go_simp; rfl)
  go_simp
  refine hK _ ?_
  clear hK K
  refine stepE0 rfl rfl (fun K hK => ?_)
  go_simp
  refine hK _ ?_
  clear hK K
  refine stepE1S rfl rfl (fun K hK => ?_)
  (go_wp2_with fail; refine Calls.mono (rlog_1 _ _ _ _ _ _ _ _ _ _ _ _) ?_; rintro e w2 ⟨rfl, rfl⟩; go_wp2)
  refine ⟨by rw [HSD.out]; exact (by refine ⟨?_, ?_, ?_, ?_, ?_, ?_, ?_⟩ <;> go_simp), ?_⟩
  refine stepE1 rfl rfl (by kernel_rfl) (fun K hK => ?_)
  (go_wp2_with fail; refine Calls.mono (rlog_0 _ _ _ _ _ _ _ _ _ _ _ _) ?_; rintro e w2 ⟨rfl, rfl⟩; go_wp2)
  refine stepE0 rfl rfl (fun K hK => ?_)
  go_simp
  refine hK _ ?_
  clear hK K
  refine stepE0 rfl rfl (fun K hK => ?_)
  go_simp
  refine hK _ ?_
  clear hK K
  try refine stepEnil0 ?_
  clear HSD SS
  go_wp2_with fail
  refine bodyPost_ret (v := .tuple #[.agg #[.slice aA la.length cA, .slice aB lb.length cB, .bool false, .bool uB, .int .i64 1, .int .i64 tm, .int .i64 st], .int .i64 0, .int .i64 12]) ?_ rfl ?_
  · simp [results, Try.results37, go_sem]
  · exact ⟨rfl, (by repeat (first | (with_reducible exact Below.refl _ _) | (with_reducible refine Below.setCell ?_ ?_ _) | (with_reducible refine Below.alloc ?_ ?_ _) | (with_reducible refine Below.drewN ?_ _) | (with_reducible refine Below.drew ?_) | (with_reducible exact Nat.le_refl _) | (focus (simp only [World.size_alloc, World.size_setCell, World.size_drew, World.size_drewN]; omega)) | omega | exact Nat.le_refl _ | (focus (simp; done)) | (focus (simp; omega))))⟩
set_option maxRecDepth 100000 in
set_option maxHeartbeats 2000000 in
theorem rsame_1_12 (aA aB : Option Addr) (cA cB : Nat) (la lb : List Cmd) (uA : Bool) (tm st t ck cv ce cp cn c0 c1 c2 : Int) (w : World) :
    Calls Try.prog 37 #[.agg #[.slice aA la.length cA, .slice aB lb.length cB, .bool uA, .bool true, .int .i64 1, .int .i64 tm, .int .i64 st], .agg #[.int .i64 3, .int .i64 t, .int .i64 1, .int .i64 ck, .int .i64 cv, .int .i64 ce, .int .i64 cp, .int .i64 cn, .int .i64 c0, .int .i64 c1, .int .i64 c2]] w
      fun e w' => e = .returned (.tuple #[.agg #[.slice aA la.length cA, .slice aB lb.length cB, .bool uA, .bool true, .int .i64 1, .int .i64 tm, .int .i64 st], .int .i64 0, .int .i64 14]) ∧ Below w.heap.size w w' := by
  go_enter Try.func37, Try.ntmps37
  go_wp2_with fail
  refine wp_region_now0 [1, 3] [(0, 0), (1, 2), (2, 0), (3, 2), (4, 0), (5, 0), (6, 0)] (by kernel_rfl) (by kernel_rfl) rfl (by kernel_rfl) ?_
  refine stepE0 rfl rfl (fun K hK => ?_)
  go_simp
  refine hK _ ?_
  clear hK K
  refine stepE2 rfl rfl ?_ (fun w1 hS => ?_) (fun K hK => ?_)
  rotate_left
  focus (obtain rfl : w1 = _ := hS; go_simp; rfl)
  go_simp
  refine hK _ ?_
  clear hK K
  refine stepE0 rfl rfl (fun K hK => ?_)
  go_simp
  refine hK _ ?_
  clear hK K
  refine stepE2 rfl rfl ?_ (fun w1 hS => ?_) (fun K hK => ?_)
  rotate_left
  focus (obtain rfl : w1 = _ := hS; go_simp; rfl)
  go_simp
  refine hK _ ?_
  clear hK K
  refine stepE0 rfl rfl (fun K hK => ?_)
  go_simp
  refine hK _ ?_
  clear hK K
  refine stepE0 rfl rfl (fun K hK => ?_)
  go_simp
  refine hK _ ?_
  clear hK K
  refine stepE0 rfl rfl (fun K hK => ?_)
  go_simp
  refine hK _ ?_
  clear hK K
  try refine stepEnil0 ?_
  go_wp2_with fail
  obtain ⟨SS, HSD⟩ : ∃ SS : World → Prop, Hid (SS = fun w' => w'.cell? ⟨w.heap.size, 0, none⟩ = some (.slice aA la.length cA) ∧ w'.cell? ⟨w.heap.size, 1, none⟩ = some (.slice aB lb.length cB) ∧ w'.cell? ⟨w.heap.size, 2, none⟩ = some (.bool uA) ∧ w'.cell? ⟨w.heap.size, 3, none⟩ = some (.bool true) ∧ w'.cell? ⟨w.heap.size, 4, none⟩ = some (.int .i64 1) ∧ w'.cell? ⟨w.heap.size, 5, none⟩ = some (.int .i64 tm) ∧ w'.cell? ⟨w.heap.size, 6, none⟩ = some (.int .i64 st)) := ⟨_, Lib.hid rfl⟩
  refine wp_region_order0 SS [0, 3] [(0, 2), (1, 0), (3, 2), (4, 0), (2, 1), (5, 1), (6, 0), (7, 0)] (by kernel_rfl) (by kernel_rfl) rfl (by kernel_rfl) ?_ ?_
  focus (rw [HSD.out]; refine ⟨?_, ?_, ?_, ?_, ?_, ?_, ?_⟩ <;> go_simp)
  refine stepE2 rfl rfl ?_ (fun w1 hS => ?_) (fun K hK => ?_)
  rotate_left
  focus (rw [HSD.out] at hS; obtain ⟨s0, s1, s2, s3, s4, s5, s6⟩ := hS; go_simp; rfl)
  go_simp
  refine hK _ ?_
  clear hK K
  refine stepE0 rfl rfl (fun K hK => ?_)
  go_simp
  refine hK _ ?_
  clear hK K
  refine stepE2 rfl rfl ?_ (fun w1 hS => ?_) (fun K hK => ?_)
  rotate_left
  focus (rw [HSD.out] at hS; obtain ⟨s0, s1, s2, s3, s4, s5, s6⟩ := hS; go_simp; rfl)
  go_simp
  refine hK _ ?_
  clear hK K
  refine stepE0 rfl rfl (fun K hK => ?_)
  go_simp
  refine hK _ ?_
  clear hK K
  refine stepE1S rfl rfl (fun K hK => ?_)
  (go_wp2_with fail; refine Calls.mono (rlog_1 _ _ _ _ _ _ _ _ _ _ _ _) ?_; rintro e w2 ⟨rfl, rfl⟩; go_wp2)
  refine ⟨by rw [HSD.out]; exact (by refine ⟨?_, ?_, ?_, ?_, ?_, ?_, ?_⟩ <;> go_simp), ?_⟩
  refine stepE1 rfl rfl (by kernel_rfl) (fun K hK => ?_)
  (go_wp2_with fail; refine Calls.mono (rlog_0 _ _ _ _ _ _ _ _ _ _ _ _) ?_; rintro e w2 ⟨rfl, rfl⟩; go_wp2)
  refine stepE0 rfl rfl (fun K hK => ?_)
  go_simp
  refine hK _ ?_
  clear hK K
  refine stepE0 rfl rfl (fun K hK => ?_)
  go_simp
  refine hK _ ?_
  clear hK K
  try refine stepEnil0 ?_
  clear HSD SS
  go_wp2_with fail
  refine bodyPost_ret (v := .tuple #[.agg #[.slice aA la.length cA, .slice aB lb.length cB, .bool uA, .bool true, .int .i64 1, .int .i64 tm, .int .i64 st], .int .i64 0, .int .i64 14]) ?_ rfl ?_
  · simp [results, Try.results37, go_sem]
  · exact ⟨rfl, (by repeat (first | (with_reducible exact Below.refl _ _) | (with_reducible refine Below.setCell ?_ ?_ _) | (with_reducible refine Below.alloc ?_ ?_ _) | (with_reducible refine Below.drewN ?_ _) | (with_reducible refine Below.drew ?_) | (with_reducible exact Nat.le_refl _) | (focus (simp only [World.size_alloc, World.size_setCell, World.size_drew, World.size_drewN]; omega)) | omega | exact Nat.le_refl _ | (focus (simp; done)) | (focus (simp; omega))))⟩
set_option maxRecDepth 100000 in
set_option maxHeartbeats 2000000 in
theorem rsame_1_13 (aA aB : Option Addr) (cA cB : Nat) (la lb : List Cmd) (uB : Bool) (tm st t ck cv ce cp cn c0 c1 c2 : Int) (w : World) :
    Calls Try.prog 37 #[.agg #[.slice aA la.length cA, .slice aB lb.length cB, .bool true, .bool uB, .int .i64 1, .int .i64 tm, .int .i64 st], .agg #[.int .i64 3, .int .i64 t, .int .i64 0, .int .i64 ck, .int .i64 cv, .int .i64 ce, .int .i64 cp, .int .i64 cn, .int .i64 c0, .int .i64 c1, .int .i64 c2]] w
      fun e w' => e = .returned (.tuple #[.agg #[.slice aA la.length cA, .slice aB lb.length cB, .bool true, .bool uB, .int .i64 1, .int .i64 tm, .int .i64 st], .int .i64 0, .int .i64 14]) ∧ Below w.heap.size w w' := by
  go_enter Try.func37, Try.ntmps37
  go_wp2_with fail
  refine wp_region_now0 [1, 3] [(0, 0), (1, 2), (2, 0), (3, 2), (4, 0), (5, 0), (6, 0)] (by kernel_rfl) (by kernel_rfl) rfl (by kernel_rfl) ?_
  refine stepE0 rfl rfl (fun K hK => ?_)
  go_simp
  refine hK _ ?_
  clear hK K
  refine stepE2 rfl rfl ?_ (fun w1 hS => ?_) (fun K hK => ?_)
  rotate_left
  focus (obtain rfl : w1 = _ := hS; go_simp; rfl)
  go_simp
  refine hK _ ?_
  clear hK K
  refine stepE0 rfl rfl (fun K hK => ?_)
  go_simp
  refine hK _ ?_
  clear hK K
  refine stepE2 rfl rfl ?_ (fun w1 hS => ?_) (fun K hK => ?_)
  rotate_left
  focus (obtain rfl : w1 = _ := hS; go_simp; rfl)
  go_simp
  refine hK _ ?_
  clear hK K
  refine stepE0 rfl rfl (fun K hK => ?_)
  go_simp
  refine hK _ ?_
  clear hK K
  refine stepE0 rfl rfl (fun K hK => ?_)
  go_simp
  refine hK _ ?_
  clear hK K
  refine stepE0 rfl rfl (fun K hK => ?_)
  go_simp
  refine hK _ ?_
  clear hK K
  try refine stepEnil0 ?_
  go_wp2_with fail
  obtain ⟨SS, HSD⟩ : ∃ SS : World → Prop, Hid (SS = fun w' => w'.cell? ⟨w.heap.size, 0, none⟩ = some (.slice aA la.length cA) ∧ w'.cell? ⟨w.heap.size, 1, none⟩ = some (.slice aB lb.length cB) ∧ w'.cell? ⟨w.heap.size, 2, none⟩ = some (.bool true) ∧ w'.cell? ⟨w.heap.size, 3, none⟩ = some (.bool uB) ∧ w'.cell? ⟨w.heap.size, 4, none⟩ = some (.int .i64 1) ∧ w'.cell? ⟨w.heap.size, 5, none⟩ = some (.int .i64 tm) ∧ w'.cell? ⟨w.heap.size, 6, none⟩ = some (.int .i64 st)) := ⟨_, Lib.hid rfl⟩
  refine wp_region_order0 SS [0, 3] [(0, 2), (1, 0), (3, 2), (4, 0), (2, 1), (5, 1), (6, 0), (7, 0)] (by kernel_rfl) (by kernel_rfl) rfl (by kernel_rfl) ?_ ?_
  focus (rw [HSD.out]; refine ⟨?_, ?_, ?_, ?_, ?_, ?_, ?_⟩ <;> go_simp)
  refine stepE2 rfl rfl ?_ (fun w1 hS => ?_) (fun K hK => ?_)
  rotate_left
  focus (rw [HSD.out] at hS; obtain ⟨s0, s1, s2, s3, s4, s5, s6⟩ := hS; go_simp; rfl)
  go_simp
  refine hK _ ?_
  clear hK K
  refine stepE0 rfl rfl (fun K hK => ?_)
  go_simp
  refine hK _ ?_
  clear hK K
  refine stepE2 rfl rfl ?_ (fun w1 hS => ?_) (fun K hK => ?_)
  rotate_left
  focus (rw [HSD.out] at hS; obtain ⟨s0, s1, s2, s3, s4, s5, s6⟩ := hS; go_simp; rfl)
  go_simp
  refine hK _ ?_
  clear hK K
  refine stepE0 rfl rfl (fun K hK => ?_)
  go_simp
  refine hK _ ?_
  clear hK K
  refine stepE1S rfl rfl (fun K hK => ?_)
  (go_wp2_with fail; refine Calls.mono (rlog_1 _ _ _ _ _ _ _ _ _ _ _ _) ?_; rintro e w2 ⟨rfl, rfl⟩; go_wp2)
  refine ⟨by rw [HSD.out]; exact (by refine ⟨?_, ?_, ?_, ?_, ?_, ?_, ?_⟩ <;> go_simp), ?_⟩
  refine stepE1 rfl rfl (by kernel_rfl) (fun K hK => ?_)
  (go_wp2_with fail; refine Calls.mono (rlog_0 _ _ _ _ _ _ _ _ _ _ _ _) ?_; rintro e w2 ⟨rfl, rfl⟩; go_wp2)
  refine stepE0 rfl rfl (fun K hK => ?_)
  go_simp
  refine hK _ ?_
  clear hK K
  refine stepE0 rfl rfl (fun K hK => ?_)
  go_simp
  refine hK _ ?_
  clear hK K
  try refine stepEnil0 ?_
  clear HSD SS
  go_wp2_with fail
  refine bodyPost_ret (v := .tuple #[.agg #[.slice aA la.length cA, .slice aB lb.length cB, .bool true, .bool uB, .int .i64 1, .int .i64 tm, .int .i64 st], .int .i64 0, .int .i64 14]) ?_ rfl ?_
  · simp [results, Try.results37, go_sem]
  · exact ⟨rfl, (by repeat (first | (with_reducible exact Below.refl _ _) | (with_reducible refine Below.setCell ?_ ?_ _) | (with_reducible refine Below.alloc ?_ ?_ _) | (with_reducible refine Below.drewN ?_ _) | (with_reducible refine Below.drew ?_) | (with_reducible exact Nat.le_refl _) | (focus (simp only [World.size_alloc, World.size_setCell, World.size_drew, World.size_drewN]; omega)) | omega | exact Nat.le_refl _ | (focus (simp; done)) | (focus (simp; omega))))⟩
set_option maxRecDepth 100000 in
set_option maxHeartbeats 2000000 in
theorem rsame_1_14 (aA aB : Option Addr) (cA cB : Nat) (la lb : List Cmd)  (tm st t ck cv ce cp cn c0 c1 c2 : Int) (w : World) :
    Calls Try.prog 37 #[.agg #[.slice aA la.length cA, .slice aB lb.length cB, .bool false, .bool false, .int .i64 1, .int .i64 tm, .int .i64 st], .agg #[.int .i64 3, .int .i64 t, .int .i64 0, .int .i64 ck, .int .i64 cv, .int .i64 ce, .int .i64 cp, .int .i64 cn, .int .i64 c0, .int .i64 c1, .int .i64 c2]] w
      fun e w' => e = .returned (.tuple #[.agg #[.slice aA la.length cA, .slice aB lb.length cB, .bool false, .bool false, .int .i64 1, .int .i64 tm, .int .i64 st], .int .i64 0, .int .i64 12]) ∧ Below w.heap.size w w' := by
  go_enter Try.func37, Try.ntmps37
  go_wp2_with fail
  refine wp_region_now0 [1, 3] [(0, 0), (1, 2), (2, 0), (3, 2), (4, 0), (5, 0), (6, 0)] (by kernel_rfl) (by kernel_rfl) rfl (by kernel_rfl) ?_
  refine stepE0 rfl rfl (fun K hK => ?_)
  go_simp
  refine hK _ ?_
  clear hK K
  refine stepE2 rfl rfl ?_ (fun w1 hS => ?_) (fun K hK => ?_)
  rotate_left
  focus (obtain rfl : w1 = _ := hS; go_simp; rfl)
  go_simp
  refine hK _ ?_
  clear hK K
  refine stepE0 rfl rfl (fun K hK => ?_)
  go_simp
  refine hK _ ?_
  clear hK K
  refine stepE2 rfl rfl ?_ (fun w1 hS => ?_) (fun K hK => ?_)
  rotate_left
  focus (obtain rfl : w1 = _ := hS; go_simp; rfl)
  go_simp
  refine hK _ ?_
  clear hK K
  refine stepE0 rfl rfl (fun K hK => ?_)
  go_simp
  refine hK _ ?_
  clear hK K
  refine stepE0 rfl rfl (fun K hK => ?_)
  go_simp
  refine hK _ ?_
  clear hK K
  refine stepE0 rfl rfl (fun K hK => ?_)
  go_simp
  refine hK _ ?_
  clear hK K
  try refine stepEnil0 ?_
  go_wp2_with fail
  obtain ⟨SS, HSD⟩ : ∃ SS : World → Prop, Hid (SS = fun w' => w'.cell? ⟨w.heap.size, 0, none⟩ = some (.slice aA la.length cA) ∧ w'.cell? ⟨w.heap.size, 1, none⟩ = some (.slice aB lb.length cB) ∧ w'.cell? ⟨w.heap.size, 2, none⟩ = some (.bool false) ∧ w'.cell? ⟨w.heap.size, 3, none⟩ = some (.bool false) ∧ w'.cell? ⟨w.heap.size, 4, none⟩ = some (.int .i64 1) ∧ w'.cell? ⟨w.heap.size, 5, none⟩ = some (.int .i64 tm) ∧ w'.cell? ⟨w.heap.size, 6, none⟩ = some (.int .i64 st)) := ⟨_, Lib.hid rfl⟩
  refine wp_region_order0 SS [0, 3] [(0, 2), (1, 0), (3, 2), (4, 0), (2, 1), (5, 1), (6, 0), (7, 0)] (by kernel_rfl) (by kernel_rfl) rfl (by kernel_rfl) ?_ ?_
  focus (rw [HSD.out]; refine ⟨?_, ?_, ?_, ?_, ?_, ?_, ?_⟩ <;> go_simp)
  refine stepE2 rfl rfl ?_ (fun w1 hS => ?_) (fun K hK => ?_)
  rotate_left
  focus (rw [HSD.out] at hS; obtain ⟨s0, s1, s2, s3, s4, s5, s6⟩ := hS; go_simp; rfl)
  go_simp
  refine hK _ ?_
  clear hK K
  refine stepE0 rfl rfl (fun K hK => ?_)
  go_simp
  refine hK _ ?_
  clear hK K
  refine stepE2 rfl rfl ?_ (fun w1 hS => ?_) (fun K hK => ?_)
  rotate_left
  focus (rw [HSD.out] at hS; obtain ⟨s0, s1, s2, s3, s4, s5, s6⟩ := hS; go_simp; rfl)
  go_simp
  refine hK _ ?_
  clear hK K
  refine stepE0 rfl rfl (fun K hK => ?_)
  go_simp
  refine hK _ ?_
  clear hK K
  refine stepE1S rfl rfl (fun K hK => ?_)
  (go_wp2_with fail; refine Calls.mono (rlog_1 _ _ _ _ _ _ _ _ _ _ _ _) ?_; rintro e w2 ⟨rfl, rfl⟩; go_wp2)
  refine ⟨by rw [HSD.out]; exact (by refine ⟨?_, ?_, ?_, ?_, ?_, ?_, ?_⟩ <;> go_simp), ?_⟩
  refine stepE1 rfl rfl (by kernel_rfl) (fun K hK => ?_)
  (go_wp2_with fail; refine Calls.mono (rlog_0 _ _ _ _ _ _ _ _ _ _ _ _) ?_; rintro e w2 ⟨rfl, rfl⟩; go_wp2)
  refine stepE0 rfl rfl (fun K hK => ?_)
  go_simp
  refine hK _ ?_
  clear hK K
  refine stepE0 rfl rfl (fun K hK => ?_)
  go_simp
  refine hK _ ?_
  clear hK K
  try refine stepEnil0 ?_
  clear HSD SS
  go_wp2_with fail
  refine bodyPost_ret (v := .tuple #[.agg #[.slice aA la.length cA, .slice aB lb.length cB, .bool false, .bool false, .int .i64 1, .int .i64 tm, .int .i64 st], .int .i64 0, .int .i64 12]) ?_ rfl ?_
  · simp [results, Try.results37, go_sem]
  · exact ⟨rfl, (by repeat (first | (with_reducible exact Below.refl _ _) | (with_reducible refine Below.setCell ?_ ?_ _) | (with_reducible refine Below.alloc ?_ ?_ _) | (with_reducible refine Below.drewN ?_ _) | (with_reducible refine Below.drew ?_) | (with_reducible exact Nat.le_refl _) | (focus (simp only [World.size_alloc, World.size_setCell, World.size_drew, World.size_drewN]; omega)) | omega | exact Nat.le_refl _ | (focus (simp; done)) | (focus (simp; omega))))⟩
end Go.Proofs.Ytigkcbnlbdiimaa

/- Blocks through a chain of worlds; a row of commands of the reference; corncribref20.New. -/
namespace Go.Proofs.Ytigkcbnlbdiimaa
open Go.RowKit
theorem blk_new {w : World} {k : Nat} (o : Obj) (hk : w.heap.size = k) : (w.alloc o).heap[k]? = some o := by
  subst hk
  exact heap_alloc_new w o
theorem blk_alloc {w : World} {k : Nat} {x : Obj} (h : w.heap[k]? = some x) (o : Obj) : (w.alloc o).heap[k]? = some x :=
  (Below.heap_alloc w o k (Array.getElem?_eq_some_iff.1 h).1).trans h
theorem blk_drew {w : World} {k : Nat} {x : Obj} (h : w.heap[k]? = some x) : w.drew.heap[k]? = some x := h
theorem blk_drewN {w : World} {k : Nat} {x : Obj} (n : Nat) (h : w.heap[k]? = some x) : (w.drewN n).heap[k]? = some x := h
theorem blk_set {w : World} {k : Nat} {x : Obj} (h : w.heap[k]? = some x) (a : Addr) (v : Value) (hne : k ≠ a.block) : (w.setCell a v).heap[k]? = some x := (Below.heap_setCell w a v k hne).trans h
theorem cells7 {w : World} {b : Nat} {t : TypeId} {v0 v1 v2 v3 v4 v5 v6 : Value} (h : w.heap[b]? = some (.cells #[v0, v1, v2, v3, v4, v5, v6] t (0, 0))) :
    w.cell? ⟨b, 0, none⟩ = some v0 ∧ w.cell? ⟨b, 1, none⟩ = some v1 ∧ w.cell? ⟨b, 2, none⟩ = some v2 ∧ w.cell? ⟨b, 3, none⟩ = some v3 ∧ w.cell? ⟨b, 4, none⟩ = some v4 ∧ w.cell? ⟨b, 5, none⟩ = some v5 ∧ w.cell? ⟨b, 6, none⟩ = some v6 ∧ ∀ o, w.frozen? ⟨b, o, none⟩ = false := by
  have e := fun j => cell_of_row w b j _ _ _ h
  exact ⟨e 0, e 1, e 2, e 3, e 4, e 5, e 6, fun o => frozen_of_row w b o _ _ h⟩
theorem cells11 {w : World} {b : Nat} {t : TypeId} {v0 v1 v2 v3 v4 v5 v6 v7 v8 v9 v10 : Value} (h : w.heap[b]? = some (.cells #[v0, v1, v2, v3, v4, v5, v6, v7, v8, v9, v10] t (0, 0))) :
    w.cell? ⟨b, 0, none⟩ = some v0 ∧ w.cell? ⟨b, 1, none⟩ = some v1 ∧ w.cell? ⟨b, 2, none⟩ = some v2 ∧ w.cell? ⟨b, 3, none⟩ = some v3 ∧ w.cell? ⟨b, 4, none⟩ = some v4 ∧ w.cell? ⟨b, 5, none⟩ = some v5 ∧ w.cell? ⟨b, 6, none⟩ = some v6 ∧ w.cell? ⟨b, 7, none⟩ = some v7 ∧ w.cell? ⟨b, 8, none⟩ = some v8 ∧ w.cell? ⟨b, 9, none⟩ = some v9 ∧ w.cell? ⟨b, 10, none⟩ = some v10 := by
  have e := fun j => cell_of_row w b j _ _ _ h
  exact ⟨e 0, e 1, e 2, e 3, e 4, e 5, e 6, e 7, e 8, e 9, e 10⟩
theorem store7 {w : World} {b : Nat} {t : TypeId} {v0 v1 v2 v3 v4 v5 v6 : Value} (h : w.heap[b]? = some (.cells #[v0, v1, v2, v3, v4, v5, v6] t (0, 0))) (u0 u1 u2 u3 u4 u5 u6 : Value) :
    (((((((w.setCell ⟨b, 0, none⟩ u0).setCell ⟨b, 1, none⟩ u1).setCell ⟨b, 2, none⟩ u2).setCell ⟨b, 3, none⟩ u3).setCell ⟨b, 4, none⟩ u4).setCell ⟨b, 5, none⟩ u5).setCell ⟨b, 6, none⟩ u6).heap[b]? = some (.cells #[u0, u1, u2, u3, u4, u5, u6] t (0, 0)) := by
  have h0 : (w.setCell ⟨b, 0, none⟩ u0).heap[b]? = some (.cells #[u0, v1, v2, v3, v4, v5, v6] t (0, 0)) := by simpa using heap_setCell_same w b 0 _ t u0 h
  have h1 : ((w.setCell ⟨b, 0, none⟩ u0).setCell ⟨b, 1, none⟩ u1).heap[b]? = some (.cells #[u0, u1, v2, v3, v4, v5, v6] t (0, 0)) := by simpa using heap_setCell_same (w.setCell ⟨b, 0, none⟩ u0) b 1 _ t u1 h0
  have h2 : (((w.setCell ⟨b, 0, none⟩ u0).setCell ⟨b, 1, none⟩ u1).setCell ⟨b, 2, none⟩ u2).heap[b]? = some (.cells #[u0, u1, u2, v3, v4, v5, v6] t (0, 0)) := by simpa using heap_setCell_same ((w.setCell ⟨b, 0, none⟩ u0).setCell ⟨b, 1, none⟩ u1) b 2 _ t u2 h1
  have h3 : ((((w.setCell ⟨b, 0, none⟩ u0).setCell ⟨b, 1, none⟩ u1).setCell ⟨b, 2, none⟩ u2).setCell ⟨b, 3, none⟩ u3).heap[b]? = some (.cells #[u0, u1, u2, u3, v4, v5, v6] t (0, 0)) := by simpa using heap_setCell_same (((w.setCell ⟨b, 0, none⟩ u0).setCell ⟨b, 1, none⟩ u1).setCell ⟨b, 2, none⟩ u2) b 3 _ t u3 h2
  have h4 : (((((w.setCell ⟨b, 0, none⟩ u0).setCell ⟨b, 1, none⟩ u1).setCell ⟨b, 2, none⟩ u2).setCell ⟨b, 3, none⟩ u3).setCell ⟨b, 4, none⟩ u4).heap[b]? = some (.cells #[u0, u1, u2, u3, u4, v5, v6] t (0, 0)) := by simpa using heap_setCell_same ((((w.setCell ⟨b, 0, none⟩ u0).setCell ⟨b, 1, none⟩ u1).setCell ⟨b, 2, none⟩ u2).setCell ⟨b, 3, none⟩ u3) b 4 _ t u4 h3
  have h5 : ((((((w.setCell ⟨b, 0, none⟩ u0).setCell ⟨b, 1, none⟩ u1).setCell ⟨b, 2, none⟩ u2).setCell ⟨b, 3, none⟩ u3).setCell ⟨b, 4, none⟩ u4).setCell ⟨b, 5, none⟩ u5).heap[b]? = some (.cells #[u0, u1, u2, u3, u4, u5, v6] t (0, 0)) := by simpa using heap_setCell_same (((((w.setCell ⟨b, 0, none⟩ u0).setCell ⟨b, 1, none⟩ u1).setCell ⟨b, 2, none⟩ u2).setCell ⟨b, 3, none⟩ u3).setCell ⟨b, 4, none⟩ u4) b 5 _ t u5 h4
  have h6 : (((((((w.setCell ⟨b, 0, none⟩ u0).setCell ⟨b, 1, none⟩ u1).setCell ⟨b, 2, none⟩ u2).setCell ⟨b, 3, none⟩ u3).setCell ⟨b, 4, none⟩ u4).setCell ⟨b, 5, none⟩ u5).setCell ⟨b, 6, none⟩ u6).heap[b]? = some (.cells #[u0, u1, u2, u3, u4, u5, u6] t (0, 0)) := by simpa using heap_setCell_same ((((((w.setCell ⟨b, 0, none⟩ u0).setCell ⟨b, 1, none⟩ u1).setCell ⟨b, 2, none⟩ u2).setCell ⟨b, 3, none⟩ u3).setCell ⟨b, 4, none⟩ u4).setCell ⟨b, 5, none⟩ u5) b 6 _ t u6 h5
  exact h6
theorem own_of_blk {w : World} {base k : Nat} (h : w.heap[k]? = some (.cells #[] 35 (0, 0))) (hb : base ≤ k) : w.ownsRow base 35 8 (.slice (some ⟨k, 0, none⟩) 0 0) 0 [] :=
  ⟨rfl, .inr ⟨k, 0, #[], rfl, hb, h, Nat.le_refl _, by unfold maxLen; omega, rfl, rfl⟩⟩
theorem row_cmd19 {w : World} {base : Nat} {v : Value} {n : Nat} {cs : List Cmd} (hr : w.ownsRow base 35 8 v n (cs.flatMap Cmd.row)) (k : Nat) (x : Cmd) (hx : cs[k]? = some x) :
    ∃ g c, v = .slice (some ⟨g, 0, none⟩) n c ∧ g < w.heap.size ∧ base ≤ g ∧ k < n ∧
      w.cell? ⟨g, k * 8, none⟩ = some (.int .i64 x.kind) ∧ w.cell? ⟨g, k * 8 + 1, none⟩ = some (.int .i64 x.vol) ∧ w.cell? ⟨g, k * 8 + 2, none⟩ = some (.int .i64 x.epoch) ∧
      w.cell? ⟨g, k * 8 + 3, none⟩ = some (.int .i64 x.spot) ∧ w.cell? ⟨g, k * 8 + 4, none⟩ = some (.int .i64 x.node) ∧ w.cell? ⟨g, k * 8 + 5, none⟩ = some (.int .i64 x.n0) ∧
      w.cell? ⟨g, k * 8 + 6, none⟩ = some (.int .i64 x.n1) ∧ w.cell? ⟨g, k * 8 + 7, none⟩ = some (.int .i64 x.n2) := by
  have hk : k < cs.length := (List.getElem?_eq_some_iff.1 hx).1
  have hlen := hr.1
  rw [length_flatMap_row Cmd.row 8 Cmd.row_len] at hlen
  have hlt := hr.lt
  rcases hr.2 with ⟨_, hz⟩ | ⟨g, cap, cur, rfl, hg, _⟩
  · omega
  · have hg1 := hlt g rfl
    have hc := fun j hj => ownsRow_cell Cmd.row 8 Cmd.row_len cs hr k j x hx hj
    refine ⟨g, cap, rfl, hg1.2, hg1.1, by omega, ?_, ?_, ?_, ?_, ?_, ?_, ?_, ?_⟩
    · simpa [Cmd.row] using hc 0 (by omega)
    · simpa [Cmd.row] using hc 1 (by omega)
    · simpa [Cmd.row] using hc 2 (by omega)
    · simpa [Cmd.row] using hc 3 (by omega)
    · simpa [Cmd.row] using hc 4 (by omega)
    · simpa [Cmd.row] using hc 5 (by omega)
    · simpa [Cmd.row] using hc 6 (by omega)
    · simpa [Cmd.row] using hc 7 (by omega)
set_option maxHeartbeats 400000 in
theorem ref20_new (w : World) : Calls Try.prog 36 #[] w
    fun e w' => e = .returned (.agg #[.slice none 0 0, .slice none 0 0, .bool true, .bool true, .int .i64 0, .int .i64 1, .int .i64 0]) ∧ Below w.heap.size w w' := by
  go_enter Try.func36, Try.ntmps36
  go_wp2
  refine bodyPost_ret (v := .agg #[.slice none 0 0, .slice none 0 0, .bool true, .bool true, .int .i64 0, .int .i64 1, .int .i64 0]) ?_ rfl ?_
  · simp [results, Try.results36, go_sem]
  · exact ⟨rfl, (by repeat (first | (with_reducible exact Below.refl _ _) | (with_reducible refine Below.setCell ?_ ?_ _) | (with_reducible refine Below.alloc ?_ ?_ _) | (with_reducible refine Below.drewN ?_ _) | (with_reducible refine Below.drew ?_) | (with_reducible exact Nat.le_refl _) | (focus (simp only [World.size_alloc, World.size_setCell, World.size_drew, World.size_drewN]; omega)) | omega | exact Nat.le_refl _ | (focus (simp; done)) | (focus (simp; omega))))⟩
end Go.Proofs.Ytigkcbnlbdiimaa
