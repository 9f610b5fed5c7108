/- corncribref19: near, Do where nothing changes. -/
import Derived.Test.YtigkcbnlbdiimaaDirsApart2
import Derived.OwnWalk
namespace Go.Proofs.Ytigkcbnlbdiimaa
open Go.RowKit
set_option maxHeartbeats 400000 in
theorem near_any (n : Int) (w : World) :
    Calls Try.prog 69 #[.int .i64 n] w fun e w' => e = .returned (.bool (placeB n)) ∧ w = w' := by
  by_cases h : 0 ≤ n
  · go_enter Try.func69, Try.ntmps69
    go_wp2
    go_ret
    exact ⟨by simp [placeB, h]; omega, rfl⟩
  · go_enter Try.func69, Try.ntmps69
    go_wp2
    go_ret
    exact ⟨by simp [placeB]; omega, rfl⟩
/-- What the document's Do gives: the entries, the number, the error. -/
def RefOut (w : World) (base : Nat) (es : List Ent) (n k : Int) (e : Ending) (w' : World) : Prop :=
  ∃ v', e = .returned (.tuple #[v', .int .i64 n, .int .i64 k]) ∧ w'.ownsRow base 128 6 v' es.length (es.flatMap Ent.row) ∧ Below w.heap.size w w'
theorem RefOut.same {w w' : World} {base : Nat} {v : Value} {es : List Ent} {n k : Int} (h : w.ownsRow base 128 6 v es.length (es.flatMap Ent.row)) (hb : Below w.heap.size w w') :
    RefOut w base es n k (.returned (.tuple #[v, .int .i64 n, .int .i64 k])) w' := ⟨v, rfl, ownsRow_below h hb, hb⟩
set_option maxRecDepth 100000 in
set_option maxHeartbeats 1000000 in
theorem ref_wild (base : Nat) (v : Value) (es : List Ent) (c : Cmd) (w : World) (h : w.ownsRow base 128 6 v es.length (es.flatMap Ent.row)) (hk : c.kind < 1 ∨ 4 < c.kind) :
    Calls Try.prog 39 #[v, .agg #[.int .i64 c.kind, .int .i64 c.vol, .int .i64 c.epoch, .int .i64 c.spot, .int .i64 c.node, .int .i64 c.n0, .int .i64 c.n1, .int .i64 c.n2]] w
      (RefOut w base es 0 1) := by
  have H := Lib.hid h
  obtain ⟨a, cap, rfl⟩ := ownsRow_len h
  clear h
  obtain ⟨k, cv, ce, cs, cn, c0, c1, c2⟩ := c
  have hk' : k < 1 ∨ 4 < k := hk
  clear hk
  by_cases h1 : k < 1
  · clear hk'
    go_enter Try.func39, Try.ntmps39
    go_wp2_with fail
    go_ret3
    exact RefOut.same H.out (by repeat (first | (with_reducible exact Below.refl _ _) | (with_reducible refine Below.setCell ?_ ?_ _) | (with_reducible refine Below.alloc ?_ ?_ _) | (with_reducible refine Below.drewN ?_ _) | (with_reducible refine Below.drew ?_) | (with_reducible exact Nat.le_refl _) | (focus (simp only [World.size_alloc, World.size_setCell, World.size_drew, World.size_drewN]; omega)) | omega | exact Nat.le_refl _ | (focus (simp; done)) | (focus (simp; omega))))
  · have h4 : 4 < k := by omega
    have h1' : decide (k < 1) = false := by simpa using h1
    clear hk' h1
    go_enter Try.func39, Try.ntmps39
    go_wp2_with fail
    go_ret3
    exact RefOut.same H.out (by repeat (first | (with_reducible exact Below.refl _ _) | (with_reducible refine Below.setCell ?_ ?_ _) | (with_reducible refine Below.alloc ?_ ?_ _) | (with_reducible refine Below.drewN ?_ _) | (with_reducible refine Below.drew ?_) | (with_reducible exact Nat.le_refl _) | (focus (simp only [World.size_alloc, World.size_setCell, World.size_drew, World.size_drewN]; omega)) | omega | exact Nat.le_refl _ | (focus (simp; done)) | (focus (simp; omega))))
theorem three_ways {a b c : Int} (h : threeB a b c = false) :
    placeB a = false ∨ (placeB a = true ∧ placeB b = false) ∨ (placeB a = true ∧ placeB b = true ∧ placeB c = false) ∨ (placeB a = true ∧ placeB b = true ∧ placeB c = true ∧ (a == b) = true) ∨
    (placeB a = true ∧ placeB b = true ∧ placeB c = true ∧ (a == b) = false ∧ (a == c) = true) ∨ (placeB a = true ∧ placeB b = true ∧ placeB c = true ∧ (a == b) = false ∧ (a == c) = false ∧ (b == c) = true) := by
  cases ha : placeB a <;> cases hb : placeB b <;> cases hc : placeB c <;> cases h1 : (a == b) <;> cases h2 : (a == c) <;> cases h3 : (b == c) <;> simp_all [threeB]
theorem three_yes {a b c : Int} (h : threeB a b c = true) : placeB a = true ∧ placeB b = true ∧ placeB c = true ∧ (a == b) = false ∧ (a == c) = false ∧ (b == c) = false := by
  cases ha : placeB a <;> cases hb : placeB b <;> cases hc : placeB c <;> cases h1 : (a == b) <;> cases h2 : (a == c) <;> cases h3 : (b == c) <;> simp_all [threeB]
set_option maxRecDepth 100000 in
set_option maxHeartbeats 2000000 in
theorem ref_arg (base : Nat) (v : Value) (es : List Ent) (c : Cmd) (w : World) (h : w.ownsRow base 128 6 v es.length (es.flatMap Ent.row)) (hk : c.kind = 1) (ht : threeB c.n0 c.n1 c.n2 = false) :
    Calls Try.prog 39 #[v, .agg #[.int .i64 c.kind, .int .i64 c.vol, .int .i64 c.epoch, .int .i64 c.spot, .int .i64 c.node, .int .i64 c.n0, .int .i64 c.n1, .int .i64 c.n2]] w
      (RefOut w base es 0 1) := by
  have H := Lib.hid h
  obtain ⟨a, cap, rfl⟩ := ownsRow_len h
  clear h
  obtain ⟨k, cv, ce, cs, cn, c0, c1, c2⟩ := c
  have hk' : k = 1 := hk
  subst hk'
  clear hk
  have hnear := near_any
  have hw := three_ways ht
  clear ht
  have ht := hw
  clear hw
  simp only at ht
  rcases ht with ha | ⟨ha, hb⟩ | ⟨ha, hb, hc⟩ | ⟨ha, hb, hc, h1⟩ | ⟨ha, hb, hc, h1, h2⟩ | ⟨ha, hb, hc, h1, h2, h3⟩
  all_goals
    go_enter Try.func39, Try.ntmps39
    go_wp2_with fail
    refine wp_region_now0 [2, 5, 8] [(0, 0), (1, 0), (2, 2), (3, 0), (4, 0), (5, 2), (6, 0), (7, 0), (8, 2), (9, 0), (10, 0), (11, 0)] (by kernel_rfl) (by kernel_rfl) rfl (by kernel_rfl) ?_
    refine stepE0 rfl rfl (fun K hK => ?_)
    go_simp
    refine hK _ ?_
    clear hK K
    refine stepE0 rfl rfl (fun K hK => ?_)
    go_simp
    refine hK _ ?_
    clear hK K
    refine stepE2 rfl rfl ?_ (fun w1 hS => ?_) (fun K hK => ?_)
    rotate_left
    focus (obtain rfl : w1 = _ := hS; go_simp; rfl)
    go_simp
    refine hK _ ?_
    clear hK K
    refine stepE0 rfl rfl (fun K hK => ?_)
    go_simp
    refine hK _ ?_
    clear hK K
    refine stepE0 rfl rfl (fun K hK => ?_)
    go_simp
    refine hK _ ?_
    clear hK K
    refine stepE2 rfl rfl ?_ (fun w1 hS => ?_) (fun K hK => ?_)
    rotate_left
    focus (obtain rfl : w1 = _ := hS; go_simp; rfl)
    go_simp
    refine hK _ ?_
    clear hK K
    refine stepE0 rfl rfl (fun K hK => ?_)
    go_simp
    refine hK _ ?_
    clear hK K
    refine stepE0 rfl rfl (fun K hK => ?_)
    go_simp
    refine hK _ ?_
    clear hK K
    refine stepE2 rfl rfl ?_ (fun w1 hS => ?_) (fun K hK => ?_)
    rotate_left
    focus (obtain rfl : w1 = _ := hS; go_simp; rfl)
    go_simp
    refine hK _ ?_
    clear hK K
    refine stepE0 rfl rfl (fun K hK => ?_)
    go_simp
    refine hK _ ?_
    clear hK K
    refine stepE0 rfl rfl (fun K hK => ?_)
    go_simp
    refine hK _ ?_
    clear hK K
    refine stepE0 rfl rfl (fun K hK => ?_)
    go_simp
    refine hK _ ?_
    clear hK K
    try refine stepEnil0 ?_
    go_wp2_with (go_at_call 69; refine (near_any _ _).mono ?_; rintro e w' ⟨rfl, rfl⟩; simp only [ha, *])
    go_ret3
    exact RefOut.same H.out (by repeat (first | (with_reducible exact Below.refl _ _) | (with_reducible refine Below.setCell ?_ ?_ _) | (with_reducible refine Below.alloc ?_ ?_ _) | (with_reducible refine Below.drewN ?_ _) | (with_reducible refine Below.drew ?_) | (with_reducible exact Nat.le_refl _) | (focus (simp only [World.size_alloc, World.size_setCell, World.size_drew, World.size_drewN]; omega)) | omega | exact Nat.le_refl _ | (focus (simp; done)) | (focus (simp; omega))))
end Go.Proofs.Ytigkcbnlbdiimaa
