/- Package twin: Fall. (Written by wip/gentwin.py.) -/
import Derived.Test.YtigkcbnlbdiimaaTwin4
namespace Go.Proofs.Ytigkcbnlbdiimaa
open Go.RowKit
set_option maxRecDepth 100000 in
set_option maxHeartbeats 4000000 in
theorem fall_lead_false (base bp : Nat) (va vb : Value) (ua ub : Bool) (la lb : List Cmd) (tm st : Int) (w : World) (h : PairAt w base bp va vb ⟨⟨ua, la⟩, ⟨ub, lb⟩, false, tm, st⟩) (hN : la.length ≤ 100000) (hN2 : lb.length ≤ 100000) (ht0 : 0 ≤ tm) (ht1 : tm ≤ 1000000) :
    Calls Try.prog 33 #[.pointer (some ⟨bp, 0, none⟩), .int .i64 0] w
      fun e w' => e = .returned (errV (fallK ⟨⟨ua, la⟩, ⟨ub, lb⟩, false, tm, st⟩ false)) ∧ PairTo w base bp va vb (fallP ⟨⟨ua, la⟩, ⟨ub, lb⟩, false, tm, st⟩ false) w' := by
  have H := Lib.hid h
  have hlt := h.lt
  obtain ⟨k0, k1, k2, k3, k4, k5, k6, kf⟩ := h.cell
  simp only [Pr.a, Pr.b, Pr.ld, if_true, if_false, Bool.false_eq_true] at k0 k1 k2 k3 k4 k5 k6
  obtain ⟨aA, cA, rfl⟩ := ownsRow_len h.ra
  obtain ⟨aB, cB, rfl⟩ := ownsRow_len h.rb
  simp only [Pr.a, Pr.b, if_true, if_false, Bool.false_eq_true] at k1 k3
  clear h
  have hw1 : IntKind.i64.wrap 1 = 1 := IntWalk.i64_in _ (by omega)
  have hw0 : IntKind.i64.wrap 0 = 0 := IntWalk.i64_in _ (by omega)
  cases ua
  · go_enter Try.func33, Try.ntmps33
    go_wp2_with fail
    refine (right_ok bp false _).mono ?_
    rintro e w1 ⟨rfl, rfl⟩
    go_wp2_with fail
    go_ret
    refine ⟨by simp [fallK]; exact errV_12.symm, ?_⟩
    simp only [fallP, if_true, if_false, Bool.false_eq_true]
    exact PairTo.same H.out (by repeat (first | (with_reducible exact Below.refl _ _) | (with_reducible refine Below.setCell ?_ ?_ _) | (with_reducible refine Below.alloc ?_ ?_ _) | (with_reducible refine Below.drewN ?_ _) | (with_reducible refine Below.drew ?_) | (with_reducible exact Nat.le_refl _) | (focus (simp only [World.size_alloc, World.size_setCell, World.size_drew, World.size_drewN]; omega)) | omega | exact Nat.le_refl _ | (focus (simp; done)) | (focus (simp; omega))))
  cases ub
  · go_enter Try.func33, Try.ntmps33
    go_wp2_with fail
    refine (right_ok bp false _).mono ?_
    rintro e w1 ⟨rfl, rfl⟩
    go_wp2_with fail
    refine Calls.mono (follower_0 bp _ ?_) ?_
    · go_simp
    rintro e w1 ⟨rfl, rfl⟩
    go_wp2_with fail
    refine Calls.mono (leader_0 bp _ ?_) ?_
    · go_simp
    rintro e w1 ⟨rfl, rfl⟩
    go_wp2_with fail
    go_ret
    refine ⟨by simp [fallK, errV], ?_⟩
    simp only [fallP, if_true, if_false, Bool.false_eq_true]
    refine PairTo.of_pst H.out (Pst.cast ((((Pst.refl (F := fun k => k = bp) H.out.blk).setCell (i := 0) (v := .bool false) rfl).drew).drew) ?_) rfl rfl
    simp [Pr.cells, Pr.a, Pr.b, Pr.ld]
  · go_enter Try.func33, Try.ntmps33
    go_wp2_with fail
    refine (right_ok bp false _).mono ?_
    rintro e w1 ⟨rfl, rfl⟩
    go_wp2_with fail
    refine Calls.mono (follower_0 bp _ ?_) ?_
    · go_simp
    rintro e w1 ⟨rfl, rfl⟩
    go_wp2_with fail
    refine Calls.mono (leader_1 bp _ ?_) ?_
    · go_simp
    rintro e w1 ⟨rfl, rfl⟩
    go_wp2_with fail
    refine Calls.mono (leader_1 bp _ ?_) ?_
    · go_simp
    rintro e w1 ⟨rfl, rfl⟩
    go_wp2_with fail
    refine Calls.mono (settle_any bp st _ _ ?_ ?_) ?_
    · go_simp
    · go_simp
    rintro e w3 ⟨rfl, rfl⟩
    go_wp2_with fail
    go_ret
    refine ⟨by simp [fallK, errV], ?_⟩
    simp only [fallP, if_true, if_false, Bool.false_eq_true]
    refine PairTo.of_pst H.out (Pst.cast (((((((Pst.refl (F := fun k => k = bp) H.out.blk).setCell (i := 0) (v := .bool false) rfl).setCell (i := 4) (v := .int .i64 1) rfl).setCell (i := 5) (v := .int .i64 (tm + 1)) rfl).setCell (i := 6) (v := .int .i64 (max st lb.length)) rfl).drew).drew.drew) ?_) rfl rfl
    simp [Pr.cells, Pr.a, Pr.b, Pr.ld]
set_option maxRecDepth 100000 in
set_option maxHeartbeats 4000000 in
theorem fall_other_false (base bp : Nat) (va vb : Value) (ua ub : Bool) (la lb : List Cmd) (tm st : Int) (w : World) (h : PairAt w base bp va vb ⟨⟨ua, la⟩, ⟨ub, lb⟩, false, tm, st⟩) (hN : la.length ≤ 100000) (ht0 : 0 ≤ tm) (ht1 : tm ≤ 1000000) :
    Calls Try.prog 33 #[.pointer (some ⟨bp, 0, none⟩), .int .i64 1] w
      fun e w' => e = .returned (errV (fallK ⟨⟨ua, la⟩, ⟨ub, lb⟩, false, tm, st⟩ (!false))) ∧ PairTo w base bp va vb (fallP ⟨⟨ua, la⟩, ⟨ub, lb⟩, false, tm, st⟩ (!false)) w' := by
  have H := Lib.hid h
  have hlt := h.lt
  obtain ⟨k0, k1, k2, k3, k4, k5, k6, kf⟩ := h.cell
  simp only [Pr.a, Pr.b, Pr.ld, if_true, if_false, Bool.false_eq_true] at k0 k1 k2 k3 k4 k5 k6
  obtain ⟨aA, cA, rfl⟩ := ownsRow_len h.ra
  obtain ⟨aB, cB, rfl⟩ := ownsRow_len h.rb
  simp only [Pr.a, Pr.b, if_true, if_false, Bool.false_eq_true] at k1 k3
  clear h
  have hw1 : IntKind.i64.wrap 1 = 1 := IntWalk.i64_in _ (by omega)
  have hw0 : IntKind.i64.wrap 0 = 0 := IntWalk.i64_in _ (by omega)
  cases ub
  · go_enter Try.func33, Try.ntmps33
    go_wp2_with fail
    refine (right_ok bp (!false) _).mono ?_
    rintro e w1 ⟨rfl, rfl⟩
    go_wp2_with fail
    go_ret
    refine ⟨by simp [fallK]; exact errV_12.symm, ?_⟩
    have e1 : fallP ⟨⟨ua, la⟩, ⟨false, lb⟩, false, tm, st⟩ (!false) = ⟨⟨ua, la⟩, ⟨false, lb⟩, false, tm, st⟩ := by simp [fallP]
    rw [e1]
    exact PairTo.same H.out (by repeat (first | (with_reducible exact Below.refl _ _) | (with_reducible refine Below.setCell ?_ ?_ _) | (with_reducible refine Below.alloc ?_ ?_ _) | (with_reducible refine Below.drewN ?_ _) | (with_reducible refine Below.drew ?_) | (with_reducible exact Nat.le_refl _) | (focus (simp only [World.size_alloc, World.size_setCell, World.size_drew, World.size_drewN]; omega)) | omega | exact Nat.le_refl _ | (focus (simp; done)) | (focus (simp; omega))))
  cases ua
  · go_enter Try.func33, Try.ntmps33
    go_wp2_with fail
    refine (right_ok bp (!false) _).mono ?_
    rintro e w1 ⟨rfl, rfl⟩
    go_wp2_with fail
    refine Calls.mono (leader_0 bp _ ?_) ?_
    · go_simp
    rintro e w1 ⟨rfl, rfl⟩
    go_wp2_with fail
    go_ret
    refine ⟨by simp [fallK, errV], ?_⟩
    have e1 : fallP ⟨⟨false, la⟩, ⟨true, lb⟩, false, tm, st⟩ (!false) = ⟨⟨false, la⟩, ⟨false, lb⟩, false, tm, st⟩ := by simp [fallP]
    rw [e1]
    refine PairTo.of_pst H.out (Pst.cast (((Pst.refl (F := fun k => k = bp) H.out.blk).setCell (i := 2) (v := .bool false) rfl).drew) ?_) rfl rfl
    simp [Pr.cells, Pr.a, Pr.b, Pr.ld]
  · go_enter Try.func33, Try.ntmps33
    go_wp2_with fail
    refine (right_ok bp (!false) _).mono ?_
    rintro e w1 ⟨rfl, rfl⟩
    go_wp2_with fail
    refine Calls.mono (leader_0 bp _ ?_) ?_
    · go_simp
    rintro e w1 ⟨rfl, rfl⟩
    go_wp2_with fail
    refine Calls.mono (leader_0 bp _ ?_) ?_
    · go_simp
    rintro e w1 ⟨rfl, rfl⟩
    go_wp2_with fail
    refine Calls.mono (settle_any bp st _ _ ?_ ?_) ?_
    · go_simp
    · go_simp
    rintro e w3 ⟨rfl, rfl⟩
    go_wp2_with fail
    go_ret
    refine ⟨by simp [fallK, errV], ?_⟩
    have e1 : fallP ⟨⟨true, la⟩, ⟨true, lb⟩, false, tm, st⟩ (!false) = ⟨⟨true, la⟩, ⟨false, lb⟩, false, tm, max st la.length⟩ := by simp [fallP]
    rw [e1]
    refine PairTo.of_pst H.out (Pst.cast ((((Pst.refl (F := fun k => k = bp) H.out.blk).setCell (i := 2) (v := .bool false) rfl).setCell (i := 6) (v := .int .i64 (max st la.length)) rfl).drew.drew) ?_) rfl rfl
    simp [Pr.cells, Pr.a, Pr.b, Pr.ld]
set_option maxRecDepth 100000 in
set_option maxHeartbeats 4000000 in
theorem fall_lead_true (base bp : Nat) (va vb : Value) (ua ub : Bool) (la lb : List Cmd) (tm st : Int) (w : World) (h : PairAt w base bp va vb ⟨⟨ua, la⟩, ⟨ub, lb⟩, true, tm, st⟩) (hN : la.length ≤ 100000) (hN2 : lb.length ≤ 100000) (ht0 : 0 ≤ tm) (ht1 : tm ≤ 1000000) :
    Calls Try.prog 33 #[.pointer (some ⟨bp, 0, none⟩), .int .i64 1] w
      fun e w' => e = .returned (errV (fallK ⟨⟨ua, la⟩, ⟨ub, lb⟩, true, tm, st⟩ true)) ∧ PairTo w base bp va vb (fallP ⟨⟨ua, la⟩, ⟨ub, lb⟩, true, tm, st⟩ true) w' := by
  have H := Lib.hid h
  have hlt := h.lt
  obtain ⟨k0, k1, k2, k3, k4, k5, k6, kf⟩ := h.cell
  simp only [Pr.a, Pr.b, Pr.ld, if_true, if_false, Bool.false_eq_true] at k0 k1 k2 k3 k4 k5 k6
  obtain ⟨aA, cA, rfl⟩ := ownsRow_len h.ra
  obtain ⟨aB, cB, rfl⟩ := ownsRow_len h.rb
  simp only [Pr.a, Pr.b, if_true, if_false, Bool.false_eq_true] at k1 k3
  clear h
  have hw1 : IntKind.i64.wrap 1 = 1 := IntWalk.i64_in _ (by omega)
  have hw0 : IntKind.i64.wrap 0 = 0 := IntWalk.i64_in _ (by omega)
  cases ua
  · go_enter Try.func33, Try.ntmps33
    go_wp2_with fail
    refine (right_ok bp true _).mono ?_
    rintro e w1 ⟨rfl, rfl⟩
    go_wp2_with fail
    go_ret
    refine ⟨by simp [fallK]; exact errV_12.symm, ?_⟩
    simp only [fallP, if_true, if_false, Bool.false_eq_true]
    exact PairTo.same H.out (by repeat (first | (with_reducible exact Below.refl _ _) | (with_reducible refine Below.setCell ?_ ?_ _) | (with_reducible refine Below.alloc ?_ ?_ _) | (with_reducible refine Below.drewN ?_ _) | (with_reducible refine Below.drew ?_) | (with_reducible exact Nat.le_refl _) | (focus (simp only [World.size_alloc, World.size_setCell, World.size_drew, World.size_drewN]; omega)) | omega | exact Nat.le_refl _ | (focus (simp; done)) | (focus (simp; omega))))
  cases ub
  · go_enter Try.func33, Try.ntmps33
    go_wp2_with fail
    refine (right_ok bp true _).mono ?_
    rintro e w1 ⟨rfl, rfl⟩
    go_wp2_with fail
    refine Calls.mono (follower_1 bp _ ?_) ?_
    · go_simp
    rintro e w1 ⟨rfl, rfl⟩
    go_wp2_with fail
    refine Calls.mono (leader_1 bp _ ?_) ?_
    · go_simp
    rintro e w1 ⟨rfl, rfl⟩
    go_wp2_with fail
    go_ret
    refine ⟨by simp [fallK, errV], ?_⟩
    simp only [fallP, if_true, if_false, Bool.false_eq_true]
    refine PairTo.of_pst H.out (Pst.cast ((((Pst.refl (F := fun k => k = bp) H.out.blk).setCell (i := 2) (v := .bool false) rfl).drew).drew) ?_) rfl rfl
    simp [Pr.cells, Pr.a, Pr.b, Pr.ld]
  · go_enter Try.func33, Try.ntmps33
    go_wp2_with fail
    refine (right_ok bp true _).mono ?_
    rintro e w1 ⟨rfl, rfl⟩
    go_wp2_with fail
    refine Calls.mono (follower_1 bp _ ?_) ?_
    · go_simp
    rintro e w1 ⟨rfl, rfl⟩
    go_wp2_with fail
    refine Calls.mono (leader_0 bp _ ?_) ?_
    · go_simp
    rintro e w1 ⟨rfl, rfl⟩
    go_wp2_with fail
    refine Calls.mono (leader_0 bp _ ?_) ?_
    · go_simp
    rintro e w1 ⟨rfl, rfl⟩
    go_wp2_with fail
    refine Calls.mono (settle_any bp st _ _ ?_ ?_) ?_
    · go_simp
    · go_simp
    rintro e w3 ⟨rfl, rfl⟩
    go_wp2_with fail
    go_ret
    refine ⟨by simp [fallK, errV], ?_⟩
    simp only [fallP, if_true, if_false, Bool.false_eq_true]
    refine PairTo.of_pst H.out (Pst.cast (((((((Pst.refl (F := fun k => k = bp) H.out.blk).setCell (i := 2) (v := .bool false) rfl).setCell (i := 4) (v := .int .i64 0) rfl).setCell (i := 5) (v := .int .i64 (tm + 1)) rfl).setCell (i := 6) (v := .int .i64 (max st lb.length)) rfl).drew).drew.drew) ?_) rfl rfl
    simp [Pr.cells, Pr.a, Pr.b, Pr.ld]
set_option maxRecDepth 100000 in
set_option maxHeartbeats 4000000 in
theorem fall_other_true (base bp : Nat) (va vb : Value) (ua ub : Bool) (la lb : List Cmd) (tm st : Int) (w : World) (h : PairAt w base bp va vb ⟨⟨ua, la⟩, ⟨ub, lb⟩, true, tm, st⟩) (hN : la.length ≤ 100000) (ht0 : 0 ≤ tm) (ht1 : tm ≤ 1000000) :
    Calls Try.prog 33 #[.pointer (some ⟨bp, 0, none⟩), .int .i64 0] w
      fun e w' => e = .returned (errV (fallK ⟨⟨ua, la⟩, ⟨ub, lb⟩, true, tm, st⟩ (!true))) ∧ PairTo w base bp va vb (fallP ⟨⟨ua, la⟩, ⟨ub, lb⟩, true, tm, st⟩ (!true)) w' := by
  have H := Lib.hid h
  have hlt := h.lt
  obtain ⟨k0, k1, k2, k3, k4, k5, k6, kf⟩ := h.cell
  simp only [Pr.a, Pr.b, Pr.ld, if_true, if_false, Bool.false_eq_true] at k0 k1 k2 k3 k4 k5 k6
  obtain ⟨aA, cA, rfl⟩ := ownsRow_len h.ra
  obtain ⟨aB, cB, rfl⟩ := ownsRow_len h.rb
  simp only [Pr.a, Pr.b, if_true, if_false, Bool.false_eq_true] at k1 k3
  clear h
  have hw1 : IntKind.i64.wrap 1 = 1 := IntWalk.i64_in _ (by omega)
  have hw0 : IntKind.i64.wrap 0 = 0 := IntWalk.i64_in _ (by omega)
  cases ub
  · go_enter Try.func33, Try.ntmps33
    go_wp2_with fail
    refine (right_ok bp (!true) _).mono ?_
    rintro e w1 ⟨rfl, rfl⟩
    go_wp2_with fail
    go_ret
    refine ⟨by simp [fallK]; exact errV_12.symm, ?_⟩
    have e1 : fallP ⟨⟨ua, la⟩, ⟨false, lb⟩, true, tm, st⟩ (!true) = ⟨⟨ua, la⟩, ⟨false, lb⟩, true, tm, st⟩ := by simp [fallP]
    rw [e1]
    exact PairTo.same H.out (by repeat (first | (with_reducible exact Below.refl _ _) | (with_reducible refine Below.setCell ?_ ?_ _) | (with_reducible refine Below.alloc ?_ ?_ _) | (with_reducible refine Below.drewN ?_ _) | (with_reducible refine Below.drew ?_) | (with_reducible exact Nat.le_refl _) | (focus (simp only [World.size_alloc, World.size_setCell, World.size_drew, World.size_drewN]; omega)) | omega | exact Nat.le_refl _ | (focus (simp; done)) | (focus (simp; omega))))
  cases ua
  · go_enter Try.func33, Try.ntmps33
    go_wp2_with fail
    refine (right_ok bp (!true) _).mono ?_
    rintro e w1 ⟨rfl, rfl⟩
    go_wp2_with fail
    refine Calls.mono (leader_1 bp _ ?_) ?_
    · go_simp
    rintro e w1 ⟨rfl, rfl⟩
    go_wp2_with fail
    go_ret
    refine ⟨by simp [fallK, errV], ?_⟩
    have e1 : fallP ⟨⟨false, la⟩, ⟨true, lb⟩, true, tm, st⟩ (!true) = ⟨⟨false, la⟩, ⟨false, lb⟩, true, tm, st⟩ := by simp [fallP]
    rw [e1]
    refine PairTo.of_pst H.out (Pst.cast (((Pst.refl (F := fun k => k = bp) H.out.blk).setCell (i := 0) (v := .bool false) rfl).drew) ?_) rfl rfl
    simp [Pr.cells, Pr.a, Pr.b, Pr.ld]
  · go_enter Try.func33, Try.ntmps33
    go_wp2_with fail
    refine (right_ok bp (!true) _).mono ?_
    rintro e w1 ⟨rfl, rfl⟩
    go_wp2_with fail
    refine Calls.mono (leader_1 bp _ ?_) ?_
    · go_simp
    rintro e w1 ⟨rfl, rfl⟩
    go_wp2_with fail
    refine Calls.mono (leader_1 bp _ ?_) ?_
    · go_simp
    rintro e w1 ⟨rfl, rfl⟩
    go_wp2_with fail
    refine Calls.mono (settle_any bp st _ _ ?_ ?_) ?_
    · go_simp
    · go_simp
    rintro e w3 ⟨rfl, rfl⟩
    go_wp2_with fail
    go_ret
    refine ⟨by simp [fallK, errV], ?_⟩
    have e1 : fallP ⟨⟨true, la⟩, ⟨true, lb⟩, true, tm, st⟩ (!true) = ⟨⟨true, la⟩, ⟨false, lb⟩, true, tm, max st la.length⟩ := by simp [fallP]
    rw [e1]
    refine PairTo.of_pst H.out (Pst.cast ((((Pst.refl (F := fun k => k = bp) H.out.blk).setCell (i := 0) (v := .bool false) rfl).setCell (i := 6) (v := .int .i64 (max st la.length)) rfl).drew.drew) ?_) rfl rfl
    simp [Pr.cells, Pr.a, Pr.b, Pr.ld]
end Go.Proofs.Ytigkcbnlbdiimaa
