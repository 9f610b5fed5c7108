/- Joined texts: Ref20g, Ref20h, Ref20i, Ref20j. -/
import Derived.Test.YtigkcbnlbdiimaaPl6
/- corncribref20.Do: a command shipped. -/
namespace Go.Proofs.Ytigkcbnlbdiimaa
open Go.RowKit
set_option maxRecDepth 100000 in
set_option maxHeartbeats 8000000 in
theorem rship_0 (aA aB : Option Addr) (cA cB : Nat) (la lb : List Cmd)  (tm st t s ck cv ce cp cn c0 c1 c2 : Int) (w : World) (base : Nat) (hr : w.ownsRow base 35 8 (.slice aA la.length cA) la.length (la.flatMap Cmd.row)) (hq : w.ownsRow base 35 8 (.slice aB lb.length cB) lb.length (lb.flatMap Cmd.row)) (x : Cmd) (hx : la[lb.length]? = some x) (hlen : la.length ≤ 1000) (h1 : (t != tm) = false) :
    Calls Try.prog 37 #[.agg #[.slice aA la.length cA, .slice aB lb.length cB, .bool true, .bool true, .int .i64 0, .int .i64 tm, .int .i64 st], .agg #[.int .i64 1, .int .i64 t, .int .i64 s, .int .i64 ck, .int .i64 cv, .int .i64 ce, .int .i64 cp, .int .i64 cn, .int .i64 c0, .int .i64 c1, .int .i64 c2]] w
      fun e w' => ∃ a' c', e = .returned (.tuple #[.agg #[.slice aA la.length cA, .slice a' (lb.length + 1) c', .bool true, .bool true, .int .i64 0, .int .i64 tm, .int .i64 (max st ((lb.length : Int) + 1))], .int .i64 0, .int .i64 0]) ∧ w'.ownsRow w.heap.size 35 8 (.slice a' (lb.length + 1) c') (lb.length + 1) ((lb ++ [x]).flatMap Cmd.row) ∧ Below w.heap.size w w' := by
  have HR := Lib.hid hr
  have HQ := Lib.hid hq
  obtain ⟨g, cg, e1, hg, _, hjl, q0, q1, q2, q3, q4, q5, q6, q7⟩ := row_cmd19 hr lb.length x hx
  obtain ⟨e1a, -, e1c⟩ := slice_inj e1
  subst e1a e1c
  obtain ⟨xk, xv, xe, xp, xn, y0, y1, y2⟩ := x
  simp only at q0 q1 q2 q3 q4 q5 q6 q7
  have HC := Lib.hid (And.intro q0 (And.intro q1 (And.intro q2 (And.intro q3 (And.intro q4 (And.intro q5 (And.intro q6 q7)))))))
  clear hr hq hx e1 q0 q1 q2 q3 q4 q5 q6 q7
  have hj0 : (0 : Int) ≤ (lb.length : Int) := by omega
  have hj1 : (lb.length : Int) < (la.length : Int) := by omega
  have hne : ((lb.length : Int) == (la.length : Int)) = false := by rw [beq_eq_false_iff_ne]; omega
  have hne2 : (lb.length == la.length) = false := by rw [beq_eq_false_iff_ne]; omega
  obtain ⟨i0, hi, hz0, hz1, hz2⟩ := info_parts cmd19_info
  have HI := Lib.hid hi
  have HZ0 := Lib.hid hz0
  have HZ1 := Lib.hid hz1
  have HZ2 := Lib.hid hz2
  clear hi hz0 hz1 hz2
  go_enter Try.func37, Try.ntmps37
  go_wp2_with fail
  refine wp_region_now0 [1, 3] [(0, 0), (1, 2), (2, 0), (3, 2), (4, 0), (5, 0), (6, 0)] (by kernel_rfl) (by kernel_rfl) rfl (by kernel_rfl) ?_
  refine stepE0 rfl rfl (fun K hK => ?_)
  go_simp
  refine hK _ ?_
  clear hK K
  refine stepE2 rfl rfl ?_ (fun w1 hS => ?_) (fun K hK => ?_)
  rotate_left
  focus (obtain rfl : w1 = _ := hS; go_simp; rfl)
  go_simp
  refine hK _ ?_
  clear hK K
  refine stepE0 rfl rfl (fun K hK => ?_)
  go_simp
  refine hK _ ?_
  clear hK K
  refine stepE2 rfl rfl ?_ (fun w1 hS => ?_) (fun K hK => ?_)
  rotate_left
  focus (obtain rfl : w1 = _ := hS; go_simp; rfl)
  go_simp
  refine hK _ ?_
  clear hK K
  refine stepE0 rfl rfl (fun K hK => ?_)
  go_simp
  refine hK _ ?_
  clear hK K
  refine stepE0 rfl rfl (fun K hK => ?_)
  go_simp
  refine hK _ ?_
  clear hK K
  refine stepE0 rfl rfl (fun K hK => ?_)
  go_simp
  refine hK _ ?_
  clear hK K
  try refine stepEnil0 ?_
  go_wp2_with fail
  obtain ⟨SS, HSD⟩ : ∃ SS : World → Prop, Hid (SS = fun w' => w'.cell? ⟨w.heap.size, 0, none⟩ = some (.slice (some ⟨g, 0, none⟩) la.length cA) ∧ w'.cell? ⟨w.heap.size, 1, none⟩ = some (.slice aB lb.length cB) ∧ w'.cell? ⟨w.heap.size, 2, none⟩ = some (.bool true) ∧ w'.cell? ⟨w.heap.size, 3, none⟩ = some (.bool true) ∧ w'.cell? ⟨w.heap.size, 4, none⟩ = some (.int .i64 0) ∧ w'.cell? ⟨w.heap.size, 5, none⟩ = some (.int .i64 tm) ∧ w'.cell? ⟨w.heap.size, 6, none⟩ = some (.int .i64 st)) := ⟨_, Lib.hid rfl⟩
  refine wp_region_order0 SS [0, 3] [(0, 2), (1, 0), (3, 2), (4, 0), (2, 1), (5, 1), (6, 0), (7, 0)] (by kernel_rfl) (by kernel_rfl) rfl (by kernel_rfl) ?_ ?_
  focus (rw [HSD.out]; refine ⟨?_, ?_, ?_, ?_, ?_, ?_, ?_⟩ <;> go_simp)
  refine stepE2 rfl rfl ?_ (fun w1 hS => ?_) (fun K hK => ?_)
  rotate_left
  focus (rw [HSD.out] at hS; obtain ⟨s0, s1, s2, s3, s4, s5, s6⟩ := hS; go_simp; rfl)
  go_simp
  refine hK _ ?_
  clear hK K
  refine stepE0 rfl rfl (fun K hK => ?_)
  go_simp
  refine hK _ ?_
  clear hK K
  refine stepE2 rfl rfl ?_ (fun w1 hS => ?_) (fun K hK => ?_)
  rotate_left
  focus (rw [HSD.out] at hS; obtain ⟨s0, s1, s2, s3, s4, s5, s6⟩ := hS; go_simp; rfl)
  go_simp
  refine hK _ ?_
  clear hK K
  refine stepE0 rfl rfl (fun K hK => ?_)
  go_simp
  refine hK _ ?_
  clear hK K
  refine stepE1S rfl rfl (fun K hK => ?_)
  (go_wp2_with fail; refine Calls.mono (rlog_0 _ _ _ _ _ _ _ _ _ _ _ _) ?_; rintro e w2 ⟨rfl, rfl⟩; go_wp2)
  refine ⟨by rw [HSD.out]; exact (by refine ⟨?_, ?_, ?_, ?_, ?_, ?_, ?_⟩ <;> go_simp), ?_⟩
  refine stepE1 rfl rfl (by kernel_rfl) (fun K hK => ?_)
  (go_wp2_with fail; refine Calls.mono (rlog_1 _ _ _ _ _ _ _ _ _ _ _ _) ?_; rintro e w2 ⟨rfl, rfl⟩; go_wp2)
  refine stepE0 rfl rfl (fun K hK => ?_)
  go_simp
  refine hK _ ?_
  clear hK K
  refine stepE0 rfl rfl (fun K hK => ?_)
  go_simp
  refine hK _ ?_
  clear hK K
  try refine stepEnil0 ?_
  clear HSD SS
  go_wp2_with fail
  obtain ⟨SS, HSD⟩ : ∃ SS : World → Prop, Hid (SS = fun w' => w'.heap[w.heap.size]? = some (.cells #[.slice (some ⟨g, 0, none⟩) la.length cA, .slice aB lb.length cB, .bool true, .bool true, .int .i64 0, .int .i64 tm, .int .i64 st] 67 (0, 0)) ∧ w'.heap[g]? = w.heap[g]?) := ⟨_, Lib.hid rfl⟩
  refine wp_region_plan0 SS [0, 9] (.op 0 2 (.op 1 0 (.op 3 0 (.op 5 0 (.op 6 0 (.op 7 0 (.op 8 0 (.op 9 2 (.two 2 (.two 4 (.op 10 1 (.op 11 1 (.op 12 1 (.op 13 1 .nil)))) 10 (.op 4 1 (.op 11 1 (.op 12 1 (.op 13 1 .nil))))) 10 (.op 2 1 (.op 4 1 (.op 11 1 (.op 12 1 (.op 13 1 .nil)))))))))))))) (by kernel_rfl) (by kernel_rfl) rfl (by kernel_rfl) ?_ ?_
  focus (rw [HSD.out]; exact ⟨(by repeat (first | (with_reducible refine blk_drew ?_) | (with_reducible refine blk_drewN _ ?_) | ((with_reducible refine blk_new _ ?_); (focus (simp; done))) | (with_reducible refine blk_alloc ?_ _))), (show Below w.heap.size w _ from (by repeat (first | (with_reducible exact Below.refl _ _) | (with_reducible refine Below.setCell ?_ ?_ _) | (with_reducible refine Below.alloc ?_ ?_ _) | (with_reducible refine Below.drewN ?_ _) | (with_reducible refine Below.drew ?_) | (with_reducible exact Nat.le_refl _) | (focus (simp only [World.size_alloc, World.size_setCell, World.size_drew, World.size_drewN]; omega)) | omega | exact Nat.le_refl _ | (focus (simp; done)) | (focus (simp; omega))))).block g hg⟩)
  refine stepT2 rfl rfl ?_ (fun w1 hS => ?_) (fun K hK => ?_)
  rotate_left
  focus (rw [HSD.out] at hS; obtain ⟨sp, sg⟩ := hS; obtain ⟨s0, s1, s2, s3, s4, s5, s6, -⟩ := cells7 sp; have sc := (fun (o : Nat) => World.cell?_of_block (a := ⟨g, o, none⟩) sg); obtain ⟨q0, q1, q2, q3, q4, q5, q6, q7⟩ := HC.out; have z0 := (sc _).trans q0; have z1 := (sc _).trans q1; have z2 := (sc _).trans q2; have z3 := (sc _).trans q3; have z4 := (sc _).trans q4; have z5 := (sc _).trans q5; have z6 := (sc _).trans q6; have z7 := (sc _).trans q7; clear sc q0 q1 q2 q3 q4 q5 q6 q7; go_simp; rfl)
  go_simp
  refine hK _ ?_
  clear hK K
  refine stepT0 rfl rfl (fun K hK => ?_)
  go_simp
  refine hK _ ?_
  clear hK K
  refine stepT0 rfl rfl (fun K hK => ?_)
  go_simp
  refine hK _ ?_
  clear hK K
  refine stepT0 rfl rfl (fun K hK => ?_)
  go_simp
  refine hK _ ?_
  clear hK K
  refine stepT0 rfl rfl (fun K hK => ?_)
  go_simp
  refine hK _ ?_
  clear hK K
  refine stepT0 rfl rfl (fun K hK => ?_)
  go_simp
  refine hK _ ?_
  clear hK K
  refine stepT0 rfl rfl (fun K hK => ?_)
  go_simp
  refine hK _ ?_
  clear hK K
  refine stepT2 rfl rfl ?_ (fun w1 hS => ?_) (fun K hK => ?_)
  rotate_left
  focus (rw [HSD.out] at hS; obtain ⟨sp, sg⟩ := hS; obtain ⟨s0, s1, s2, s3, s4, s5, s6, -⟩ := cells7 sp; have sc := (fun (o : Nat) => World.cell?_of_block (a := ⟨g, o, none⟩) sg); obtain ⟨q0, q1, q2, q3, q4, q5, q6, q7⟩ := HC.out; have z0 := (sc _).trans q0; have z1 := (sc _).trans q1; have z2 := (sc _).trans q2; have z3 := (sc _).trans q3; have z4 := (sc _).trans q4; have z5 := (sc _).trans q5; have z6 := (sc _).trans q6; have z7 := (sc _).trans q7; clear sc q0 q1 q2 q3 q4 q5 q6 q7; go_simp; rfl)
  go_simp
  refine hK _ ?_
  clear hK K
  refine stepTtwo ?_ ?_ (by kernel_rfl) (by kernel_rfl)
  ·
    refine stepT1S rfl rfl (fun K hK => ?_)
    go_wp2
    refine ⟨by rw [HSD.out]; exact (⟨(by repeat (first | (with_reducible refine blk_drew ?_) | (with_reducible refine blk_drewN _ ?_) | ((with_reducible refine blk_new _ ?_); (focus (simp; done))) | (with_reducible refine blk_alloc ?_ _))), (show Below w.heap.size w _ from (by repeat (first | (with_reducible exact Below.refl _ _) | (with_reducible refine Below.setCell ?_ ?_ _) | (with_reducible refine Below.alloc ?_ ?_ _) | (with_reducible refine Below.drewN ?_ _) | (with_reducible refine Below.drew ?_) | (with_reducible exact Nat.le_refl _) | (focus (simp only [World.size_alloc, World.size_setCell, World.size_drew, World.size_drewN]; omega)) | omega | exact Nat.le_refl _ | (focus (simp; done)) | (focus (simp; omega))))).block g hg⟩), ?_⟩
    refine stepTtwo ?_ ?_ (by kernel_rfl) (by kernel_rfl)
    ·
      refine stepT1S rfl rfl (fun K hK => ?_)
      (refine wp_append_reads _ _ _ 22 rfl (w.heap.size + 3) 35 i0 (.agg #[.int .i64 0, .int .i64 0, .int .i64 0, .int .i64 0, .int .i64 0, .int .i64 0, .int .i64 0, .int .i64 0]) 8 64 Try.underlying22 HI.out HZ0.out HZ1.out HZ2.out rfl (by decide) (.slice (some ⟨w.heap.size + 5, 0, none⟩) 0 0) 0 [] rfl (own_of_blk (by repeat (first | (with_reducible refine blk_drew ?_) | (with_reducible refine blk_drewN _ ?_) | ((with_reducible refine blk_new _ ?_); (focus (simp; done))) | (with_reducible refine blk_alloc ?_ _))) (by omega)) (.slice aB lb.length cB) lb.length (lb.flatMap Cmd.row) rfl (reads_of_owns (ownsRow_below HQ.out (by repeat (first | (with_reducible exact Below.refl _ _) | (with_reducible refine Below.setCell ?_ ?_ _) | (with_reducible refine Below.alloc ?_ ?_ _) | (with_reducible refine Below.drewN ?_ _) | (with_reducible refine Below.drew ?_) | (with_reducible exact Nat.le_refl _) | (focus (simp only [World.size_alloc, World.size_setCell, World.size_drew, World.size_drewN]; omega)) | omega | exact Nat.le_refl _ | (focus (simp; done)) | (focus (simp; omega)))))) (Cmd.one lb) (by unfold maxLen; omega) (by omega) (by first | omega | (simp; done) | (simp; omega)) ?_; intro v1 w1 hown1 hgrow1 hat1; have hpb1 : w1.heap[w.heap.size]? = some (.cells #[.slice (some ⟨g, 0, none⟩) la.length cA, .slice aB lb.length cB, .bool true, .bool true, .int .i64 0, .int .i64 tm, .int .i64 st] 67 (0, 0)) := (hgrow1.block _ (by first | omega | (simp; done) | (simp; omega)) (by simp [Value.ownBlock])).trans (by repeat (first | (with_reducible refine blk_drew ?_) | (with_reducible refine blk_drewN _ ?_) | ((with_reducible refine blk_new _ ?_); (focus (simp; done))) | (with_reducible refine blk_alloc ?_ _))); have hrb1 : w1.heap[w.heap.size + 2]? = some (.cells #[.slice none 0 0, .slice none 0 0, .bool false, .bool false, .int .i64 0, .int .i64 0, .int .i64 0] 67 (0, 0)) := (hgrow1.block _ (by first | omega | (simp; done) | (simp; omega)) (by simp [Value.ownBlock])).trans (by repeat (first | (with_reducible refine blk_drew ?_) | (with_reducible refine blk_drewN _ ?_) | ((with_reducible refine blk_new _ ?_); (focus (simp; done))) | (with_reducible refine blk_alloc ?_ _))); have hz1 := hgrow1.size; simp only [World.size_alloc, World.size_drew] at hz1; have HB1 := Lib.hid (show Below w.heap.size w w1 from Below.grown (by repeat (first | (with_reducible exact Below.refl _ _) | (with_reducible refine Below.setCell ?_ ?_ _) | (with_reducible refine Below.alloc ?_ ?_ _) | (with_reducible refine Below.drewN ?_ _) | (with_reducible refine Below.drew ?_) | (with_reducible exact Nat.le_refl _) | (focus (simp only [World.size_alloc, World.size_setCell, World.size_drew, World.size_drewN]; omega)) | omega | exact Nat.le_refl _ | (focus (simp; done)) | (focus (simp; omega)))) hgrow1 (by first | omega | (simp; done) | (simp; omega)) (by simp [Value.ownBlock])); have HG1 := Lib.hid (HB1.out.block g hg); have HO1 := Lib.hid hown1; clear hown1 hgrow1 hat1; go_wp2)
      refine ⟨by rw [HSD.out]; exact (⟨hpb1, HG1.out⟩), ?_⟩
      refine stepT1S rfl rfl (fun K hK => ?_)
      go_wp2
      refine ⟨by rw [HSD.out]; exact (⟨blk_alloc hpb1 _, ((HB1.out.alloc (by first | omega | (simp; done) | (simp; omega)) _).block g hg)⟩), ?_⟩
      refine stepT1S rfl rfl (fun K hK => ?_)
      (refine wp_append_lies _ _ _ 22 rfl (w.heap.size + 3) 35 i0 (.agg #[.int .i64 0, .int .i64 0, .int .i64 0, .int .i64 0, .int .i64 0, .int .i64 0, .int .i64 0, .int .i64 0]) 8 64 Try.underlying22 HI.out HZ0.out HZ1.out HZ2.out rfl (by decide) v1 (0 + lb.length) ([] ++ lb.flatMap Cmd.row) rfl (HO1.out.alloc _) ⟨w1.heap.size, 0, none⟩ 1 1 [.int .i64 xk, .int .i64 xv, .int .i64 xe, .int .i64 xp, .int .i64 xn, .int .i64 y0, .int .i64 y1, .int .i64 y2] rfl rfl (World.news_of_block (cs := #[.int .i64 xk, .int .i64 xv, .int .i64 xe, .int .i64 xp, .int .i64 xn, .int .i64 y0, .int .i64 y1, .int .i64 y2]) (t := 35) (fr := (0, 0)) (by repeat (first | (with_reducible refine blk_drew ?_) | (with_reducible refine blk_drewN _ ?_) | ((with_reducible refine blk_new _ ?_); (focus (simp; done))) | (with_reducible refine blk_alloc ?_ _)))) (by simp [Value.oneCell']) (by omega) (by unfold maxLen; omega) (by omega) (by first | omega | (simp; done) | (simp; omega)) _ rfl ?_; intro gg cap2 w2 hown2 hgrow2 hat2 hlt2; have hne : ∀ j, j ≤ 2 → some (w.heap.size + j) ≠ v1.ownBlock := (fun j hj e => by have := (HO1.out.lt _ e.symm).1; omega); have hpb2 : w2.heap[w.heap.size]? = some (.cells #[.slice (some ⟨g, 0, none⟩) la.length cA, .slice aB lb.length cB, .bool true, .bool true, .int .i64 0, .int .i64 tm, .int .i64 st] 67 (0, 0)) := (hgrow2.block _ (by first | omega | (simp; done) | (simp; omega)) (hne 0 (by omega))).trans (blk_alloc hpb1 _); have hrb2 : w2.heap[w.heap.size + 2]? = some (.cells #[.slice none 0 0, .slice none 0 0, .bool false, .bool false, .int .i64 0, .int .i64 0, .int .i64 0] 67 (0, 0)) := (hgrow2.block _ (by first | omega | (simp; done) | (simp; omega)) (hne 2 (by omega))).trans (blk_alloc hrb1 _); have hz2 := hgrow2.size; (try simp only [World.size_alloc] at hz2); have HB2 := Lib.hid (show Below w.heap.size w w2 from Below.grown (HB1.out.alloc (by first | omega | (simp; done) | (simp; omega)) _) hgrow2 (by first | omega | (simp; done) | (simp; omega)) (fun k e => by have := (HO1.out.lt _ e).1; omega)); have HG2 := Lib.hid (HB2.out.block g hg); have HO2 := Lib.hid (show w2.ownsRow (w.heap.size + 3) 35 8 (.slice (some ⟨gg, 0, none⟩) (lb.length + 1) cap2) (lb.length + 1) ((lb ++ [Cmd.mk xk xv xe xp xn y0 y1 y2]).flatMap Cmd.row) by simpa [Cmd.row] using hown2); clear hown2 hgrow2 hat2 hne; go_wp2)
      refine ⟨by rw [HSD.out]; exact (⟨hpb2, HG2.out⟩), ?_⟩
      refine stepT1 rfl rfl (by kernel_rfl) (fun K hK => ?_)
      (go_wp2_with fail; refine Calls.mono (rwith_1 _ _ _ _ _ _ _ _ _ _ _ (some ⟨gg, 0, none⟩) (lb.length + 1) cap2 (lb ++ [Cmd.mk xk xv xe xp xn y0 y1 y2]) _ (reads_of_owns HO2.out) (by omega)) ?_; rintro e w3 ⟨a3, c3, rfl, ho3, hb3⟩; have hz3 := hb3.size; have hpb3 : w3.heap[w.heap.size]? = some (.cells #[.slice (some ⟨g, 0, none⟩) la.length cA, .slice aB lb.length cB, .bool true, .bool true, .int .i64 0, .int .i64 tm, .int .i64 st] 67 (0, 0)) := (hb3.block _ (by omega)).trans hpb2; have hrb3 : w3.heap[w.heap.size + 2]? = some (.cells #[.slice none 0 0, .slice none 0 0, .bool false, .bool false, .int .i64 0, .int .i64 0, .int .i64 0] 67 (0, 0)) := (hb3.block _ (by omega)).trans hrb2; obtain ⟨p30, p31, p32, p33, p34, p35, p36, pf3⟩ := cells7 hpb3; obtain ⟨r30, r31, r32, r33, r34, r35, r36, rf3⟩ := cells7 hrb3; have HPB3 := Lib.hid hpb3; have HRB3 := Lib.hid hrb3; clear hpb3 hrb3;  have HO3 := Lib.hid ho3; have HB3 := Lib.hid (HB2.out.trans (hb3.mono (by omega))); clear ho3 hb3 hpb2 hrb2; go_wp2)
      refine stepT1 rfl rfl (by kernel_rfl) (fun K hK => ?_)
      go_wp2
      try refine stepTnil0 ?_
      clear HSD SS
      go_wp2_with fail
      refine (rsettle_any _ _ _ _ _ _ _ _ _ _ _ _ _).mono ?_
      rintro e w4 ⟨rfl, hb4⟩
      have hz4 := hb4.size
      simp only [World.size_setCell] at hz4
      have hpb4 : w4.heap[w.heap.size]? = some (.cells #[.slice (some ⟨g, 0, none⟩) la.length cA, .slice a3 (lb.length + 1) c3, .bool true, .bool true, .int .i64 0, .int .i64 tm, .int .i64 st] 67 (0, 0)) := (hb4.block _ (by first | omega | (simp; done) | (simp; omega))).trans (store7 HPB3.out _ _ _ _ _ _ _); have hrb4 : w4.heap[w.heap.size + 2]? = some (.cells #[.slice none 0 0, .slice none 0 0, .bool false, .bool false, .int .i64 0, .int .i64 0, .int .i64 0] 67 (0, 0)) := (hb4.block _ (by first | omega | (simp; done) | (simp; omega))).trans (by (repeat ((with_reducible refine blk_set ?_ _ _ ?_); rotate_left; (focus (simp; done)))); exact HRB3.out); obtain ⟨p40, p41, p42, p43, p44, p45, p46, pf4⟩ := cells7 hpb4; obtain ⟨r40, r41, r42, r43, r44, r45, r46, rf4⟩ := cells7 hrb4; have HPB4 := Lib.hid hpb4; have HRB4 := Lib.hid hrb4; clear hpb4 hrb4; 
      have HO4 : Hid (w4.ownsRow w2.heap.size 35 8 (.slice a3 (lb.length + 1) c3) (lb.length + 1) ((lb ++ [Cmd.mk xk xv xe xp xn y0 y1 y2]).flatMap Cmd.row)) := Lib.hid (ownsRow_below (by (repeat ((with_reducible refine ownsRow_setCell_below ?_ ?_ _); rotate_left; (focus (first | (simp; done) | (simp; omega))))); exact HO3.out) hb4)
      have HB4 := Lib.hid (show Below w.heap.size w w4 from Below.trans (by (repeat ((with_reducible refine Below.setCell ?_ ?_ _); rotate_left; (focus (first | (simp; done) | (simp; omega))))); exact HB3.out) (hb4.mono (by first | omega | (simp; done) | (simp; omega))))
      clear hb4
      go_wp2_with fail
      refine bodyPost_ret (v := .tuple #[.agg #[.slice (some ⟨g, 0, none⟩) la.length cA, .slice a3 (lb.length + 1) c3, .bool true, .bool true, .int .i64 0, .int .i64 tm, .int .i64 (max st ((lb.length : Int) + 1))], .int .i64 0, .int .i64 0]) ?_ rfl ?_
      · simp [results, Try.results37, go_sem, r40, r41, r42, r43, r44, r45, r46]
      · exact ⟨_, _, rfl, ownsRow_mono (base := w2.heap.size) (by (repeat ((with_reducible refine ownsRow_setCell_below ?_ ?_ _); rotate_left; (focus (first | (simp; done) | (simp; omega))))); exact HO4.out) (by omega), (by (repeat ((with_reducible refine Below.setCell ?_ ?_ _); rotate_left; (focus (first | (simp; done) | (simp; omega))))); exact HB4.out)⟩
    ·
      refine stepT1S rfl rfl (fun K hK => ?_)
      go_wp2
      refine ⟨by rw [HSD.out]; exact (⟨(by repeat (first | (with_reducible refine blk_drew ?_) | (with_reducible refine blk_drewN _ ?_) | ((with_reducible refine blk_new _ ?_); (focus (simp; done))) | (with_reducible refine blk_alloc ?_ _))), (show Below w.heap.size w _ from (by repeat (first | (with_reducible exact Below.refl _ _) | (with_reducible refine Below.setCell ?_ ?_ _) | (with_reducible refine Below.alloc ?_ ?_ _) | (with_reducible refine Below.drewN ?_ _) | (with_reducible refine Below.drew ?_) | (with_reducible exact Nat.le_refl _) | (focus (simp only [World.size_alloc, World.size_setCell, World.size_drew, World.size_drewN]; omega)) | omega | exact Nat.le_refl _ | (focus (simp; done)) | (focus (simp; omega))))).block g hg⟩), ?_⟩
      refine stepT1S rfl rfl (fun K hK => ?_)
      (refine wp_append_reads _ _ _ 22 rfl (w.heap.size + 3) 35 i0 (.agg #[.int .i64 0, .int .i64 0, .int .i64 0, .int .i64 0, .int .i64 0, .int .i64 0, .int .i64 0, .int .i64 0]) 8 64 Try.underlying22 HI.out HZ0.out HZ1.out HZ2.out rfl (by decide) (.slice (some ⟨w.heap.size + 5, 0, none⟩) 0 0) 0 [] rfl (own_of_blk (by repeat (first | (with_reducible refine blk_drew ?_) | (with_reducible refine blk_drewN _ ?_) | ((with_reducible refine blk_new _ ?_); (focus (simp; done))) | (with_reducible refine blk_alloc ?_ _))) (by omega)) (.slice aB lb.length cB) lb.length (lb.flatMap Cmd.row) rfl (reads_of_owns (ownsRow_below HQ.out (by repeat (first | (with_reducible exact Below.refl _ _) | (with_reducible refine Below.setCell ?_ ?_ _) | (with_reducible refine Below.alloc ?_ ?_ _) | (with_reducible refine Below.drewN ?_ _) | (with_reducible refine Below.drew ?_) | (with_reducible exact Nat.le_refl _) | (focus (simp only [World.size_alloc, World.size_setCell, World.size_drew, World.size_drewN]; omega)) | omega | exact Nat.le_refl _ | (focus (simp; done)) | (focus (simp; omega)))))) (Cmd.one lb) (by unfold maxLen; omega) (by omega) (by first | omega | (simp; done) | (simp; omega)) ?_; intro v1 w1 hown1 hgrow1 hat1; have hpb1 : w1.heap[w.heap.size]? = some (.cells #[.slice (some ⟨g, 0, none⟩) la.length cA, .slice aB lb.length cB, .bool true, .bool true, .int .i64 0, .int .i64 tm, .int .i64 st] 67 (0, 0)) := (hgrow1.block _ (by first | omega | (simp; done) | (simp; omega)) (by simp [Value.ownBlock])).trans (by repeat (first | (with_reducible refine blk_drew ?_) | (with_reducible refine blk_drewN _ ?_) | ((with_reducible refine blk_new _ ?_); (focus (simp; done))) | (with_reducible refine blk_alloc ?_ _))); have hrb1 : w1.heap[w.heap.size + 2]? = some (.cells #[.slice none 0 0, .slice none 0 0, .bool false, .bool false, .int .i64 0, .int .i64 0, .int .i64 0] 67 (0, 0)) := (hgrow1.block _ (by first | omega | (simp; done) | (simp; omega)) (by simp [Value.ownBlock])).trans (by repeat (first | (with_reducible refine blk_drew ?_) | (with_reducible refine blk_drewN _ ?_) | ((with_reducible refine blk_new _ ?_); (focus (simp; done))) | (with_reducible refine blk_alloc ?_ _))); have hnb1 : w1.heap[w.heap.size + 6]? = some (.cells #[.int .i64 xk, .int .i64 xv, .int .i64 xe, .int .i64 xp, .int .i64 xn, .int .i64 y0, .int .i64 y1, .int .i64 y2] 35 (0, 0)) := (hgrow1.block _ (by first | omega | (simp; done) | (simp; omega)) (by simp [Value.ownBlock])).trans (by repeat (first | (with_reducible refine blk_drew ?_) | (with_reducible refine blk_drewN _ ?_) | ((with_reducible refine blk_new _ ?_); (focus (simp; done))) | (with_reducible refine blk_alloc ?_ _))); have hz1 := hgrow1.size; simp only [World.size_alloc, World.size_drew] at hz1; have HB1 := Lib.hid (show Below w.heap.size w w1 from Below.grown (by repeat (first | (with_reducible exact Below.refl _ _) | (with_reducible refine Below.setCell ?_ ?_ _) | (with_reducible refine Below.alloc ?_ ?_ _) | (with_reducible refine Below.drewN ?_ _) | (with_reducible refine Below.drew ?_) | (with_reducible exact Nat.le_refl _) | (focus (simp only [World.size_alloc, World.size_setCell, World.size_drew, World.size_drewN]; omega)) | omega | exact Nat.le_refl _ | (focus (simp; done)) | (focus (simp; omega)))) hgrow1 (by first | omega | (simp; done) | (simp; omega)) (by simp [Value.ownBlock])); have HG1 := Lib.hid (HB1.out.block g hg); have HO1 := Lib.hid hown1; clear hown1 hgrow1 hat1; go_wp2)
      refine ⟨by rw [HSD.out]; exact (⟨hpb1, HG1.out⟩), ?_⟩
      refine stepT1S rfl rfl (fun K hK => ?_)
      (refine wp_append_lies _ _ _ 22 rfl (w.heap.size + 3) 35 i0 (.agg #[.int .i64 0, .int .i64 0, .int .i64 0, .int .i64 0, .int .i64 0, .int .i64 0, .int .i64 0, .int .i64 0]) 8 64 Try.underlying22 HI.out HZ0.out HZ1.out HZ2.out rfl (by decide) v1 (0 + lb.length) ([] ++ lb.flatMap Cmd.row) rfl (HO1.out) ⟨w.heap.size + 6, 0, none⟩ 1 1 [.int .i64 xk, .int .i64 xv, .int .i64 xe, .int .i64 xp, .int .i64 xn, .int .i64 y0, .int .i64 y1, .int .i64 y2] rfl rfl (World.news_of_block (cs := #[.int .i64 xk, .int .i64 xv, .int .i64 xe, .int .i64 xp, .int .i64 xn, .int .i64 y0, .int .i64 y1, .int .i64 y2]) (t := 35) (fr := (0, 0)) hnb1) (by simp [Value.oneCell']) (by omega) (by unfold maxLen; omega) (by omega) (by first | omega | (simp; done) | (simp; omega)) _ rfl ?_; intro gg cap2 w2 hown2 hgrow2 hat2 hlt2; have hne : ∀ j, j ≤ 2 → some (w.heap.size + j) ≠ v1.ownBlock := (fun j hj e => by have := (HO1.out.lt _ e.symm).1; omega); have hpb2 : w2.heap[w.heap.size]? = some (.cells #[.slice (some ⟨g, 0, none⟩) la.length cA, .slice aB lb.length cB, .bool true, .bool true, .int .i64 0, .int .i64 tm, .int .i64 st] 67 (0, 0)) := (hgrow2.block _ (by first | omega | (simp; done) | (simp; omega)) (hne 0 (by omega))).trans (hpb1); have hrb2 : w2.heap[w.heap.size + 2]? = some (.cells #[.slice none 0 0, .slice none 0 0, .bool false, .bool false, .int .i64 0, .int .i64 0, .int .i64 0] 67 (0, 0)) := (hgrow2.block _ (by first | omega | (simp; done) | (simp; omega)) (hne 2 (by omega))).trans (hrb1); have hz2 := hgrow2.size; (try simp only [World.size_alloc] at hz2); have HB2 := Lib.hid (show Below w.heap.size w w2 from Below.grown (HB1.out) hgrow2 (by first | omega | (simp; done) | (simp; omega)) (fun k e => by have := (HO1.out.lt _ e).1; omega)); have HG2 := Lib.hid (HB2.out.block g hg); have HO2 := Lib.hid (show w2.ownsRow (w.heap.size + 3) 35 8 (.slice (some ⟨gg, 0, none⟩) (lb.length + 1) cap2) (lb.length + 1) ((lb ++ [Cmd.mk xk xv xe xp xn y0 y1 y2]).flatMap Cmd.row) by simpa [Cmd.row] using hown2); clear hown2 hgrow2 hat2 hne; go_wp2)
      refine ⟨by rw [HSD.out]; exact (⟨hpb2, HG2.out⟩), ?_⟩
      refine stepT1 rfl rfl (by kernel_rfl) (fun K hK => ?_)
      (go_wp2_with fail; refine Calls.mono (rwith_1 _ _ _ _ _ _ _ _ _ _ _ (some ⟨gg, 0, none⟩) (lb.length + 1) cap2 (lb ++ [Cmd.mk xk xv xe xp xn y0 y1 y2]) _ (reads_of_owns HO2.out) (by omega)) ?_; rintro e w3 ⟨a3, c3, rfl, ho3, hb3⟩; have hz3 := hb3.size; have hpb3 : w3.heap[w.heap.size]? = some (.cells #[.slice (some ⟨g, 0, none⟩) la.length cA, .slice aB lb.length cB, .bool true, .bool true, .int .i64 0, .int .i64 tm, .int .i64 st] 67 (0, 0)) := (hb3.block _ (by omega)).trans hpb2; have hrb3 : w3.heap[w.heap.size + 2]? = some (.cells #[.slice none 0 0, .slice none 0 0, .bool false, .bool false, .int .i64 0, .int .i64 0, .int .i64 0] 67 (0, 0)) := (hb3.block _ (by omega)).trans hrb2; obtain ⟨p30, p31, p32, p33, p34, p35, p36, pf3⟩ := cells7 hpb3; obtain ⟨r30, r31, r32, r33, r34, r35, r36, rf3⟩ := cells7 hrb3; have HPB3 := Lib.hid hpb3; have HRB3 := Lib.hid hrb3; clear hpb3 hrb3;  have HO3 := Lib.hid ho3; have HB3 := Lib.hid (HB2.out.trans (hb3.mono (by omega))); clear ho3 hb3 hpb2 hrb2; go_wp2)
      refine stepT1 rfl rfl (by kernel_rfl) (fun K hK => ?_)
      go_wp2
      try refine stepTnil0 ?_
      clear HSD SS
      go_wp2_with fail
      refine (rsettle_any _ _ _ _ _ _ _ _ _ _ _ _ _).mono ?_
      rintro e w4 ⟨rfl, hb4⟩
      have hz4 := hb4.size
      simp only [World.size_setCell] at hz4
      have hpb4 : w4.heap[w.heap.size]? = some (.cells #[.slice (some ⟨g, 0, none⟩) la.length cA, .slice a3 (lb.length + 1) c3, .bool true, .bool true, .int .i64 0, .int .i64 tm, .int .i64 st] 67 (0, 0)) := (hb4.block _ (by first | omega | (simp; done) | (simp; omega))).trans (store7 HPB3.out _ _ _ _ _ _ _); have hrb4 : w4.heap[w.heap.size + 2]? = some (.cells #[.slice none 0 0, .slice none 0 0, .bool false, .bool false, .int .i64 0, .int .i64 0, .int .i64 0] 67 (0, 0)) := (hb4.block _ (by first | omega | (simp; done) | (simp; omega))).trans (by (repeat ((with_reducible refine blk_set ?_ _ _ ?_); rotate_left; (focus (simp; done)))); exact HRB3.out); obtain ⟨p40, p41, p42, p43, p44, p45, p46, pf4⟩ := cells7 hpb4; obtain ⟨r40, r41, r42, r43, r44, r45, r46, rf4⟩ := cells7 hrb4; have HPB4 := Lib.hid hpb4; have HRB4 := Lib.hid hrb4; clear hpb4 hrb4; 
      have HO4 : Hid (w4.ownsRow w2.heap.size 35 8 (.slice a3 (lb.length + 1) c3) (lb.length + 1) ((lb ++ [Cmd.mk xk xv xe xp xn y0 y1 y2]).flatMap Cmd.row)) := Lib.hid (ownsRow_below (by (repeat ((with_reducible refine ownsRow_setCell_below ?_ ?_ _); rotate_left; (focus (first | (simp; done) | (simp; omega))))); exact HO3.out) hb4)
      have HB4 := Lib.hid (show Below w.heap.size w w4 from Below.trans (by (repeat ((with_reducible refine Below.setCell ?_ ?_ _); rotate_left; (focus (first | (simp; done) | (simp; omega))))); exact HB3.out) (hb4.mono (by first | omega | (simp; done) | (simp; omega))))
      clear hb4
      go_wp2_with fail
      refine bodyPost_ret (v := .tuple #[.agg #[.slice (some ⟨g, 0, none⟩) la.length cA, .slice a3 (lb.length + 1) c3, .bool true, .bool true, .int .i64 0, .int .i64 tm, .int .i64 (max st ((lb.length : Int) + 1))], .int .i64 0, .int .i64 0]) ?_ rfl ?_
      · simp [results, Try.results37, go_sem, r40, r41, r42, r43, r44, r45, r46]
      · exact ⟨_, _, rfl, ownsRow_mono (base := w2.heap.size) (by (repeat ((with_reducible refine ownsRow_setCell_below ?_ ?_ _); rotate_left; (focus (first | (simp; done) | (simp; omega))))); exact HO4.out) (by omega), (by (repeat ((with_reducible refine Below.setCell ?_ ?_ _); rotate_left; (focus (first | (simp; done) | (simp; omega))))); exact HB4.out)⟩
  ·
    refine stepT1S rfl rfl (fun K hK => ?_)
    go_wp2
    refine ⟨by rw [HSD.out]; exact (⟨(by repeat (first | (with_reducible refine blk_drew ?_) | (with_reducible refine blk_drewN _ ?_) | ((with_reducible refine blk_new _ ?_); (focus (simp; done))) | (with_reducible refine blk_alloc ?_ _))), (show Below w.heap.size w _ from (by repeat (first | (with_reducible exact Below.refl _ _) | (with_reducible refine Below.setCell ?_ ?_ _) | (with_reducible refine Below.alloc ?_ ?_ _) | (with_reducible refine Below.drewN ?_ _) | (with_reducible refine Below.drew ?_) | (with_reducible exact Nat.le_refl _) | (focus (simp only [World.size_alloc, World.size_setCell, World.size_drew, World.size_drewN]; omega)) | omega | exact Nat.le_refl _ | (focus (simp; done)) | (focus (simp; omega))))).block g hg⟩), ?_⟩
    refine stepT1S rfl rfl (fun K hK => ?_)
    go_wp2
    refine ⟨by rw [HSD.out]; exact (⟨(by repeat (first | (with_reducible refine blk_drew ?_) | (with_reducible refine blk_drewN _ ?_) | ((with_reducible refine blk_new _ ?_); (focus (simp; done))) | (with_reducible refine blk_alloc ?_ _))), (show Below w.heap.size w _ from (by repeat (first | (with_reducible exact Below.refl _ _) | (with_reducible refine Below.setCell ?_ ?_ _) | (with_reducible refine Below.alloc ?_ ?_ _) | (with_reducible refine Below.drewN ?_ _) | (with_reducible refine Below.drew ?_) | (with_reducible exact Nat.le_refl _) | (focus (simp only [World.size_alloc, World.size_setCell, World.size_drew, World.size_drewN]; omega)) | omega | exact Nat.le_refl _ | (focus (simp; done)) | (focus (simp; omega))))).block g hg⟩), ?_⟩
    refine stepT1S rfl rfl (fun K hK => ?_)
    (refine wp_append_reads _ _ _ 22 rfl (w.heap.size + 3) 35 i0 (.agg #[.int .i64 0, .int .i64 0, .int .i64 0, .int .i64 0, .int .i64 0, .int .i64 0, .int .i64 0, .int .i64 0]) 8 64 Try.underlying22 HI.out HZ0.out HZ1.out HZ2.out rfl (by decide) (.slice (some ⟨w.heap.size + 6, 0, none⟩) 0 0) 0 [] rfl (own_of_blk (by repeat (first | (with_reducible refine blk_drew ?_) | (with_reducible refine blk_drewN _ ?_) | ((with_reducible refine blk_new _ ?_); (focus (simp; done))) | (with_reducible refine blk_alloc ?_ _))) (by omega)) (.slice aB lb.length cB) lb.length (lb.flatMap Cmd.row) rfl (reads_of_owns (ownsRow_below HQ.out (by repeat (first | (with_reducible exact Below.refl _ _) | (with_reducible refine Below.setCell ?_ ?_ _) | (with_reducible refine Below.alloc ?_ ?_ _) | (with_reducible refine Below.drewN ?_ _) | (with_reducible refine Below.drew ?_) | (with_reducible exact Nat.le_refl _) | (focus (simp only [World.size_alloc, World.size_setCell, World.size_drew, World.size_drewN]; omega)) | omega | exact Nat.le_refl _ | (focus (simp; done)) | (focus (simp; omega)))))) (Cmd.one lb) (by unfold maxLen; omega) (by omega) (by first | omega | (simp; done) | (simp; omega)) ?_; intro v1 w1 hown1 hgrow1 hat1; have hpb1 : w1.heap[w.heap.size]? = some (.cells #[.slice (some ⟨g, 0, none⟩) la.length cA, .slice aB lb.length cB, .bool true, .bool true, .int .i64 0, .int .i64 tm, .int .i64 st] 67 (0, 0)) := (hgrow1.block _ (by first | omega | (simp; done) | (simp; omega)) (by simp [Value.ownBlock])).trans (by repeat (first | (with_reducible refine blk_drew ?_) | (with_reducible refine blk_drewN _ ?_) | ((with_reducible refine blk_new _ ?_); (focus (simp; done))) | (with_reducible refine blk_alloc ?_ _))); have hrb1 : w1.heap[w.heap.size + 2]? = some (.cells #[.slice none 0 0, .slice none 0 0, .bool false, .bool false, .int .i64 0, .int .i64 0, .int .i64 0] 67 (0, 0)) := (hgrow1.block _ (by first | omega | (simp; done) | (simp; omega)) (by simp [Value.ownBlock])).trans (by repeat (first | (with_reducible refine blk_drew ?_) | (with_reducible refine blk_drewN _ ?_) | ((with_reducible refine blk_new _ ?_); (focus (simp; done))) | (with_reducible refine blk_alloc ?_ _))); have hnb1 : w1.heap[w.heap.size + 5]? = some (.cells #[.int .i64 xk, .int .i64 xv, .int .i64 xe, .int .i64 xp, .int .i64 xn, .int .i64 y0, .int .i64 y1, .int .i64 y2] 35 (0, 0)) := (hgrow1.block _ (by first | omega | (simp; done) | (simp; omega)) (by simp [Value.ownBlock])).trans (by repeat (first | (with_reducible refine blk_drew ?_) | (with_reducible refine blk_drewN _ ?_) | ((with_reducible refine blk_new _ ?_); (focus (simp; done))) | (with_reducible refine blk_alloc ?_ _))); have hz1 := hgrow1.size; simp only [World.size_alloc, World.size_drew] at hz1; have HB1 := Lib.hid (show Below w.heap.size w w1 from Below.grown (by repeat (first | (with_reducible exact Below.refl _ _) | (with_reducible refine Below.setCell ?_ ?_ _) | (with_reducible refine Below.alloc ?_ ?_ _) | (with_reducible refine Below.drewN ?_ _) | (with_reducible refine Below.drew ?_) | (with_reducible exact Nat.le_refl _) | (focus (simp only [World.size_alloc, World.size_setCell, World.size_drew, World.size_drewN]; omega)) | omega | exact Nat.le_refl _ | (focus (simp; done)) | (focus (simp; omega)))) hgrow1 (by first | omega | (simp; done) | (simp; omega)) (by simp [Value.ownBlock])); have HG1 := Lib.hid (HB1.out.block g hg); have HO1 := Lib.hid hown1; clear hown1 hgrow1 hat1; go_wp2)
    refine ⟨by rw [HSD.out]; exact (⟨hpb1, HG1.out⟩), ?_⟩
    refine stepT1S rfl rfl (fun K hK => ?_)
    (refine wp_append_lies _ _ _ 22 rfl (w.heap.size + 3) 35 i0 (.agg #[.int .i64 0, .int .i64 0, .int .i64 0, .int .i64 0, .int .i64 0, .int .i64 0, .int .i64 0, .int .i64 0]) 8 64 Try.underlying22 HI.out HZ0.out HZ1.out HZ2.out rfl (by decide) v1 (0 + lb.length) ([] ++ lb.flatMap Cmd.row) rfl (HO1.out) ⟨w.heap.size + 5, 0, none⟩ 1 1 [.int .i64 xk, .int .i64 xv, .int .i64 xe, .int .i64 xp, .int .i64 xn, .int .i64 y0, .int .i64 y1, .int .i64 y2] rfl rfl (World.news_of_block (cs := #[.int .i64 xk, .int .i64 xv, .int .i64 xe, .int .i64 xp, .int .i64 xn, .int .i64 y0, .int .i64 y1, .int .i64 y2]) (t := 35) (fr := (0, 0)) hnb1) (by simp [Value.oneCell']) (by omega) (by unfold maxLen; omega) (by omega) (by first | omega | (simp; done) | (simp; omega)) _ rfl ?_; intro gg cap2 w2 hown2 hgrow2 hat2 hlt2; have hne : ∀ j, j ≤ 2 → some (w.heap.size + j) ≠ v1.ownBlock := (fun j hj e => by have := (HO1.out.lt _ e.symm).1; omega); have hpb2 : w2.heap[w.heap.size]? = some (.cells #[.slice (some ⟨g, 0, none⟩) la.length cA, .slice aB lb.length cB, .bool true, .bool true, .int .i64 0, .int .i64 tm, .int .i64 st] 67 (0, 0)) := (hgrow2.block _ (by first | omega | (simp; done) | (simp; omega)) (hne 0 (by omega))).trans (hpb1); have hrb2 : w2.heap[w.heap.size + 2]? = some (.cells #[.slice none 0 0, .slice none 0 0, .bool false, .bool false, .int .i64 0, .int .i64 0, .int .i64 0] 67 (0, 0)) := (hgrow2.block _ (by first | omega | (simp; done) | (simp; omega)) (hne 2 (by omega))).trans (hrb1); have hz2 := hgrow2.size; (try simp only [World.size_alloc] at hz2); have HB2 := Lib.hid (show Below w.heap.size w w2 from Below.grown (HB1.out) hgrow2 (by first | omega | (simp; done) | (simp; omega)) (fun k e => by have := (HO1.out.lt _ e).1; omega)); have HG2 := Lib.hid (HB2.out.block g hg); have HO2 := Lib.hid (show w2.ownsRow (w.heap.size + 3) 35 8 (.slice (some ⟨gg, 0, none⟩) (lb.length + 1) cap2) (lb.length + 1) ((lb ++ [Cmd.mk xk xv xe xp xn y0 y1 y2]).flatMap Cmd.row) by simpa [Cmd.row] using hown2); clear hown2 hgrow2 hat2 hne; go_wp2)
    refine ⟨by rw [HSD.out]; exact (⟨hpb2, HG2.out⟩), ?_⟩
    refine stepT1 rfl rfl (by kernel_rfl) (fun K hK => ?_)
    (go_wp2_with fail; refine Calls.mono (rwith_1 _ _ _ _ _ _ _ _ _ _ _ (some ⟨gg, 0, none⟩) (lb.length + 1) cap2 (lb ++ [Cmd.mk xk xv xe xp xn y0 y1 y2]) _ (reads_of_owns HO2.out) (by omega)) ?_; rintro e w3 ⟨a3, c3, rfl, ho3, hb3⟩; have hz3 := hb3.size; have hpb3 : w3.heap[w.heap.size]? = some (.cells #[.slice (some ⟨g, 0, none⟩) la.length cA, .slice aB lb.length cB, .bool true, .bool true, .int .i64 0, .int .i64 tm, .int .i64 st] 67 (0, 0)) := (hb3.block _ (by omega)).trans hpb2; have hrb3 : w3.heap[w.heap.size + 2]? = some (.cells #[.slice none 0 0, .slice none 0 0, .bool false, .bool false, .int .i64 0, .int .i64 0, .int .i64 0] 67 (0, 0)) := (hb3.block _ (by omega)).trans hrb2; obtain ⟨p30, p31, p32, p33, p34, p35, p36, pf3⟩ := cells7 hpb3; obtain ⟨r30, r31, r32, r33, r34, r35, r36, rf3⟩ := cells7 hrb3; have HPB3 := Lib.hid hpb3; have HRB3 := Lib.hid hrb3; clear hpb3 hrb3;  have HO3 := Lib.hid ho3; have HB3 := Lib.hid (HB2.out.trans (hb3.mono (by omega))); clear ho3 hb3 hpb2 hrb2; go_wp2)
    refine stepT1 rfl rfl (by kernel_rfl) (fun K hK => ?_)
    go_wp2
    try refine stepTnil0 ?_
    clear HSD SS
    go_wp2_with fail
    refine (rsettle_any _ _ _ _ _ _ _ _ _ _ _ _ _).mono ?_
    rintro e w4 ⟨rfl, hb4⟩
    have hz4 := hb4.size
    simp only [World.size_setCell] at hz4
    have hpb4 : w4.heap[w.heap.size]? = some (.cells #[.slice (some ⟨g, 0, none⟩) la.length cA, .slice a3 (lb.length + 1) c3, .bool true, .bool true, .int .i64 0, .int .i64 tm, .int .i64 st] 67 (0, 0)) := (hb4.block _ (by first | omega | (simp; done) | (simp; omega))).trans (store7 HPB3.out _ _ _ _ _ _ _); have hrb4 : w4.heap[w.heap.size + 2]? = some (.cells #[.slice none 0 0, .slice none 0 0, .bool false, .bool false, .int .i64 0, .int .i64 0, .int .i64 0] 67 (0, 0)) := (hb4.block _ (by first | omega | (simp; done) | (simp; omega))).trans (by (repeat ((with_reducible refine blk_set ?_ _ _ ?_); rotate_left; (focus (simp; done)))); exact HRB3.out); obtain ⟨p40, p41, p42, p43, p44, p45, p46, pf4⟩ := cells7 hpb4; obtain ⟨r40, r41, r42, r43, r44, r45, r46, rf4⟩ := cells7 hrb4; have HPB4 := Lib.hid hpb4; have HRB4 := Lib.hid hrb4; clear hpb4 hrb4; 
    have HO4 : Hid (w4.ownsRow w2.heap.size 35 8 (.slice a3 (lb.length + 1) c3) (lb.length + 1) ((lb ++ [Cmd.mk xk xv xe xp xn y0 y1 y2]).flatMap Cmd.row)) := Lib.hid (ownsRow_below (by (repeat ((with_reducible refine ownsRow_setCell_below ?_ ?_ _); rotate_left; (focus (first | (simp; done) | (simp; omega))))); exact HO3.out) hb4)
    have HB4 := Lib.hid (show Below w.heap.size w w4 from Below.trans (by (repeat ((with_reducible refine Below.setCell ?_ ?_ _); rotate_left; (focus (first | (simp; done) | (simp; omega))))); exact HB3.out) (hb4.mono (by first | omega | (simp; done) | (simp; omega))))
    clear hb4
    go_wp2_with fail
    refine bodyPost_ret (v := .tuple #[.agg #[.slice (some ⟨g, 0, none⟩) la.length cA, .slice a3 (lb.length + 1) c3, .bool true, .bool true, .int .i64 0, .int .i64 tm, .int .i64 (max st ((lb.length : Int) + 1))], .int .i64 0, .int .i64 0]) ?_ rfl ?_
    · simp [results, Try.results37, go_sem, r40, r41, r42, r43, r44, r45, r46]
    · exact ⟨_, _, rfl, ownsRow_mono (base := w2.heap.size) (by (repeat ((with_reducible refine ownsRow_setCell_below ?_ ?_ _); rotate_left; (focus (first | (simp; done) | (simp; omega))))); exact HO4.out) (by omega), (by (repeat ((with_reducible refine Below.setCell ?_ ?_ _); rotate_left; (focus (first | (simp; done) | (simp; omega))))); exact HB4.out)⟩
end Go.Proofs.Ytigkcbnlbdiimaa

/- corncribref20.Do: a command shipped. -/
namespace Go.Proofs.Ytigkcbnlbdiimaa
open Go.RowKit
set_option maxRecDepth 100000 in
set_option maxHeartbeats 8000000 in
theorem rship_1 (aA aB : Option Addr) (cA cB : Nat) (la lb : List Cmd)  (tm st t s ck cv ce cp cn c0 c1 c2 : Int) (w : World) (base : Nat) (hr : w.ownsRow base 35 8 (.slice aB lb.length cB) lb.length (lb.flatMap Cmd.row)) (hq : w.ownsRow base 35 8 (.slice aA la.length cA) la.length (la.flatMap Cmd.row)) (x : Cmd) (hx : lb[la.length]? = some x) (hlen : lb.length ≤ 1000) (h1 : (t != tm) = false) :
    Calls Try.prog 37 #[.agg #[.slice aA la.length cA, .slice aB lb.length cB, .bool true, .bool true, .int .i64 1, .int .i64 tm, .int .i64 st], .agg #[.int .i64 1, .int .i64 t, .int .i64 s, .int .i64 ck, .int .i64 cv, .int .i64 ce, .int .i64 cp, .int .i64 cn, .int .i64 c0, .int .i64 c1, .int .i64 c2]] w
      fun e w' => ∃ a' c', e = .returned (.tuple #[.agg #[.slice a' (la.length + 1) c', .slice aB lb.length cB, .bool true, .bool true, .int .i64 1, .int .i64 tm, .int .i64 (max st ((la.length : Int) + 1))], .int .i64 0, .int .i64 0]) ∧ w'.ownsRow w.heap.size 35 8 (.slice a' (la.length + 1) c') (la.length + 1) ((la ++ [x]).flatMap Cmd.row) ∧ Below w.heap.size w w' := by
  have HR := Lib.hid hr
  have HQ := Lib.hid hq
  obtain ⟨g, cg, e1, hg, _, hjl, q0, q1, q2, q3, q4, q5, q6, q7⟩ := row_cmd19 hr la.length x hx
  obtain ⟨e1a, -, e1c⟩ := slice_inj e1
  subst e1a e1c
  obtain ⟨xk, xv, xe, xp, xn, y0, y1, y2⟩ := x
  simp only at q0 q1 q2 q3 q4 q5 q6 q7
  have HC := Lib.hid (And.intro q0 (And.intro q1 (And.intro q2 (And.intro q3 (And.intro q4 (And.intro q5 (And.intro q6 q7)))))))
  clear hr hq hx e1 q0 q1 q2 q3 q4 q5 q6 q7
  have hj0 : (0 : Int) ≤ (la.length : Int) := by omega
  have hj1 : (la.length : Int) < (lb.length : Int) := by omega
  have hne : ((la.length : Int) == (lb.length : Int)) = false := by rw [beq_eq_false_iff_ne]; omega
  have hne2 : (la.length == lb.length) = false := by rw [beq_eq_false_iff_ne]; omega
  obtain ⟨i0, hi, hz0, hz1, hz2⟩ := info_parts cmd19_info
  have HI := Lib.hid hi
  have HZ0 := Lib.hid hz0
  have HZ1 := Lib.hid hz1
  have HZ2 := Lib.hid hz2
  clear hi hz0 hz1 hz2
  go_enter Try.func37, Try.ntmps37
  go_wp2_with fail
  refine wp_region_now0 [1, 3] [(0, 0), (1, 2), (2, 0), (3, 2), (4, 0), (5, 0), (6, 0)] (by kernel_rfl) (by kernel_rfl) rfl (by kernel_rfl) ?_
  refine stepE0 rfl rfl (fun K hK => ?_)
  go_simp
  refine hK _ ?_
  clear hK K
  refine stepE2 rfl rfl ?_ (fun w1 hS => ?_) (fun K hK => ?_)
  rotate_left
  focus (obtain rfl : w1 = _ := hS; go_simp; rfl)
  go_simp
  refine hK _ ?_
  clear hK K
  refine stepE0 rfl rfl (fun K hK => ?_)
  go_simp
  refine hK _ ?_
  clear hK K
  refine stepE2 rfl rfl ?_ (fun w1 hS => ?_) (fun K hK => ?_)
  rotate_left
  focus (obtain rfl : w1 = _ := hS; go_simp; rfl)
  go_simp
  refine hK _ ?_
  clear hK K
  refine stepE0 rfl rfl (fun K hK => ?_)
  go_simp
  refine hK _ ?_
  clear hK K
  refine stepE0 rfl rfl (fun K hK => ?_)
  go_simp
  refine hK _ ?_
  clear hK K
  refine stepE0 rfl rfl (fun K hK => ?_)
  go_simp
  refine hK _ ?_
  clear hK K
  try refine stepEnil0 ?_
  go_wp2_with fail
  obtain ⟨SS, HSD⟩ : ∃ SS : World → Prop, Hid (SS = fun w' => w'.cell? ⟨w.heap.size, 0, none⟩ = some (.slice aA la.length cA) ∧ w'.cell? ⟨w.heap.size, 1, none⟩ = some (.slice (some ⟨g, 0, none⟩) lb.length cB) ∧ w'.cell? ⟨w.heap.size, 2, none⟩ = some (.bool true) ∧ w'.cell? ⟨w.heap.size, 3, none⟩ = some (.bool true) ∧ w'.cell? ⟨w.heap.size, 4, none⟩ = some (.int .i64 1) ∧ w'.cell? ⟨w.heap.size, 5, none⟩ = some (.int .i64 tm) ∧ w'.cell? ⟨w.heap.size, 6, none⟩ = some (.int .i64 st)) := ⟨_, Lib.hid rfl⟩
  refine wp_region_order0 SS [0, 3] [(0, 2), (1, 0), (3, 2), (4, 0), (2, 1), (5, 1), (6, 0), (7, 0)] (by kernel_rfl) (by kernel_rfl) rfl (by kernel_rfl) ?_ ?_
  focus (rw [HSD.out]; refine ⟨?_, ?_, ?_, ?_, ?_, ?_, ?_⟩ <;> go_simp)
  refine stepE2 rfl rfl ?_ (fun w1 hS => ?_) (fun K hK => ?_)
  rotate_left
  focus (rw [HSD.out] at hS; obtain ⟨s0, s1, s2, s3, s4, s5, s6⟩ := hS; go_simp; rfl)
  go_simp
  refine hK _ ?_
  clear hK K
  refine stepE0 rfl rfl (fun K hK => ?_)
  go_simp
  refine hK _ ?_
  clear hK K
  refine stepE2 rfl rfl ?_ (fun w1 hS => ?_) (fun K hK => ?_)
  rotate_left
  focus (rw [HSD.out] at hS; obtain ⟨s0, s1, s2, s3, s4, s5, s6⟩ := hS; go_simp; rfl)
  go_simp
  refine hK _ ?_
  clear hK K
  refine stepE0 rfl rfl (fun K hK => ?_)
  go_simp
  refine hK _ ?_
  clear hK K
  refine stepE1S rfl rfl (fun K hK => ?_)
  (go_wp2_with fail; refine Calls.mono (rlog_1 _ _ _ _ _ _ _ _ _ _ _ _) ?_; rintro e w2 ⟨rfl, rfl⟩; go_wp2)
  refine ⟨by rw [HSD.out]; exact (by refine ⟨?_, ?_, ?_, ?_, ?_, ?_, ?_⟩ <;> go_simp), ?_⟩
  refine stepE1 rfl rfl (by kernel_rfl) (fun K hK => ?_)
  (go_wp2_with fail; refine Calls.mono (rlog_0 _ _ _ _ _ _ _ _ _ _ _ _) ?_; rintro e w2 ⟨rfl, rfl⟩; go_wp2)
  refine stepE0 rfl rfl (fun K hK => ?_)
  go_simp
  refine hK _ ?_
  clear hK K
  refine stepE0 rfl rfl (fun K hK => ?_)
  go_simp
  refine hK _ ?_
  clear hK K
  try refine stepEnil0 ?_
  clear HSD SS
  go_wp2_with fail
  obtain ⟨SS, HSD⟩ : ∃ SS : World → Prop, Hid (SS = fun w' => w'.heap[w.heap.size]? = some (.cells #[.slice aA la.length cA, .slice (some ⟨g, 0, none⟩) lb.length cB, .bool true, .bool true, .int .i64 1, .int .i64 tm, .int .i64 st] 67 (0, 0)) ∧ w'.heap[g]? = w.heap[g]?) := ⟨_, Lib.hid rfl⟩
  refine wp_region_plan0 SS [0, 9] (.op 0 2 (.op 1 0 (.op 3 0 (.op 5 0 (.op 6 0 (.op 7 0 (.op 8 0 (.op 9 2 (.two 2 (.two 4 (.op 10 1 (.op 11 1 (.op 12 1 (.op 13 1 .nil)))) 10 (.op 4 1 (.op 11 1 (.op 12 1 (.op 13 1 .nil))))) 10 (.op 2 1 (.op 4 1 (.op 11 1 (.op 12 1 (.op 13 1 .nil)))))))))))))) (by kernel_rfl) (by kernel_rfl) rfl (by kernel_rfl) ?_ ?_
  focus (rw [HSD.out]; exact ⟨(by repeat (first | (with_reducible refine blk_drew ?_) | (with_reducible refine blk_drewN _ ?_) | ((with_reducible refine blk_new _ ?_); (focus (simp; done))) | (with_reducible refine blk_alloc ?_ _))), (show Below w.heap.size w _ from (by repeat (first | (with_reducible exact Below.refl _ _) | (with_reducible refine Below.setCell ?_ ?_ _) | (with_reducible refine Below.alloc ?_ ?_ _) | (with_reducible refine Below.drewN ?_ _) | (with_reducible refine Below.drew ?_) | (with_reducible exact Nat.le_refl _) | (focus (simp only [World.size_alloc, World.size_setCell, World.size_drew, World.size_drewN]; omega)) | omega | exact Nat.le_refl _ | (focus (simp; done)) | (focus (simp; omega))))).block g hg⟩)
  refine stepT2 rfl rfl ?_ (fun w1 hS => ?_) (fun K hK => ?_)
  rotate_left
  focus (rw [HSD.out] at hS; obtain ⟨sp, sg⟩ := hS; obtain ⟨s0, s1, s2, s3, s4, s5, s6, -⟩ := cells7 sp; have sc := (fun (o : Nat) => World.cell?_of_block (a := ⟨g, o, none⟩) sg); obtain ⟨q0, q1, q2, q3, q4, q5, q6, q7⟩ := HC.out; have z0 := (sc _).trans q0; have z1 := (sc _).trans q1; have z2 := (sc _).trans q2; have z3 := (sc _).trans q3; have z4 := (sc _).trans q4; have z5 := (sc _).trans q5; have z6 := (sc _).trans q6; have z7 := (sc _).trans q7; clear sc q0 q1 q2 q3 q4 q5 q6 q7; go_simp; rfl)
  go_simp
  refine hK _ ?_
  clear hK K
  refine stepT0 rfl rfl (fun K hK => ?_)
  go_simp
  refine hK _ ?_
  clear hK K
  refine stepT0 rfl rfl (fun K hK => ?_)
  go_simp
  refine hK _ ?_
  clear hK K
  refine stepT0 rfl rfl (fun K hK => ?_)
  go_simp
  refine hK _ ?_
  clear hK K
  refine stepT0 rfl rfl (fun K hK => ?_)
  go_simp
  refine hK _ ?_
  clear hK K
  refine stepT0 rfl rfl (fun K hK => ?_)
  go_simp
  refine hK _ ?_
  clear hK K
  refine stepT0 rfl rfl (fun K hK => ?_)
  go_simp
  refine hK _ ?_
  clear hK K
  refine stepT2 rfl rfl ?_ (fun w1 hS => ?_) (fun K hK => ?_)
  rotate_left
  focus (rw [HSD.out] at hS; obtain ⟨sp, sg⟩ := hS; obtain ⟨s0, s1, s2, s3, s4, s5, s6, -⟩ := cells7 sp; have sc := (fun (o : Nat) => World.cell?_of_block (a := ⟨g, o, none⟩) sg); obtain ⟨q0, q1, q2, q3, q4, q5, q6, q7⟩ := HC.out; have z0 := (sc _).trans q0; have z1 := (sc _).trans q1; have z2 := (sc _).trans q2; have z3 := (sc _).trans q3; have z4 := (sc _).trans q4; have z5 := (sc _).trans q5; have z6 := (sc _).trans q6; have z7 := (sc _).trans q7; clear sc q0 q1 q2 q3 q4 q5 q6 q7; go_simp; rfl)
  go_simp
  refine hK _ ?_
  clear hK K
  refine stepTtwo ?_ ?_ (by kernel_rfl) (by kernel_rfl)
  ·
    refine stepT1S rfl rfl (fun K hK => ?_)
    go_wp2
    refine ⟨by rw [HSD.out]; exact (⟨(by repeat (first | (with_reducible refine blk_drew ?_) | (with_reducible refine blk_drewN _ ?_) | ((with_reducible refine blk_new _ ?_); (focus (simp; done))) | (with_reducible refine blk_alloc ?_ _))), (show Below w.heap.size w _ from (by repeat (first | (with_reducible exact Below.refl _ _) | (with_reducible refine Below.setCell ?_ ?_ _) | (with_reducible refine Below.alloc ?_ ?_ _) | (with_reducible refine Below.drewN ?_ _) | (with_reducible refine Below.drew ?_) | (with_reducible exact Nat.le_refl _) | (focus (simp only [World.size_alloc, World.size_setCell, World.size_drew, World.size_drewN]; omega)) | omega | exact Nat.le_refl _ | (focus (simp; done)) | (focus (simp; omega))))).block g hg⟩), ?_⟩
    refine stepTtwo ?_ ?_ (by kernel_rfl) (by kernel_rfl)
    ·
      refine stepT1S rfl rfl (fun K hK => ?_)
      (refine wp_append_reads _ _ _ 22 rfl (w.heap.size + 3) 35 i0 (.agg #[.int .i64 0, .int .i64 0, .int .i64 0, .int .i64 0, .int .i64 0, .int .i64 0, .int .i64 0, .int .i64 0]) 8 64 Try.underlying22 HI.out HZ0.out HZ1.out HZ2.out rfl (by decide) (.slice (some ⟨w.heap.size + 5, 0, none⟩) 0 0) 0 [] rfl (own_of_blk (by repeat (first | (with_reducible refine blk_drew ?_) | (with_reducible refine blk_drewN _ ?_) | ((with_reducible refine blk_new _ ?_); (focus (simp; done))) | (with_reducible refine blk_alloc ?_ _))) (by omega)) (.slice aA la.length cA) la.length (la.flatMap Cmd.row) rfl (reads_of_owns (ownsRow_below HQ.out (by repeat (first | (with_reducible exact Below.refl _ _) | (with_reducible refine Below.setCell ?_ ?_ _) | (with_reducible refine Below.alloc ?_ ?_ _) | (with_reducible refine Below.drewN ?_ _) | (with_reducible refine Below.drew ?_) | (with_reducible exact Nat.le_refl _) | (focus (simp only [World.size_alloc, World.size_setCell, World.size_drew, World.size_drewN]; omega)) | omega | exact Nat.le_refl _ | (focus (simp; done)) | (focus (simp; omega)))))) (Cmd.one la) (by unfold maxLen; omega) (by omega) (by first | omega | (simp; done) | (simp; omega)) ?_; intro v1 w1 hown1 hgrow1 hat1; have hpb1 : w1.heap[w.heap.size]? = some (.cells #[.slice aA la.length cA, .slice (some ⟨g, 0, none⟩) lb.length cB, .bool true, .bool true, .int .i64 1, .int .i64 tm, .int .i64 st] 67 (0, 0)) := (hgrow1.block _ (by first | omega | (simp; done) | (simp; omega)) (by simp [Value.ownBlock])).trans (by repeat (first | (with_reducible refine blk_drew ?_) | (with_reducible refine blk_drewN _ ?_) | ((with_reducible refine blk_new _ ?_); (focus (simp; done))) | (with_reducible refine blk_alloc ?_ _))); have hrb1 : w1.heap[w.heap.size + 2]? = some (.cells #[.slice none 0 0, .slice none 0 0, .bool false, .bool false, .int .i64 0, .int .i64 0, .int .i64 0] 67 (0, 0)) := (hgrow1.block _ (by first | omega | (simp; done) | (simp; omega)) (by simp [Value.ownBlock])).trans (by repeat (first | (with_reducible refine blk_drew ?_) | (with_reducible refine blk_drewN _ ?_) | ((with_reducible refine blk_new _ ?_); (focus (simp; done))) | (with_reducible refine blk_alloc ?_ _))); have hz1 := hgrow1.size; simp only [World.size_alloc, World.size_drew] at hz1; have HB1 := Lib.hid (show Below w.heap.size w w1 from Below.grown (by repeat (first | (with_reducible exact Below.refl _ _) | (with_reducible refine Below.setCell ?_ ?_ _) | (with_reducible refine Below.alloc ?_ ?_ _) | (with_reducible refine Below.drewN ?_ _) | (with_reducible refine Below.drew ?_) | (with_reducible exact Nat.le_refl _) | (focus (simp only [World.size_alloc, World.size_setCell, World.size_drew, World.size_drewN]; omega)) | omega | exact Nat.le_refl _ | (focus (simp; done)) | (focus (simp; omega)))) hgrow1 (by first | omega | (simp; done) | (simp; omega)) (by simp [Value.ownBlock])); have HG1 := Lib.hid (HB1.out.block g hg); have HO1 := Lib.hid hown1; clear hown1 hgrow1 hat1; go_wp2)
      refine ⟨by rw [HSD.out]; exact (⟨hpb1, HG1.out⟩), ?_⟩
      refine stepT1S rfl rfl (fun K hK => ?_)
      go_wp2
      refine ⟨by rw [HSD.out]; exact (⟨blk_alloc hpb1 _, ((HB1.out.alloc (by first | omega | (simp; done) | (simp; omega)) _).block g hg)⟩), ?_⟩
      refine stepT1S rfl rfl (fun K hK => ?_)
      (refine wp_append_lies _ _ _ 22 rfl (w.heap.size + 3) 35 i0 (.agg #[.int .i64 0, .int .i64 0, .int .i64 0, .int .i64 0, .int .i64 0, .int .i64 0, .int .i64 0, .int .i64 0]) 8 64 Try.underlying22 HI.out HZ0.out HZ1.out HZ2.out rfl (by decide) v1 (0 + la.length) ([] ++ la.flatMap Cmd.row) rfl (HO1.out.alloc _) ⟨w1.heap.size, 0, none⟩ 1 1 [.int .i64 xk, .int .i64 xv, .int .i64 xe, .int .i64 xp, .int .i64 xn, .int .i64 y0, .int .i64 y1, .int .i64 y2] rfl rfl (World.news_of_block (cs := #[.int .i64 xk, .int .i64 xv, .int .i64 xe, .int .i64 xp, .int .i64 xn, .int .i64 y0, .int .i64 y1, .int .i64 y2]) (t := 35) (fr := (0, 0)) (by repeat (first | (with_reducible refine blk_drew ?_) | (with_reducible refine blk_drewN _ ?_) | ((with_reducible refine blk_new _ ?_); (focus (simp; done))) | (with_reducible refine blk_alloc ?_ _)))) (by simp [Value.oneCell']) (by omega) (by unfold maxLen; omega) (by omega) (by first | omega | (simp; done) | (simp; omega)) _ rfl ?_; intro gg cap2 w2 hown2 hgrow2 hat2 hlt2; have hne : ∀ j, j ≤ 2 → some (w.heap.size + j) ≠ v1.ownBlock := (fun j hj e => by have := (HO1.out.lt _ e.symm).1; omega); have hpb2 : w2.heap[w.heap.size]? = some (.cells #[.slice aA la.length cA, .slice (some ⟨g, 0, none⟩) lb.length cB, .bool true, .bool true, .int .i64 1, .int .i64 tm, .int .i64 st] 67 (0, 0)) := (hgrow2.block _ (by first | omega | (simp; done) | (simp; omega)) (hne 0 (by omega))).trans (blk_alloc hpb1 _); have hrb2 : w2.heap[w.heap.size + 2]? = some (.cells #[.slice none 0 0, .slice none 0 0, .bool false, .bool false, .int .i64 0, .int .i64 0, .int .i64 0] 67 (0, 0)) := (hgrow2.block _ (by first | omega | (simp; done) | (simp; omega)) (hne 2 (by omega))).trans (blk_alloc hrb1 _); have hz2 := hgrow2.size; (try simp only [World.size_alloc] at hz2); have HB2 := Lib.hid (show Below w.heap.size w w2 from Below.grown (HB1.out.alloc (by first | omega | (simp; done) | (simp; omega)) _) hgrow2 (by first | omega | (simp; done) | (simp; omega)) (fun k e => by have := (HO1.out.lt _ e).1; omega)); have HG2 := Lib.hid (HB2.out.block g hg); have HO2 := Lib.hid (show w2.ownsRow (w.heap.size + 3) 35 8 (.slice (some ⟨gg, 0, none⟩) (la.length + 1) cap2) (la.length + 1) ((la ++ [Cmd.mk xk xv xe xp xn y0 y1 y2]).flatMap Cmd.row) by simpa [Cmd.row] using hown2); clear hown2 hgrow2 hat2 hne; go_wp2)
      refine ⟨by rw [HSD.out]; exact (⟨hpb2, HG2.out⟩), ?_⟩
      refine stepT1 rfl rfl (by kernel_rfl) (fun K hK => ?_)
      (go_wp2_with fail; refine Calls.mono (rwith_0 _ _ _ _ _ _ _ _ _ _ _ (some ⟨gg, 0, none⟩) (la.length + 1) cap2 (la ++ [Cmd.mk xk xv xe xp xn y0 y1 y2]) _ (reads_of_owns HO2.out) (by omega)) ?_; rintro e w3 ⟨a3, c3, rfl, ho3, hb3⟩; have hz3 := hb3.size; have hpb3 : w3.heap[w.heap.size]? = some (.cells #[.slice aA la.length cA, .slice (some ⟨g, 0, none⟩) lb.length cB, .bool true, .bool true, .int .i64 1, .int .i64 tm, .int .i64 st] 67 (0, 0)) := (hb3.block _ (by omega)).trans hpb2; have hrb3 : w3.heap[w.heap.size + 2]? = some (.cells #[.slice none 0 0, .slice none 0 0, .bool false, .bool false, .int .i64 0, .int .i64 0, .int .i64 0] 67 (0, 0)) := (hb3.block _ (by omega)).trans hrb2; obtain ⟨p30, p31, p32, p33, p34, p35, p36, pf3⟩ := cells7 hpb3; obtain ⟨r30, r31, r32, r33, r34, r35, r36, rf3⟩ := cells7 hrb3; have HPB3 := Lib.hid hpb3; have HRB3 := Lib.hid hrb3; clear hpb3 hrb3;  have HO3 := Lib.hid ho3; have HB3 := Lib.hid (HB2.out.trans (hb3.mono (by omega))); clear ho3 hb3 hpb2 hrb2; go_wp2)
      refine stepT1 rfl rfl (by kernel_rfl) (fun K hK => ?_)
      go_wp2
      try refine stepTnil0 ?_
      clear HSD SS
      go_wp2_with fail
      refine (rsettle_any _ _ _ _ _ _ _ _ _ _ _ _ _).mono ?_
      rintro e w4 ⟨rfl, hb4⟩
      have hz4 := hb4.size
      simp only [World.size_setCell] at hz4
      have hpb4 : w4.heap[w.heap.size]? = some (.cells #[.slice a3 (la.length + 1) c3, .slice (some ⟨g, 0, none⟩) lb.length cB, .bool true, .bool true, .int .i64 1, .int .i64 tm, .int .i64 st] 67 (0, 0)) := (hb4.block _ (by first | omega | (simp; done) | (simp; omega))).trans (store7 HPB3.out _ _ _ _ _ _ _); have hrb4 : w4.heap[w.heap.size + 2]? = some (.cells #[.slice none 0 0, .slice none 0 0, .bool false, .bool false, .int .i64 0, .int .i64 0, .int .i64 0] 67 (0, 0)) := (hb4.block _ (by first | omega | (simp; done) | (simp; omega))).trans (by (repeat ((with_reducible refine blk_set ?_ _ _ ?_); rotate_left; (focus (simp; done)))); exact HRB3.out); obtain ⟨p40, p41, p42, p43, p44, p45, p46, pf4⟩ := cells7 hpb4; obtain ⟨r40, r41, r42, r43, r44, r45, r46, rf4⟩ := cells7 hrb4; have HPB4 := Lib.hid hpb4; have HRB4 := Lib.hid hrb4; clear hpb4 hrb4; 
      have HO4 : Hid (w4.ownsRow w2.heap.size 35 8 (.slice a3 (la.length + 1) c3) (la.length + 1) ((la ++ [Cmd.mk xk xv xe xp xn y0 y1 y2]).flatMap Cmd.row)) := Lib.hid (ownsRow_below (by (repeat ((with_reducible refine ownsRow_setCell_below ?_ ?_ _); rotate_left; (focus (first | (simp; done) | (simp; omega))))); exact HO3.out) hb4)
      have HB4 := Lib.hid (show Below w.heap.size w w4 from Below.trans (by (repeat ((with_reducible refine Below.setCell ?_ ?_ _); rotate_left; (focus (first | (simp; done) | (simp; omega))))); exact HB3.out) (hb4.mono (by first | omega | (simp; done) | (simp; omega))))
      clear hb4
      go_wp2_with fail
      refine bodyPost_ret (v := .tuple #[.agg #[.slice a3 (la.length + 1) c3, .slice (some ⟨g, 0, none⟩) lb.length cB, .bool true, .bool true, .int .i64 1, .int .i64 tm, .int .i64 (max st ((la.length : Int) + 1))], .int .i64 0, .int .i64 0]) ?_ rfl ?_
      · simp [results, Try.results37, go_sem, r40, r41, r42, r43, r44, r45, r46]
      · exact ⟨_, _, rfl, ownsRow_mono (base := w2.heap.size) (by (repeat ((with_reducible refine ownsRow_setCell_below ?_ ?_ _); rotate_left; (focus (first | (simp; done) | (simp; omega))))); exact HO4.out) (by omega), (by (repeat ((with_reducible refine Below.setCell ?_ ?_ _); rotate_left; (focus (first | (simp; done) | (simp; omega))))); exact HB4.out)⟩
    ·
      refine stepT1S rfl rfl (fun K hK => ?_)
      go_wp2
      refine ⟨by rw [HSD.out]; exact (⟨(by repeat (first | (with_reducible refine blk_drew ?_) | (with_reducible refine blk_drewN _ ?_) | ((with_reducible refine blk_new _ ?_); (focus (simp; done))) | (with_reducible refine blk_alloc ?_ _))), (show Below w.heap.size w _ from (by repeat (first | (with_reducible exact Below.refl _ _) | (with_reducible refine Below.setCell ?_ ?_ _) | (with_reducible refine Below.alloc ?_ ?_ _) | (with_reducible refine Below.drewN ?_ _) | (with_reducible refine Below.drew ?_) | (with_reducible exact Nat.le_refl _) | (focus (simp only [World.size_alloc, World.size_setCell, World.size_drew, World.size_drewN]; omega)) | omega | exact Nat.le_refl _ | (focus (simp; done)) | (focus (simp; omega))))).block g hg⟩), ?_⟩
      refine stepT1S rfl rfl (fun K hK => ?_)
      (refine wp_append_reads _ _ _ 22 rfl (w.heap.size + 3) 35 i0 (.agg #[.int .i64 0, .int .i64 0, .int .i64 0, .int .i64 0, .int .i64 0, .int .i64 0, .int .i64 0, .int .i64 0]) 8 64 Try.underlying22 HI.out HZ0.out HZ1.out HZ2.out rfl (by decide) (.slice (some ⟨w.heap.size + 5, 0, none⟩) 0 0) 0 [] rfl (own_of_blk (by repeat (first | (with_reducible refine blk_drew ?_) | (with_reducible refine blk_drewN _ ?_) | ((with_reducible refine blk_new _ ?_); (focus (simp; done))) | (with_reducible refine blk_alloc ?_ _))) (by omega)) (.slice aA la.length cA) la.length (la.flatMap Cmd.row) rfl (reads_of_owns (ownsRow_below HQ.out (by repeat (first | (with_reducible exact Below.refl _ _) | (with_reducible refine Below.setCell ?_ ?_ _) | (with_reducible refine Below.alloc ?_ ?_ _) | (with_reducible refine Below.drewN ?_ _) | (with_reducible refine Below.drew ?_) | (with_reducible exact Nat.le_refl _) | (focus (simp only [World.size_alloc, World.size_setCell, World.size_drew, World.size_drewN]; omega)) | omega | exact Nat.le_refl _ | (focus (simp; done)) | (focus (simp; omega)))))) (Cmd.one la) (by unfold maxLen; omega) (by omega) (by first | omega | (simp; done) | (simp; omega)) ?_; intro v1 w1 hown1 hgrow1 hat1; have hpb1 : w1.heap[w.heap.size]? = some (.cells #[.slice aA la.length cA, .slice (some ⟨g, 0, none⟩) lb.length cB, .bool true, .bool true, .int .i64 1, .int .i64 tm, .int .i64 st] 67 (0, 0)) := (hgrow1.block _ (by first | omega | (simp; done) | (simp; omega)) (by simp [Value.ownBlock])).trans (by repeat (first | (with_reducible refine blk_drew ?_) | (with_reducible refine blk_drewN _ ?_) | ((with_reducible refine blk_new _ ?_); (focus (simp; done))) | (with_reducible refine blk_alloc ?_ _))); have hrb1 : w1.heap[w.heap.size + 2]? = some (.cells #[.slice none 0 0, .slice none 0 0, .bool false, .bool false, .int .i64 0, .int .i64 0, .int .i64 0] 67 (0, 0)) := (hgrow1.block _ (by first | omega | (simp; done) | (simp; omega)) (by simp [Value.ownBlock])).trans (by repeat (first | (with_reducible refine blk_drew ?_) | (with_reducible refine blk_drewN _ ?_) | ((with_reducible refine blk_new _ ?_); (focus (simp; done))) | (with_reducible refine blk_alloc ?_ _))); have hnb1 : w1.heap[w.heap.size + 6]? = some (.cells #[.int .i64 xk, .int .i64 xv, .int .i64 xe, .int .i64 xp, .int .i64 xn, .int .i64 y0, .int .i64 y1, .int .i64 y2] 35 (0, 0)) := (hgrow1.block _ (by first | omega | (simp; done) | (simp; omega)) (by simp [Value.ownBlock])).trans (by repeat (first | (with_reducible refine blk_drew ?_) | (with_reducible refine blk_drewN _ ?_) | ((with_reducible refine blk_new _ ?_); (focus (simp; done))) | (with_reducible refine blk_alloc ?_ _))); have hz1 := hgrow1.size; simp only [World.size_alloc, World.size_drew] at hz1; have HB1 := Lib.hid (show Below w.heap.size w w1 from Below.grown (by repeat (first | (with_reducible exact Below.refl _ _) | (with_reducible refine Below.setCell ?_ ?_ _) | (with_reducible refine Below.alloc ?_ ?_ _) | (with_reducible refine Below.drewN ?_ _) | (with_reducible refine Below.drew ?_) | (with_reducible exact Nat.le_refl _) | (focus (simp only [World.size_alloc, World.size_setCell, World.size_drew, World.size_drewN]; omega)) | omega | exact Nat.le_refl _ | (focus (simp; done)) | (focus (simp; omega)))) hgrow1 (by first | omega | (simp; done) | (simp; omega)) (by simp [Value.ownBlock])); have HG1 := Lib.hid (HB1.out.block g hg); have HO1 := Lib.hid hown1; clear hown1 hgrow1 hat1; go_wp2)
      refine ⟨by rw [HSD.out]; exact (⟨hpb1, HG1.out⟩), ?_⟩
      refine stepT1S rfl rfl (fun K hK => ?_)
      (refine wp_append_lies _ _ _ 22 rfl (w.heap.size + 3) 35 i0 (.agg #[.int .i64 0, .int .i64 0, .int .i64 0, .int .i64 0, .int .i64 0, .int .i64 0, .int .i64 0, .int .i64 0]) 8 64 Try.underlying22 HI.out HZ0.out HZ1.out HZ2.out rfl (by decide) v1 (0 + la.length) ([] ++ la.flatMap Cmd.row) rfl (HO1.out) ⟨w.heap.size + 6, 0, none⟩ 1 1 [.int .i64 xk, .int .i64 xv, .int .i64 xe, .int .i64 xp, .int .i64 xn, .int .i64 y0, .int .i64 y1, .int .i64 y2] rfl rfl (World.news_of_block (cs := #[.int .i64 xk, .int .i64 xv, .int .i64 xe, .int .i64 xp, .int .i64 xn, .int .i64 y0, .int .i64 y1, .int .i64 y2]) (t := 35) (fr := (0, 0)) hnb1) (by simp [Value.oneCell']) (by omega) (by unfold maxLen; omega) (by omega) (by first | omega | (simp; done) | (simp; omega)) _ rfl ?_; intro gg cap2 w2 hown2 hgrow2 hat2 hlt2; have hne : ∀ j, j ≤ 2 → some (w.heap.size + j) ≠ v1.ownBlock := (fun j hj e => by have := (HO1.out.lt _ e.symm).1; omega); have hpb2 : w2.heap[w.heap.size]? = some (.cells #[.slice aA la.length cA, .slice (some ⟨g, 0, none⟩) lb.length cB, .bool true, .bool true, .int .i64 1, .int .i64 tm, .int .i64 st] 67 (0, 0)) := (hgrow2.block _ (by first | omega | (simp; done) | (simp; omega)) (hne 0 (by omega))).trans (hpb1); have hrb2 : w2.heap[w.heap.size + 2]? = some (.cells #[.slice none 0 0, .slice none 0 0, .bool false, .bool false, .int .i64 0, .int .i64 0, .int .i64 0] 67 (0, 0)) := (hgrow2.block _ (by first | omega | (simp; done) | (simp; omega)) (hne 2 (by omega))).trans (hrb1); have hz2 := hgrow2.size; (try simp only [World.size_alloc] at hz2); have HB2 := Lib.hid (show Below w.heap.size w w2 from Below.grown (HB1.out) hgrow2 (by first | omega | (simp; done) | (simp; omega)) (fun k e => by have := (HO1.out.lt _ e).1; omega)); have HG2 := Lib.hid (HB2.out.block g hg); have HO2 := Lib.hid (show w2.ownsRow (w.heap.size + 3) 35 8 (.slice (some ⟨gg, 0, none⟩) (la.length + 1) cap2) (la.length + 1) ((la ++ [Cmd.mk xk xv xe xp xn y0 y1 y2]).flatMap Cmd.row) by simpa [Cmd.row] using hown2); clear hown2 hgrow2 hat2 hne; go_wp2)
      refine ⟨by rw [HSD.out]; exact (⟨hpb2, HG2.out⟩), ?_⟩
      refine stepT1 rfl rfl (by kernel_rfl) (fun K hK => ?_)
      (go_wp2_with fail; refine Calls.mono (rwith_0 _ _ _ _ _ _ _ _ _ _ _ (some ⟨gg, 0, none⟩) (la.length + 1) cap2 (la ++ [Cmd.mk xk xv xe xp xn y0 y1 y2]) _ (reads_of_owns HO2.out) (by omega)) ?_; rintro e w3 ⟨a3, c3, rfl, ho3, hb3⟩; have hz3 := hb3.size; have hpb3 : w3.heap[w.heap.size]? = some (.cells #[.slice aA la.length cA, .slice (some ⟨g, 0, none⟩) lb.length cB, .bool true, .bool true, .int .i64 1, .int .i64 tm, .int .i64 st] 67 (0, 0)) := (hb3.block _ (by omega)).trans hpb2; have hrb3 : w3.heap[w.heap.size + 2]? = some (.cells #[.slice none 0 0, .slice none 0 0, .bool false, .bool false, .int .i64 0, .int .i64 0, .int .i64 0] 67 (0, 0)) := (hb3.block _ (by omega)).trans hrb2; obtain ⟨p30, p31, p32, p33, p34, p35, p36, pf3⟩ := cells7 hpb3; obtain ⟨r30, r31, r32, r33, r34, r35, r36, rf3⟩ := cells7 hrb3; have HPB3 := Lib.hid hpb3; have HRB3 := Lib.hid hrb3; clear hpb3 hrb3;  have HO3 := Lib.hid ho3; have HB3 := Lib.hid (HB2.out.trans (hb3.mono (by omega))); clear ho3 hb3 hpb2 hrb2; go_wp2)
      refine stepT1 rfl rfl (by kernel_rfl) (fun K hK => ?_)
      go_wp2
      try refine stepTnil0 ?_
      clear HSD SS
      go_wp2_with fail
      refine (rsettle_any _ _ _ _ _ _ _ _ _ _ _ _ _).mono ?_
      rintro e w4 ⟨rfl, hb4⟩
      have hz4 := hb4.size
      simp only [World.size_setCell] at hz4
      have hpb4 : w4.heap[w.heap.size]? = some (.cells #[.slice a3 (la.length + 1) c3, .slice (some ⟨g, 0, none⟩) lb.length cB, .bool true, .bool true, .int .i64 1, .int .i64 tm, .int .i64 st] 67 (0, 0)) := (hb4.block _ (by first | omega | (simp; done) | (simp; omega))).trans (store7 HPB3.out _ _ _ _ _ _ _); have hrb4 : w4.heap[w.heap.size + 2]? = some (.cells #[.slice none 0 0, .slice none 0 0, .bool false, .bool false, .int .i64 0, .int .i64 0, .int .i64 0] 67 (0, 0)) := (hb4.block _ (by first | omega | (simp; done) | (simp; omega))).trans (by (repeat ((with_reducible refine blk_set ?_ _ _ ?_); rotate_left; (focus (simp; done)))); exact HRB3.out); obtain ⟨p40, p41, p42, p43, p44, p45, p46, pf4⟩ := cells7 hpb4; obtain ⟨r40, r41, r42, r43, r44, r45, r46, rf4⟩ := cells7 hrb4; have HPB4 := Lib.hid hpb4; have HRB4 := Lib.hid hrb4; clear hpb4 hrb4; 
      have HO4 : Hid (w4.ownsRow w2.heap.size 35 8 (.slice a3 (la.length + 1) c3) (la.length + 1) ((la ++ [Cmd.mk xk xv xe xp xn y0 y1 y2]).flatMap Cmd.row)) := Lib.hid (ownsRow_below (by (repeat ((with_reducible refine ownsRow_setCell_below ?_ ?_ _); rotate_left; (focus (first | (simp; done) | (simp; omega))))); exact HO3.out) hb4)
      have HB4 := Lib.hid (show Below w.heap.size w w4 from Below.trans (by (repeat ((with_reducible refine Below.setCell ?_ ?_ _); rotate_left; (focus (first | (simp; done) | (simp; omega))))); exact HB3.out) (hb4.mono (by first | omega | (simp; done) | (simp; omega))))
      clear hb4
      go_wp2_with fail
      refine bodyPost_ret (v := .tuple #[.agg #[.slice a3 (la.length + 1) c3, .slice (some ⟨g, 0, none⟩) lb.length cB, .bool true, .bool true, .int .i64 1, .int .i64 tm, .int .i64 (max st ((la.length : Int) + 1))], .int .i64 0, .int .i64 0]) ?_ rfl ?_
      · simp [results, Try.results37, go_sem, r40, r41, r42, r43, r44, r45, r46]
      · exact ⟨_, _, rfl, ownsRow_mono (base := w2.heap.size) (by (repeat ((with_reducible refine ownsRow_setCell_below ?_ ?_ _); rotate_left; (focus (first | (simp; done) | (simp; omega))))); exact HO4.out) (by omega), (by (repeat ((with_reducible refine Below.setCell ?_ ?_ _); rotate_left; (focus (first | (simp; done) | (simp; omega))))); exact HB4.out)⟩
  ·
    refine stepT1S rfl rfl (fun K hK => ?_)
    go_wp2
    refine ⟨by rw [HSD.out]; exact (⟨(by repeat (first | (with_reducible refine blk_drew ?_) | (with_reducible refine blk_drewN _ ?_) | ((with_reducible refine blk_new _ ?_); (focus (simp; done))) | (with_reducible refine blk_alloc ?_ _))), (show Below w.heap.size w _ from (by repeat (first | (with_reducible exact Below.refl _ _) | (with_reducible refine Below.setCell ?_ ?_ _) | (with_reducible refine Below.alloc ?_ ?_ _) | (with_reducible refine Below.drewN ?_ _) | (with_reducible refine Below.drew ?_) | (with_reducible exact Nat.le_refl _) | (focus (simp only [World.size_alloc, World.size_setCell, World.size_drew, World.size_drewN]; omega)) | omega | exact Nat.le_refl _ | (focus (simp; done)) | (focus (simp; omega))))).block g hg⟩), ?_⟩
    refine stepT1S rfl rfl (fun K hK => ?_)
    go_wp2
    refine ⟨by rw [HSD.out]; exact (⟨(by repeat (first | (with_reducible refine blk_drew ?_) | (with_reducible refine blk_drewN _ ?_) | ((with_reducible refine blk_new _ ?_); (focus (simp; done))) | (with_reducible refine blk_alloc ?_ _))), (show Below w.heap.size w _ from (by repeat (first | (with_reducible exact Below.refl _ _) | (with_reducible refine Below.setCell ?_ ?_ _) | (with_reducible refine Below.alloc ?_ ?_ _) | (with_reducible refine Below.drewN ?_ _) | (with_reducible refine Below.drew ?_) | (with_reducible exact Nat.le_refl _) | (focus (simp only [World.size_alloc, World.size_setCell, World.size_drew, World.size_drewN]; omega)) | omega | exact Nat.le_refl _ | (focus (simp; done)) | (focus (simp; omega))))).block g hg⟩), ?_⟩
    refine stepT1S rfl rfl (fun K hK => ?_)
    (refine wp_append_reads _ _ _ 22 rfl (w.heap.size + 3) 35 i0 (.agg #[.int .i64 0, .int .i64 0, .int .i64 0, .int .i64 0, .int .i64 0, .int .i64 0, .int .i64 0, .int .i64 0]) 8 64 Try.underlying22 HI.out HZ0.out HZ1.out HZ2.out rfl (by decide) (.slice (some ⟨w.heap.size + 6, 0, none⟩) 0 0) 0 [] rfl (own_of_blk (by repeat (first | (with_reducible refine blk_drew ?_) | (with_reducible refine blk_drewN _ ?_) | ((with_reducible refine blk_new _ ?_); (focus (simp; done))) | (with_reducible refine blk_alloc ?_ _))) (by omega)) (.slice aA la.length cA) la.length (la.flatMap Cmd.row) rfl (reads_of_owns (ownsRow_below HQ.out (by repeat (first | (with_reducible exact Below.refl _ _) | (with_reducible refine Below.setCell ?_ ?_ _) | (with_reducible refine Below.alloc ?_ ?_ _) | (with_reducible refine Below.drewN ?_ _) | (with_reducible refine Below.drew ?_) | (with_reducible exact Nat.le_refl _) | (focus (simp only [World.size_alloc, World.size_setCell, World.size_drew, World.size_drewN]; omega)) | omega | exact Nat.le_refl _ | (focus (simp; done)) | (focus (simp; omega)))))) (Cmd.one la) (by unfold maxLen; omega) (by omega) (by first | omega | (simp; done) | (simp; omega)) ?_; intro v1 w1 hown1 hgrow1 hat1; have hpb1 : w1.heap[w.heap.size]? = some (.cells #[.slice aA la.length cA, .slice (some ⟨g, 0, none⟩) lb.length cB, .bool true, .bool true, .int .i64 1, .int .i64 tm, .int .i64 st] 67 (0, 0)) := (hgrow1.block _ (by first | omega | (simp; done) | (simp; omega)) (by simp [Value.ownBlock])).trans (by repeat (first | (with_reducible refine blk_drew ?_) | (with_reducible refine blk_drewN _ ?_) | ((with_reducible refine blk_new _ ?_); (focus (simp; done))) | (with_reducible refine blk_alloc ?_ _))); have hrb1 : w1.heap[w.heap.size + 2]? = some (.cells #[.slice none 0 0, .slice none 0 0, .bool false, .bool false, .int .i64 0, .int .i64 0, .int .i64 0] 67 (0, 0)) := (hgrow1.block _ (by first | omega | (simp; done) | (simp; omega)) (by simp [Value.ownBlock])).trans (by repeat (first | (with_reducible refine blk_drew ?_) | (with_reducible refine blk_drewN _ ?_) | ((with_reducible refine blk_new _ ?_); (focus (simp; done))) | (with_reducible refine blk_alloc ?_ _))); have hnb1 : w1.heap[w.heap.size + 5]? = some (.cells #[.int .i64 xk, .int .i64 xv, .int .i64 xe, .int .i64 xp, .int .i64 xn, .int .i64 y0, .int .i64 y1, .int .i64 y2] 35 (0, 0)) := (hgrow1.block _ (by first | omega | (simp; done) | (simp; omega)) (by simp [Value.ownBlock])).trans (by repeat (first | (with_reducible refine blk_drew ?_) | (with_reducible refine blk_drewN _ ?_) | ((with_reducible refine blk_new _ ?_); (focus (simp; done))) | (with_reducible refine blk_alloc ?_ _))); have hz1 := hgrow1.size; simp only [World.size_alloc, World.size_drew] at hz1; have HB1 := Lib.hid (show Below w.heap.size w w1 from Below.grown (by repeat (first | (with_reducible exact Below.refl _ _) | (with_reducible refine Below.setCell ?_ ?_ _) | (with_reducible refine Below.alloc ?_ ?_ _) | (with_reducible refine Below.drewN ?_ _) | (with_reducible refine Below.drew ?_) | (with_reducible exact Nat.le_refl _) | (focus (simp only [World.size_alloc, World.size_setCell, World.size_drew, World.size_drewN]; omega)) | omega | exact Nat.le_refl _ | (focus (simp; done)) | (focus (simp; omega)))) hgrow1 (by first | omega | (simp; done) | (simp; omega)) (by simp [Value.ownBlock])); have HG1 := Lib.hid (HB1.out.block g hg); have HO1 := Lib.hid hown1; clear hown1 hgrow1 hat1; go_wp2)
    refine ⟨by rw [HSD.out]; exact (⟨hpb1, HG1.out⟩), ?_⟩
    refine stepT1S rfl rfl (fun K hK => ?_)
    (refine wp_append_lies _ _ _ 22 rfl (w.heap.size + 3) 35 i0 (.agg #[.int .i64 0, .int .i64 0, .int .i64 0, .int .i64 0, .int .i64 0, .int .i64 0, .int .i64 0, .int .i64 0]) 8 64 Try.underlying22 HI.out HZ0.out HZ1.out HZ2.out rfl (by decide) v1 (0 + la.length) ([] ++ la.flatMap Cmd.row) rfl (HO1.out) ⟨w.heap.size + 5, 0, none⟩ 1 1 [.int .i64 xk, .int .i64 xv, .int .i64 xe, .int .i64 xp, .int .i64 xn, .int .i64 y0, .int .i64 y1, .int .i64 y2] rfl rfl (World.news_of_block (cs := #[.int .i64 xk, .int .i64 xv, .int .i64 xe, .int .i64 xp, .int .i64 xn, .int .i64 y0, .int .i64 y1, .int .i64 y2]) (t := 35) (fr := (0, 0)) hnb1) (by simp [Value.oneCell']) (by omega) (by unfold maxLen; omega) (by omega) (by first | omega | (simp; done) | (simp; omega)) _ rfl ?_; intro gg cap2 w2 hown2 hgrow2 hat2 hlt2; have hne : ∀ j, j ≤ 2 → some (w.heap.size + j) ≠ v1.ownBlock := (fun j hj e => by have := (HO1.out.lt _ e.symm).1; omega); have hpb2 : w2.heap[w.heap.size]? = some (.cells #[.slice aA la.length cA, .slice (some ⟨g, 0, none⟩) lb.length cB, .bool true, .bool true, .int .i64 1, .int .i64 tm, .int .i64 st] 67 (0, 0)) := (hgrow2.block _ (by first | omega | (simp; done) | (simp; omega)) (hne 0 (by omega))).trans (hpb1); have hrb2 : w2.heap[w.heap.size + 2]? = some (.cells #[.slice none 0 0, .slice none 0 0, .bool false, .bool false, .int .i64 0, .int .i64 0, .int .i64 0] 67 (0, 0)) := (hgrow2.block _ (by first | omega | (simp; done) | (simp; omega)) (hne 2 (by omega))).trans (hrb1); have hz2 := hgrow2.size; (try simp only [World.size_alloc] at hz2); have HB2 := Lib.hid (show Below w.heap.size w w2 from Below.grown (HB1.out) hgrow2 (by first | omega | (simp; done) | (simp; omega)) (fun k e => by have := (HO1.out.lt _ e).1; omega)); have HG2 := Lib.hid (HB2.out.block g hg); have HO2 := Lib.hid (show w2.ownsRow (w.heap.size + 3) 35 8 (.slice (some ⟨gg, 0, none⟩) (la.length + 1) cap2) (la.length + 1) ((la ++ [Cmd.mk xk xv xe xp xn y0 y1 y2]).flatMap Cmd.row) by simpa [Cmd.row] using hown2); clear hown2 hgrow2 hat2 hne; go_wp2)
    refine ⟨by rw [HSD.out]; exact (⟨hpb2, HG2.out⟩), ?_⟩
    refine stepT1 rfl rfl (by kernel_rfl) (fun K hK => ?_)
    (go_wp2_with fail; refine Calls.mono (rwith_0 _ _ _ _ _ _ _ _ _ _ _ (some ⟨gg, 0, none⟩) (la.length + 1) cap2 (la ++ [Cmd.mk xk xv xe xp xn y0 y1 y2]) _ (reads_of_owns HO2.out) (by omega)) ?_; rintro e w3 ⟨a3, c3, rfl, ho3, hb3⟩; have hz3 := hb3.size; have hpb3 : w3.heap[w.heap.size]? = some (.cells #[.slice aA la.length cA, .slice (some ⟨g, 0, none⟩) lb.length cB, .bool true, .bool true, .int .i64 1, .int .i64 tm, .int .i64 st] 67 (0, 0)) := (hb3.block _ (by omega)).trans hpb2; have hrb3 : w3.heap[w.heap.size + 2]? = some (.cells #[.slice none 0 0, .slice none 0 0, .bool false, .bool false, .int .i64 0, .int .i64 0, .int .i64 0] 67 (0, 0)) := (hb3.block _ (by omega)).trans hrb2; obtain ⟨p30, p31, p32, p33, p34, p35, p36, pf3⟩ := cells7 hpb3; obtain ⟨r30, r31, r32, r33, r34, r35, r36, rf3⟩ := cells7 hrb3; have HPB3 := Lib.hid hpb3; have HRB3 := Lib.hid hrb3; clear hpb3 hrb3;  have HO3 := Lib.hid ho3; have HB3 := Lib.hid (HB2.out.trans (hb3.mono (by omega))); clear ho3 hb3 hpb2 hrb2; go_wp2)
    refine stepT1 rfl rfl (by kernel_rfl) (fun K hK => ?_)
    go_wp2
    try refine stepTnil0 ?_
    clear HSD SS
    go_wp2_with fail
    refine (rsettle_any _ _ _ _ _ _ _ _ _ _ _ _ _).mono ?_
    rintro e w4 ⟨rfl, hb4⟩
    have hz4 := hb4.size
    simp only [World.size_setCell] at hz4
    have hpb4 : w4.heap[w.heap.size]? = some (.cells #[.slice a3 (la.length + 1) c3, .slice (some ⟨g, 0, none⟩) lb.length cB, .bool true, .bool true, .int .i64 1, .int .i64 tm, .int .i64 st] 67 (0, 0)) := (hb4.block _ (by first | omega | (simp; done) | (simp; omega))).trans (store7 HPB3.out _ _ _ _ _ _ _); have hrb4 : w4.heap[w.heap.size + 2]? = some (.cells #[.slice none 0 0, .slice none 0 0, .bool false, .bool false, .int .i64 0, .int .i64 0, .int .i64 0] 67 (0, 0)) := (hb4.block _ (by first | omega | (simp; done) | (simp; omega))).trans (by (repeat ((with_reducible refine blk_set ?_ _ _ ?_); rotate_left; (focus (simp; done)))); exact HRB3.out); obtain ⟨p40, p41, p42, p43, p44, p45, p46, pf4⟩ := cells7 hpb4; obtain ⟨r40, r41, r42, r43, r44, r45, r46, rf4⟩ := cells7 hrb4; have HPB4 := Lib.hid hpb4; have HRB4 := Lib.hid hrb4; clear hpb4 hrb4; 
    have HO4 : Hid (w4.ownsRow w2.heap.size 35 8 (.slice a3 (la.length + 1) c3) (la.length + 1) ((la ++ [Cmd.mk xk xv xe xp xn y0 y1 y2]).flatMap Cmd.row)) := Lib.hid (ownsRow_below (by (repeat ((with_reducible refine ownsRow_setCell_below ?_ ?_ _); rotate_left; (focus (first | (simp; done) | (simp; omega))))); exact HO3.out) hb4)
    have HB4 := Lib.hid (show Below w.heap.size w w4 from Below.trans (by (repeat ((with_reducible refine Below.setCell ?_ ?_ _); rotate_left; (focus (first | (simp; done) | (simp; omega))))); exact HB3.out) (hb4.mono (by first | omega | (simp; done) | (simp; omega))))
    clear hb4
    go_wp2_with fail
    refine bodyPost_ret (v := .tuple #[.agg #[.slice a3 (la.length + 1) c3, .slice (some ⟨g, 0, none⟩) lb.length cB, .bool true, .bool true, .int .i64 1, .int .i64 tm, .int .i64 (max st ((la.length : Int) + 1))], .int .i64 0, .int .i64 0]) ?_ rfl ?_
    · simp [results, Try.results37, go_sem, r40, r41, r42, r43, r44, r45, r46]
    · exact ⟨_, _, rfl, ownsRow_mono (base := w2.heap.size) (by (repeat ((with_reducible refine ownsRow_setCell_below ?_ ?_ _); rotate_left; (focus (first | (simp; done) | (simp; omega))))); exact HO4.out) (by omega), (by (repeat ((with_reducible refine Below.setCell ?_ ?_ _); rotate_left; (focus (first | (simp; done) | (simp; omega))))); exact HB4.out)⟩
end Go.Proofs.Ytigkcbnlbdiimaa

/- corncribref20.Do: falls and rises. -/
namespace Go.Proofs.Ytigkcbnlbdiimaa
open Go.RowKit
set_option maxRecDepth 100000 in
set_option maxHeartbeats 4000000 in
theorem rfall_lead_0 (aA aB : Option Addr) (cA cB : Nat) (la lb : List Cmd)  (tm st t ck cv ce cp cn c0 c1 c2 : Int) (w : World) (ht0 : 0 ≤ tm) (ht1 : tm ≤ 1000000) :
    Calls Try.prog 37 #[.agg #[.slice aA la.length cA, .slice aB lb.length cB, .bool true, .bool true, .int .i64 0, .int .i64 tm, .int .i64 st], .agg #[.int .i64 2, .int .i64 t, .int .i64 0, .int .i64 ck, .int .i64 cv, .int .i64 ce, .int .i64 cp, .int .i64 cn, .int .i64 c0, .int .i64 c1, .int .i64 c2]] w
      fun e w' => e = .returned (.tuple #[.agg #[.slice aA la.length cA, .slice aB lb.length cB, .bool false, .bool true, .int .i64 1, .int .i64 (tm + 1), .int .i64 (max st (lb.length : Int))], .int .i64 0, .int .i64 0]) ∧ Below w.heap.size w w' := by
  go_enter Try.func37, Try.ntmps37
  go_wp2_with fail
  refine wp_region_now0 [1, 3] [(0, 0), (1, 2), (2, 0), (3, 2), (4, 0), (5, 0), (6, 0)] (by kernel_rfl) (by kernel_rfl) rfl (by kernel_rfl) ?_
  refine stepE0 rfl rfl (fun K hK => ?_)
  go_simp
  refine hK _ ?_
  clear hK K
  refine stepE2 rfl rfl ?_ (fun w1 hS => ?_) (fun K hK => ?_)
  rotate_left
  focus (obtain rfl : w1 = _ := hS; go_simp; rfl)
  go_simp
  refine hK _ ?_
  clear hK K
  refine stepE0 rfl rfl (fun K hK => ?_)
  go_simp
  refine hK _ ?_
  clear hK K
  refine stepE2 rfl rfl ?_ (fun w1 hS => ?_) (fun K hK => ?_)
  rotate_left
  focus (obtain rfl : w1 = _ := hS; go_simp; rfl)
  go_simp
  refine hK _ ?_
  clear hK K
  refine stepE0 rfl rfl (fun K hK => ?_)
  go_simp
  refine hK _ ?_
  clear hK K
  refine stepE0 rfl rfl (fun K hK => ?_)
  go_simp
  refine hK _ ?_
  clear hK K
  refine stepE0 rfl rfl (fun K hK => ?_)
  go_simp
  refine hK _ ?_
  clear hK K
  try refine stepEnil0 ?_
  go_wp2_with fail
  obtain ⟨SS, HSD⟩ : ∃ SS : World → Prop, Hid (SS = fun w' => w'.cell? ⟨w.heap.size, 0, none⟩ = some (.slice aA la.length cA) ∧ w'.cell? ⟨w.heap.size, 1, none⟩ = some (.slice aB lb.length cB) ∧ w'.cell? ⟨w.heap.size, 2, none⟩ = some (.bool true) ∧ w'.cell? ⟨w.heap.size, 3, none⟩ = some (.bool true) ∧ w'.cell? ⟨w.heap.size, 4, none⟩ = some (.int .i64 0) ∧ w'.cell? ⟨w.heap.size, 5, none⟩ = some (.int .i64 tm) ∧ w'.cell? ⟨w.heap.size, 6, none⟩ = some (.int .i64 st)) := ⟨_, Lib.hid rfl⟩
  refine wp_region_order0 SS [0, 3] [(0, 2), (1, 0), (3, 2), (4, 0), (2, 1), (5, 1), (6, 0), (7, 0)] (by kernel_rfl) (by kernel_rfl) rfl (by kernel_rfl) ?_ ?_
  focus (rw [HSD.out]; refine ⟨?_, ?_, ?_, ?_, ?_, ?_, ?_⟩ <;> go_simp)
  refine stepE2 rfl rfl ?_ (fun w1 hS => ?_) (fun K hK => ?_)
  rotate_left
  focus (rw [HSD.out] at hS; obtain ⟨s0, s1, s2, s3, s4, s5, s6⟩ := hS; go_simp; rfl)
  go_simp
  refine hK _ ?_
  clear hK K
  refine stepE0 rfl rfl (fun K hK => ?_)
  go_simp
  refine hK _ ?_
  clear hK K
  refine stepE2 rfl rfl ?_ (fun w1 hS => ?_) (fun K hK => ?_)
  rotate_left
  focus (rw [HSD.out] at hS; obtain ⟨s0, s1, s2, s3, s4, s5, s6⟩ := hS; go_simp; rfl)
  go_simp
  refine hK _ ?_
  clear hK K
  refine stepE0 rfl rfl (fun K hK => ?_)
  go_simp
  refine hK _ ?_
  clear hK K
  refine stepE1S rfl rfl (fun K hK => ?_)
  (go_wp2_with fail; refine Calls.mono (rlog_0 _ _ _ _ _ _ _ _ _ _ _ _) ?_; rintro e w2 ⟨rfl, rfl⟩; go_wp2)
  refine ⟨by rw [HSD.out]; exact (by refine ⟨?_, ?_, ?_, ?_, ?_, ?_, ?_⟩ <;> go_simp), ?_⟩
  refine stepE1 rfl rfl (by kernel_rfl) (fun K hK => ?_)
  (go_wp2_with fail; refine Calls.mono (rlog_1 _ _ _ _ _ _ _ _ _ _ _ _) ?_; rintro e w2 ⟨rfl, rfl⟩; go_wp2)
  refine stepE0 rfl rfl (fun K hK => ?_)
  go_simp
  refine hK _ ?_
  clear hK K
  refine stepE0 rfl rfl (fun K hK => ?_)
  go_simp
  refine hK _ ?_
  clear hK K
  try refine stepEnil0 ?_
  clear HSD SS
  go_wp2_with fail
  refine (rsettle_any _ _ _ _ _ _ _ _ _ _ _ _ _).mono ?_
  rintro e w4 ⟨rfl, hb4⟩
  have hz4 := hb4.size
  simp only [World.size_setCell, World.size_alloc, World.size_drew] at hz4
  have hrb4 : w4.heap[w.heap.size + 2]? = some (.cells #[.slice none 0 0, .slice none 0 0, .bool false, .bool false, .int .i64 0, .int .i64 0, .int .i64 0] 67 (0, 0)) := (hb4.block _ (by first | omega | (simp; done) | (simp; omega))).trans (by repeat (first | (with_reducible refine blk_drew ?_) | (with_reducible refine blk_drewN _ ?_) | ((with_reducible refine blk_new _ ?_); (focus (simp; done))) | (with_reducible refine blk_alloc ?_ _)))
  obtain ⟨r40, r41, r42, r43, r44, r45, r46, rf4⟩ := cells7 hrb4
  have HB4 := Lib.hid (show Below w.heap.size w w4 from Below.trans (by repeat (first | (with_reducible exact Below.refl _ _) | (with_reducible refine Below.setCell ?_ ?_ _) | (with_reducible refine Below.alloc ?_ ?_ _) | (with_reducible refine Below.drewN ?_ _) | (with_reducible refine Below.drew ?_) | (with_reducible exact Nat.le_refl _) | (focus (simp only [World.size_alloc, World.size_setCell, World.size_drew, World.size_drewN]; omega)) | omega | exact Nat.le_refl _ | (focus (simp; done)) | (focus (simp; omega)))) (hb4.mono (by first | omega | (simp; done) | (simp; omega))))
  clear hb4 hrb4
  go_wp2_with fail
  refine bodyPost_ret (v := .tuple #[.agg #[.slice aA la.length cA, .slice aB lb.length cB, .bool false, .bool true, .int .i64 1, .int .i64 (tm + 1), .int .i64 (max st (lb.length : Int))], .int .i64 0, .int .i64 0]) ?_ rfl ?_
  · simp [results, Try.results37, go_sem, r40, r41, r42, r43, r44, r45, r46]
  · exact ⟨rfl, (by (repeat ((with_reducible refine Below.setCell ?_ ?_ _); rotate_left; (focus (first | (simp; done) | (simp; omega))))); exact HB4.out)⟩
set_option maxRecDepth 100000 in
set_option maxHeartbeats 4000000 in
theorem rfall_last_0 (aA aB : Option Addr) (cA cB : Nat) (la lb : List Cmd)  (tm st t ck cv ce cp cn c0 c1 c2 : Int) (w : World) (ht0 : 0 ≤ tm) (ht1 : tm ≤ 1000000) :
    Calls Try.prog 37 #[.agg #[.slice aA la.length cA, .slice aB lb.length cB, .bool true, .bool false, .int .i64 0, .int .i64 tm, .int .i64 st], .agg #[.int .i64 2, .int .i64 t, .int .i64 0, .int .i64 ck, .int .i64 cv, .int .i64 ce, .int .i64 cp, .int .i64 cn, .int .i64 c0, .int .i64 c1, .int .i64 c2]] w
      fun e w' => e = .returned (.tuple #[.agg #[.slice aA la.length cA, .slice aB lb.length cB, .bool false, .bool false, .int .i64 0, .int .i64 tm, .int .i64 st], .int .i64 0, .int .i64 0]) ∧ Below w.heap.size w w' := by
  go_enter Try.func37, Try.ntmps37
  go_wp2_with fail
  refine wp_region_now0 [1, 3] [(0, 0), (1, 2), (2, 0), (3, 2), (4, 0), (5, 0), (6, 0)] (by kernel_rfl) (by kernel_rfl) rfl (by kernel_rfl) ?_
  refine stepE0 rfl rfl (fun K hK => ?_)
  go_simp
  refine hK _ ?_
  clear hK K
  refine stepE2 rfl rfl ?_ (fun w1 hS => ?_) (fun K hK => ?_)
  rotate_left
  focus (obtain rfl : w1 = _ := hS; go_simp; rfl)
  go_simp
  refine hK _ ?_
  clear hK K
  refine stepE0 rfl rfl (fun K hK => ?_)
  go_simp
  refine hK _ ?_
  clear hK K
  refine stepE2 rfl rfl ?_ (fun w1 hS => ?_) (fun K hK => ?_)
  rotate_left
  focus (obtain rfl : w1 = _ := hS; go_simp; rfl)
  go_simp
  refine hK _ ?_
  clear hK K
  refine stepE0 rfl rfl (fun K hK => ?_)
  go_simp
  refine hK _ ?_
  clear hK K
  refine stepE0 rfl rfl (fun K hK => ?_)
  go_simp
  refine hK _ ?_
  clear hK K
  refine stepE0 rfl rfl (fun K hK => ?_)
  go_simp
  refine hK _ ?_
  clear hK K
  try refine stepEnil0 ?_
  go_wp2_with fail
  obtain ⟨SS, HSD⟩ : ∃ SS : World → Prop, Hid (SS = fun w' => w'.cell? ⟨w.heap.size, 0, none⟩ = some (.slice aA la.length cA) ∧ w'.cell? ⟨w.heap.size, 1, none⟩ = some (.slice aB lb.length cB) ∧ w'.cell? ⟨w.heap.size, 2, none⟩ = some (.bool true) ∧ w'.cell? ⟨w.heap.size, 3, none⟩ = some (.bool false) ∧ w'.cell? ⟨w.heap.size, 4, none⟩ = some (.int .i64 0) ∧ w'.cell? ⟨w.heap.size, 5, none⟩ = some (.int .i64 tm) ∧ w'.cell? ⟨w.heap.size, 6, none⟩ = some (.int .i64 st)) := ⟨_, Lib.hid rfl⟩
  refine wp_region_order0 SS [0, 3] [(0, 2), (1, 0), (3, 2), (4, 0), (2, 1), (5, 1), (6, 0), (7, 0)] (by kernel_rfl) (by kernel_rfl) rfl (by kernel_rfl) ?_ ?_
  focus (rw [HSD.out]; refine ⟨?_, ?_, ?_, ?_, ?_, ?_, ?_⟩ <;> go_simp)
  refine stepE2 rfl rfl ?_ (fun w1 hS => ?_) (fun K hK => ?_)
  rotate_left
  focus (rw [HSD.out] at hS; obtain ⟨s0, s1, s2, s3, s4, s5, s6⟩ := hS; go_simp; rfl)
  go_simp
  refine hK _ ?_
  clear hK K
  refine stepE0 rfl rfl (fun K hK => ?_)
  go_simp
  refine hK _ ?_
  clear hK K
  refine stepE2 rfl rfl ?_ (fun w1 hS => ?_) (fun K hK => ?_)
  rotate_left
  focus (rw [HSD.out] at hS; obtain ⟨s0, s1, s2, s3, s4, s5, s6⟩ := hS; go_simp; rfl)
  go_simp
  refine hK _ ?_
  clear hK K
  refine stepE0 rfl rfl (fun K hK => ?_)
  go_simp
  refine hK _ ?_
  clear hK K
  refine stepE1S rfl rfl (fun K hK => ?_)
  (go_wp2_with fail; refine Calls.mono (rlog_0 _ _ _ _ _ _ _ _ _ _ _ _) ?_; rintro e w2 ⟨rfl, rfl⟩; go_wp2)
  refine ⟨by rw [HSD.out]; exact (by refine ⟨?_, ?_, ?_, ?_, ?_, ?_, ?_⟩ <;> go_simp), ?_⟩
  refine stepE1 rfl rfl (by kernel_rfl) (fun K hK => ?_)
  (go_wp2_with fail; refine Calls.mono (rlog_1 _ _ _ _ _ _ _ _ _ _ _ _) ?_; rintro e w2 ⟨rfl, rfl⟩; go_wp2)
  refine stepE0 rfl rfl (fun K hK => ?_)
  go_simp
  refine hK _ ?_
  clear hK K
  refine stepE0 rfl rfl (fun K hK => ?_)
  go_simp
  refine hK _ ?_
  clear hK K
  try refine stepEnil0 ?_
  clear HSD SS
  go_wp2_with fail
  refine bodyPost_ret (v := .tuple #[.agg #[.slice aA la.length cA, .slice aB lb.length cB, .bool false, .bool false, .int .i64 0, .int .i64 tm, .int .i64 st], .int .i64 0, .int .i64 0]) ?_ rfl ?_
  · simp [results, Try.results37, go_sem]
  · exact ⟨rfl, (by repeat (first | (with_reducible exact Below.refl _ _) | (with_reducible refine Below.setCell ?_ ?_ _) | (with_reducible refine Below.alloc ?_ ?_ _) | (with_reducible refine Below.drewN ?_ _) | (with_reducible refine Below.drew ?_) | (with_reducible exact Nat.le_refl _) | (focus (simp only [World.size_alloc, World.size_setCell, World.size_drew, World.size_drewN]; omega)) | omega | exact Nat.le_refl _ | (focus (simp; done)) | (focus (simp; omega))))⟩
set_option maxRecDepth 100000 in
set_option maxHeartbeats 4000000 in
theorem rfall_other_0 (aA aB : Option Addr) (cA cB : Nat) (la lb : List Cmd)  (tm st t ck cv ce cp cn c0 c1 c2 : Int) (w : World) (ht0 : 0 ≤ tm) (ht1 : tm ≤ 1000000) :
    Calls Try.prog 37 #[.agg #[.slice aA la.length cA, .slice aB lb.length cB, .bool true, .bool true, .int .i64 0, .int .i64 tm, .int .i64 st], .agg #[.int .i64 2, .int .i64 t, .int .i64 1, .int .i64 ck, .int .i64 cv, .int .i64 ce, .int .i64 cp, .int .i64 cn, .int .i64 c0, .int .i64 c1, .int .i64 c2]] w
      fun e w' => e = .returned (.tuple #[.agg #[.slice aA la.length cA, .slice aB lb.length cB, .bool true, .bool false, .int .i64 0, .int .i64 tm, .int .i64 (max st (la.length : Int))], .int .i64 0, .int .i64 0]) ∧ Below w.heap.size w w' := by
  go_enter Try.func37, Try.ntmps37
  go_wp2_with fail
  refine wp_region_now0 [1, 3] [(0, 0), (1, 2), (2, 0), (3, 2), (4, 0), (5, 0), (6, 0)] (by kernel_rfl) (by kernel_rfl) rfl (by kernel_rfl) ?_
  refine stepE0 rfl rfl (fun K hK => ?_)
  go_simp
  refine hK _ ?_
  clear hK K
  refine stepE2 rfl rfl ?_ (fun w1 hS => ?_) (fun K hK => ?_)
  rotate_left
  focus (obtain rfl : w1 = _ := hS; go_simp; rfl)
  go_simp
  refine hK _ ?_
  clear hK K
  refine stepE0 rfl rfl (fun K hK => ?_)
  go_simp
  refine hK _ ?_
  clear hK K
  refine stepE2 rfl rfl ?_ (fun w1 hS => ?_) (fun K hK => ?_)
  rotate_left
  focus (obtain rfl : w1 = _ := hS; go_simp; rfl)
  go_simp
  refine hK _ ?_
  clear hK K
  refine stepE0 rfl rfl (fun K hK => ?_)
  go_simp
  refine hK _ ?_
  clear hK K
  refine stepE0 rfl rfl (fun K hK => ?_)
  go_simp
  refine hK _ ?_
  clear hK K
  refine stepE0 rfl rfl (fun K hK => ?_)
  go_simp
  refine hK _ ?_
  clear hK K
  try refine stepEnil0 ?_
  go_wp2_with fail
  obtain ⟨SS, HSD⟩ : ∃ SS : World → Prop, Hid (SS = fun w' => w'.cell? ⟨w.heap.size, 0, none⟩ = some (.slice aA la.length cA) ∧ w'.cell? ⟨w.heap.size, 1, none⟩ = some (.slice aB lb.length cB) ∧ w'.cell? ⟨w.heap.size, 2, none⟩ = some (.bool true) ∧ w'.cell? ⟨w.heap.size, 3, none⟩ = some (.bool true) ∧ w'.cell? ⟨w.heap.size, 4, none⟩ = some (.int .i64 0) ∧ w'.cell? ⟨w.heap.size, 5, none⟩ = some (.int .i64 tm) ∧ w'.cell? ⟨w.heap.size, 6, none⟩ = some (.int .i64 st)) := ⟨_, Lib.hid rfl⟩
  refine wp_region_order0 SS [0, 3] [(0, 2), (1, 0), (3, 2), (4, 0), (2, 1), (5, 1), (6, 0), (7, 0)] (by kernel_rfl) (by kernel_rfl) rfl (by kernel_rfl) ?_ ?_
  focus (rw [HSD.out]; refine ⟨?_, ?_, ?_, ?_, ?_, ?_, ?_⟩ <;> go_simp)
  refine stepE2 rfl rfl ?_ (fun w1 hS => ?_) (fun K hK => ?_)
  rotate_left
  focus (rw [HSD.out] at hS; obtain ⟨s0, s1, s2, s3, s4, s5, s6⟩ := hS; go_simp; rfl)
  go_simp
  refine hK _ ?_
  clear hK K
  refine stepE0 rfl rfl (fun K hK => ?_)
  go_simp
  refine hK _ ?_
  clear hK K
  refine stepE2 rfl rfl ?_ (fun w1 hS => ?_) (fun K hK => ?_)
  rotate_left
  focus (rw [HSD.out] at hS; obtain ⟨s0, s1, s2, s3, s4, s5, s6⟩ := hS; go_simp; rfl)
  go_simp
  refine hK _ ?_
  clear hK K
  refine stepE0 rfl rfl (fun K hK => ?_)
  go_simp
  refine hK _ ?_
  clear hK K
  refine stepE1S rfl rfl (fun K hK => ?_)
  (go_wp2_with fail; refine Calls.mono (rlog_0 _ _ _ _ _ _ _ _ _ _ _ _) ?_; rintro e w2 ⟨rfl, rfl⟩; go_wp2)
  refine ⟨by rw [HSD.out]; exact (by refine ⟨?_, ?_, ?_, ?_, ?_, ?_, ?_⟩ <;> go_simp), ?_⟩
  refine stepE1 rfl rfl (by kernel_rfl) (fun K hK => ?_)
  (go_wp2_with fail; refine Calls.mono (rlog_1 _ _ _ _ _ _ _ _ _ _ _ _) ?_; rintro e w2 ⟨rfl, rfl⟩; go_wp2)
  refine stepE0 rfl rfl (fun K hK => ?_)
  go_simp
  refine hK _ ?_
  clear hK K
  refine stepE0 rfl rfl (fun K hK => ?_)
  go_simp
  refine hK _ ?_
  clear hK K
  try refine stepEnil0 ?_
  clear HSD SS
  go_wp2_with fail
  refine (rsettle_any _ _ _ _ _ _ _ _ _ _ _ _ _).mono ?_
  rintro e w4 ⟨rfl, hb4⟩
  have hz4 := hb4.size
  simp only [World.size_setCell, World.size_alloc, World.size_drew] at hz4
  have hrb4 : w4.heap[w.heap.size + 2]? = some (.cells #[.slice none 0 0, .slice none 0 0, .bool false, .bool false, .int .i64 0, .int .i64 0, .int .i64 0] 67 (0, 0)) := (hb4.block _ (by first | omega | (simp; done) | (simp; omega))).trans (by repeat (first | (with_reducible refine blk_drew ?_) | (with_reducible refine blk_drewN _ ?_) | ((with_reducible refine blk_new _ ?_); (focus (simp; done))) | (with_reducible refine blk_alloc ?_ _)))
  obtain ⟨r40, r41, r42, r43, r44, r45, r46, rf4⟩ := cells7 hrb4
  have HB4 := Lib.hid (show Below w.heap.size w w4 from Below.trans (by repeat (first | (with_reducible exact Below.refl _ _) | (with_reducible refine Below.setCell ?_ ?_ _) | (with_reducible refine Below.alloc ?_ ?_ _) | (with_reducible refine Below.drewN ?_ _) | (with_reducible refine Below.drew ?_) | (with_reducible exact Nat.le_refl _) | (focus (simp only [World.size_alloc, World.size_setCell, World.size_drew, World.size_drewN]; omega)) | omega | exact Nat.le_refl _ | (focus (simp; done)) | (focus (simp; omega)))) (hb4.mono (by first | omega | (simp; done) | (simp; omega))))
  clear hb4 hrb4
  go_wp2_with fail
  refine bodyPost_ret (v := .tuple #[.agg #[.slice aA la.length cA, .slice aB lb.length cB, .bool true, .bool false, .int .i64 0, .int .i64 tm, .int .i64 (max st (la.length : Int))], .int .i64 0, .int .i64 0]) ?_ rfl ?_
  · simp [results, Try.results37, go_sem, r40, r41, r42, r43, r44, r45, r46]
  · exact ⟨rfl, (by (repeat ((with_reducible refine Below.setCell ?_ ?_ _); rotate_left; (focus (first | (simp; done) | (simp; omega))))); exact HB4.out)⟩
set_option maxRecDepth 100000 in
set_option maxHeartbeats 4000000 in
theorem rrise_lead_0 (aA aB : Option Addr) (cA cB : Nat) (la lb : List Cmd)  (tm st t ck cv ce cp cn c0 c1 c2 : Int) (w : World) (ht0 : 0 ≤ tm) (ht1 : tm ≤ 1000000) :
    Calls Try.prog 37 #[.agg #[.slice aA la.length cA, .slice aB lb.length cB, .bool false, .bool false, .int .i64 0, .int .i64 tm, .int .i64 st], .agg #[.int .i64 3, .int .i64 t, .int .i64 0, .int .i64 ck, .int .i64 cv, .int .i64 ce, .int .i64 cp, .int .i64 cn, .int .i64 c0, .int .i64 c1, .int .i64 c2]] w
      fun e w' => e = .returned (.tuple #[.agg #[.slice aA la.length cA, .slice aB lb.length cB, .bool true, .bool false, .int .i64 0, .int .i64 (tm + 1), .int .i64 (max st (la.length : Int))], .int .i64 0, .int .i64 0]) ∧ Below w.heap.size w w' := by
  go_enter Try.func37, Try.ntmps37
  go_wp2_with fail
  refine wp_region_now0 [1, 3] [(0, 0), (1, 2), (2, 0), (3, 2), (4, 0), (5, 0), (6, 0)] (by kernel_rfl) (by kernel_rfl) rfl (by kernel_rfl) ?_
  refine stepE0 rfl rfl (fun K hK => ?_)
  go_simp
  refine hK _ ?_
  clear hK K
  refine stepE2 rfl rfl ?_ (fun w1 hS => ?_) (fun K hK => ?_)
  rotate_left
  focus (obtain rfl : w1 = _ := hS; go_simp; rfl)
  go_simp
  refine hK _ ?_
  clear hK K
  refine stepE0 rfl rfl (fun K hK => ?_)
  go_simp
  refine hK _ ?_
  clear hK K
  refine stepE2 rfl rfl ?_ (fun w1 hS => ?_) (fun K hK => ?_)
  rotate_left
  focus (obtain rfl : w1 = _ := hS; go_simp; rfl)
  go_simp
  refine hK _ ?_
  clear hK K
  refine stepE0 rfl rfl (fun K hK => ?_)
  go_simp
  refine hK _ ?_
  clear hK K
  refine stepE0 rfl rfl (fun K hK => ?_)
  go_simp
  refine hK _ ?_
  clear hK K
  refine stepE0 rfl rfl (fun K hK => ?_)
  go_simp
  refine hK _ ?_
  clear hK K
  try refine stepEnil0 ?_
  go_wp2_with fail
  obtain ⟨SS, HSD⟩ : ∃ SS : World → Prop, Hid (SS = fun w' => w'.cell? ⟨w.heap.size, 0, none⟩ = some (.slice aA la.length cA) ∧ w'.cell? ⟨w.heap.size, 1, none⟩ = some (.slice aB lb.length cB) ∧ w'.cell? ⟨w.heap.size, 2, none⟩ = some (.bool false) ∧ w'.cell? ⟨w.heap.size, 3, none⟩ = some (.bool false) ∧ w'.cell? ⟨w.heap.size, 4, none⟩ = some (.int .i64 0) ∧ w'.cell? ⟨w.heap.size, 5, none⟩ = some (.int .i64 tm) ∧ w'.cell? ⟨w.heap.size, 6, none⟩ = some (.int .i64 st)) := ⟨_, Lib.hid rfl⟩
  refine wp_region_order0 SS [0, 3] [(0, 2), (1, 0), (3, 2), (4, 0), (2, 1), (5, 1), (6, 0), (7, 0)] (by kernel_rfl) (by kernel_rfl) rfl (by kernel_rfl) ?_ ?_
  focus (rw [HSD.out]; refine ⟨?_, ?_, ?_, ?_, ?_, ?_, ?_⟩ <;> go_simp)
  refine stepE2 rfl rfl ?_ (fun w1 hS => ?_) (fun K hK => ?_)
  rotate_left
  focus (rw [HSD.out] at hS; obtain ⟨s0, s1, s2, s3, s4, s5, s6⟩ := hS; go_simp; rfl)
  go_simp
  refine hK _ ?_
  clear hK K
  refine stepE0 rfl rfl (fun K hK => ?_)
  go_simp
  refine hK _ ?_
  clear hK K
  refine stepE2 rfl rfl ?_ (fun w1 hS => ?_) (fun K hK => ?_)
  rotate_left
  focus (rw [HSD.out] at hS; obtain ⟨s0, s1, s2, s3, s4, s5, s6⟩ := hS; go_simp; rfl)
  go_simp
  refine hK _ ?_
  clear hK K
  refine stepE0 rfl rfl (fun K hK => ?_)
  go_simp
  refine hK _ ?_
  clear hK K
  refine stepE1S rfl rfl (fun K hK => ?_)
  (go_wp2_with fail; refine Calls.mono (rlog_0 _ _ _ _ _ _ _ _ _ _ _ _) ?_; rintro e w2 ⟨rfl, rfl⟩; go_wp2)
  refine ⟨by rw [HSD.out]; exact (by refine ⟨?_, ?_, ?_, ?_, ?_, ?_, ?_⟩ <;> go_simp), ?_⟩
  refine stepE1 rfl rfl (by kernel_rfl) (fun K hK => ?_)
  (go_wp2_with fail; refine Calls.mono (rlog_1 _ _ _ _ _ _ _ _ _ _ _ _) ?_; rintro e w2 ⟨rfl, rfl⟩; go_wp2)
  refine stepE0 rfl rfl (fun K hK => ?_)
  go_simp
  refine hK _ ?_
  clear hK K
  refine stepE0 rfl rfl (fun K hK => ?_)
  go_simp
  refine hK _ ?_
  clear hK K
  try refine stepEnil0 ?_
  clear HSD SS
  go_wp2_with fail
  refine (rsettle_any _ _ _ _ _ _ _ _ _ _ _ _ _).mono ?_
  rintro e w4 ⟨rfl, hb4⟩
  have hz4 := hb4.size
  simp only [World.size_setCell, World.size_alloc, World.size_drew] at hz4
  have hrb4 : w4.heap[w.heap.size + 2]? = some (.cells #[.slice none 0 0, .slice none 0 0, .bool false, .bool false, .int .i64 0, .int .i64 0, .int .i64 0] 67 (0, 0)) := (hb4.block _ (by first | omega | (simp; done) | (simp; omega))).trans (by repeat (first | (with_reducible refine blk_drew ?_) | (with_reducible refine blk_drewN _ ?_) | ((with_reducible refine blk_new _ ?_); (focus (simp; done))) | (with_reducible refine blk_alloc ?_ _)))
  obtain ⟨r40, r41, r42, r43, r44, r45, r46, rf4⟩ := cells7 hrb4
  have HB4 := Lib.hid (show Below w.heap.size w w4 from Below.trans (by repeat (first | (with_reducible exact Below.refl _ _) | (with_reducible refine Below.setCell ?_ ?_ _) | (with_reducible refine Below.alloc ?_ ?_ _) | (with_reducible refine Below.drewN ?_ _) | (with_reducible refine Below.drew ?_) | (with_reducible exact Nat.le_refl _) | (focus (simp only [World.size_alloc, World.size_setCell, World.size_drew, World.size_drewN]; omega)) | omega | exact Nat.le_refl _ | (focus (simp; done)) | (focus (simp; omega)))) (hb4.mono (by first | omega | (simp; done) | (simp; omega))))
  clear hb4 hrb4
  go_wp2_with fail
  refine bodyPost_ret (v := .tuple #[.agg #[.slice aA la.length cA, .slice aB lb.length cB, .bool true, .bool false, .int .i64 0, .int .i64 (tm + 1), .int .i64 (max st (la.length : Int))], .int .i64 0, .int .i64 0]) ?_ rfl ?_
  · simp [results, Try.results37, go_sem, r40, r41, r42, r43, r44, r45, r46]
  · exact ⟨rfl, (by (repeat ((with_reducible refine Below.setCell ?_ ?_ _); rotate_left; (focus (first | (simp; done) | (simp; omega))))); exact HB4.out)⟩
set_option maxRecDepth 100000 in
set_option maxHeartbeats 4000000 in
theorem rrise_other_0 (aA aB : Option Addr) (cA cB : Nat) (la lb : List Cmd)  (tm st t ck cv ce cp cn c0 c1 c2 : Int) (w : World) (base : Nat) (hr : w.ownsRow base 35 8 (.slice aA la.length cA) la.length (la.flatMap Cmd.row)) (hlen : la.length ≤ 1000) :
    Calls Try.prog 37 #[.agg #[.slice aA la.length cA, .slice aB lb.length cB, .bool true, .bool false, .int .i64 0, .int .i64 tm, .int .i64 st], .agg #[.int .i64 3, .int .i64 t, .int .i64 1, .int .i64 ck, .int .i64 cv, .int .i64 ce, .int .i64 cp, .int .i64 cn, .int .i64 c0, .int .i64 c1, .int .i64 c2]] w
      fun e w' => ∃ a' c', e = .returned (.tuple #[.agg #[.slice aA la.length cA, .slice a' la.length c', .bool true, .bool true, .int .i64 0, .int .i64 tm, .int .i64 st], .int .i64 0, .int .i64 0]) ∧ w'.ownsRow w.heap.size 35 8 (.slice a' la.length c') la.length (la.flatMap Cmd.row) ∧ Below w.heap.size w w' := by
  have HR := Lib.hid hr
  clear hr
  go_enter Try.func37, Try.ntmps37
  go_wp2_with fail
  refine wp_region_now0 [1, 3] [(0, 0), (1, 2), (2, 0), (3, 2), (4, 0), (5, 0), (6, 0)] (by kernel_rfl) (by kernel_rfl) rfl (by kernel_rfl) ?_
  refine stepE0 rfl rfl (fun K hK => ?_)
  go_simp
  refine hK _ ?_
  clear hK K
  refine stepE2 rfl rfl ?_ (fun w1 hS => ?_) (fun K hK => ?_)
  rotate_left
  focus (obtain rfl : w1 = _ := hS; go_simp; rfl)
  go_simp
  refine hK _ ?_
  clear hK K
  refine stepE0 rfl rfl (fun K hK => ?_)
  go_simp
  refine hK _ ?_
  clear hK K
  refine stepE2 rfl rfl ?_ (fun w1 hS => ?_) (fun K hK => ?_)
  rotate_left
  focus (obtain rfl : w1 = _ := hS; go_simp; rfl)
  go_simp
  refine hK _ ?_
  clear hK K
  refine stepE0 rfl rfl (fun K hK => ?_)
  go_simp
  refine hK _ ?_
  clear hK K
  refine stepE0 rfl rfl (fun K hK => ?_)
  go_simp
  refine hK _ ?_
  clear hK K
  refine stepE0 rfl rfl (fun K hK => ?_)
  go_simp
  refine hK _ ?_
  clear hK K
  try refine stepEnil0 ?_
  go_wp2_with fail
  obtain ⟨SS, HSD⟩ : ∃ SS : World → Prop, Hid (SS = fun w' => w'.cell? ⟨w.heap.size, 0, none⟩ = some (.slice aA la.length cA) ∧ w'.cell? ⟨w.heap.size, 1, none⟩ = some (.slice aB lb.length cB) ∧ w'.cell? ⟨w.heap.size, 2, none⟩ = some (.bool true) ∧ w'.cell? ⟨w.heap.size, 3, none⟩ = some (.bool false) ∧ w'.cell? ⟨w.heap.size, 4, none⟩ = some (.int .i64 0) ∧ w'.cell? ⟨w.heap.size, 5, none⟩ = some (.int .i64 tm) ∧ w'.cell? ⟨w.heap.size, 6, none⟩ = some (.int .i64 st)) := ⟨_, Lib.hid rfl⟩
  refine wp_region_order0 SS [0, 3] [(0, 2), (1, 0), (3, 2), (4, 0), (2, 1), (5, 1), (6, 0), (7, 0)] (by kernel_rfl) (by kernel_rfl) rfl (by kernel_rfl) ?_ ?_
  focus (rw [HSD.out]; refine ⟨?_, ?_, ?_, ?_, ?_, ?_, ?_⟩ <;> go_simp)
  refine stepE2 rfl rfl ?_ (fun w1 hS => ?_) (fun K hK => ?_)
  rotate_left
  focus (rw [HSD.out] at hS; obtain ⟨s0, s1, s2, s3, s4, s5, s6⟩ := hS; go_simp; rfl)
  go_simp
  refine hK _ ?_
  clear hK K
  refine stepE0 rfl rfl (fun K hK => ?_)
  go_simp
  refine hK _ ?_
  clear hK K
  refine stepE2 rfl rfl ?_ (fun w1 hS => ?_) (fun K hK => ?_)
  rotate_left
  focus (rw [HSD.out] at hS; obtain ⟨s0, s1, s2, s3, s4, s5, s6⟩ := hS; go_simp; rfl)
  go_simp
  refine hK _ ?_
  clear hK K
  refine stepE0 rfl rfl (fun K hK => ?_)
  go_simp
  refine hK _ ?_
  clear hK K
  refine stepE1S rfl rfl (fun K hK => ?_)
  (go_wp2_with fail; refine Calls.mono (rlog_0 _ _ _ _ _ _ _ _ _ _ _ _) ?_; rintro e w2 ⟨rfl, rfl⟩; go_wp2)
  refine ⟨by rw [HSD.out]; exact (by refine ⟨?_, ?_, ?_, ?_, ?_, ?_, ?_⟩ <;> go_simp), ?_⟩
  refine stepE1 rfl rfl (by kernel_rfl) (fun K hK => ?_)
  (go_wp2_with fail; refine Calls.mono (rlog_1 _ _ _ _ _ _ _ _ _ _ _ _) ?_; rintro e w2 ⟨rfl, rfl⟩; go_wp2)
  refine stepE0 rfl rfl (fun K hK => ?_)
  go_simp
  refine hK _ ?_
  clear hK K
  refine stepE0 rfl rfl (fun K hK => ?_)
  go_simp
  refine hK _ ?_
  clear hK K
  try refine stepEnil0 ?_
  clear HSD SS
  go_wp2_with fail
  obtain ⟨SS, HSD⟩ : ∃ SS : World → Prop, Hid (SS = fun w' => w'.heap[w.heap.size]? = some (.cells #[.slice aA la.length cA, .slice aB lb.length cB, .bool true, .bool true, .int .i64 0, .int .i64 tm, .int .i64 st] 67 (0, 0)) ∧ w'.heap[w.heap.size + 1]? = some (.cells #[.int .i64 3, .int .i64 t, .int .i64 1, .int .i64 ck, .int .i64 cv, .int .i64 ce, .int .i64 cp, .int .i64 cn, .int .i64 c0, .int .i64 c1, .int .i64 c2] 55 (0, 0))) := ⟨_, Lib.hid rfl⟩
  refine wp_region_order0 SS [0, 2, 3, 5] [(0, 2), (1, 0), (2, 2), (3, 2), (4, 0), (5, 2), (6, 0), (7, 1), (8, 1), (9, 1), (10, 0), (11, 0)] (by kernel_rfl) (by kernel_rfl) rfl (by kernel_rfl) ?_ ?_
  focus (rw [HSD.out]; exact ⟨(by repeat (first | (with_reducible refine blk_drew ?_) | (with_reducible refine blk_drewN _ ?_) | ((with_reducible refine blk_new _ ?_); (focus (simp; done))) | (with_reducible refine blk_alloc ?_ _))), (by repeat (first | (with_reducible refine blk_drew ?_) | (with_reducible refine blk_drewN _ ?_) | ((with_reducible refine blk_new _ ?_); (focus (simp; done))) | (with_reducible refine blk_alloc ?_ _)))⟩)
  refine stepE2 rfl rfl ?_ (fun w1 hS => ?_) (fun K hK => ?_)
  rotate_left
  focus (rw [HSD.out] at hS; obtain ⟨sp, sa⟩ := hS; obtain ⟨s0, s1, s2, s3, s4, s5, s6, -⟩ := cells7 sp; obtain ⟨t0, t1, t2, t3, t4, t5, t6, t7, t8, t9, t10⟩ := cells11 sa; go_simp; rfl)
  go_simp
  refine hK _ ?_
  clear hK K
  refine stepE0 rfl rfl (fun K hK => ?_)
  go_simp
  refine hK _ ?_
  clear hK K
  refine stepE2 rfl rfl ?_ (fun w1 hS => ?_) (fun K hK => ?_)
  rotate_left
  focus (rw [HSD.out] at hS; obtain ⟨sp, sa⟩ := hS; obtain ⟨s0, s1, s2, s3, s4, s5, s6, -⟩ := cells7 sp; obtain ⟨t0, t1, t2, t3, t4, t5, t6, t7, t8, t9, t10⟩ := cells11 sa; go_simp; rfl)
  go_simp
  refine hK _ ?_
  clear hK K
  refine stepE2 rfl rfl ?_ (fun w1 hS => ?_) (fun K hK => ?_)
  rotate_left
  focus (rw [HSD.out] at hS; obtain ⟨sp, sa⟩ := hS; obtain ⟨s0, s1, s2, s3, s4, s5, s6, -⟩ := cells7 sp; obtain ⟨t0, t1, t2, t3, t4, t5, t6, t7, t8, t9, t10⟩ := cells11 sa; go_simp; rfl)
  go_simp
  refine hK _ ?_
  clear hK K
  refine stepE0 rfl rfl (fun K hK => ?_)
  go_simp
  refine hK _ ?_
  clear hK K
  refine stepE2 rfl rfl ?_ (fun w1 hS => ?_) (fun K hK => ?_)
  rotate_left
  focus (rw [HSD.out] at hS; obtain ⟨sp, sa⟩ := hS; obtain ⟨s0, s1, s2, s3, s4, s5, s6, -⟩ := cells7 sp; obtain ⟨t0, t1, t2, t3, t4, t5, t6, t7, t8, t9, t10⟩ := cells11 sa; go_simp; rfl)
  go_simp
  refine hK _ ?_
  clear hK K
  refine stepE0 rfl rfl (fun K hK => ?_)
  go_simp
  refine hK _ ?_
  clear hK K
  refine stepE1S rfl rfl (fun K hK => ?_)
  (go_wp2_with fail; refine Calls.mono (rlog_0 _ _ _ _ _ _ _ _ _ _ _ _) ?_; rintro e w2 ⟨rfl, rfl⟩; go_wp2)
  refine ⟨by rw [HSD.out]; exact (⟨(by repeat (first | (with_reducible refine blk_drew ?_) | (with_reducible refine blk_drewN _ ?_) | ((with_reducible refine blk_new _ ?_); (focus (simp; done))) | (with_reducible refine blk_alloc ?_ _))), (by repeat (first | (with_reducible refine blk_drew ?_) | (with_reducible refine blk_drewN _ ?_) | ((with_reducible refine blk_new _ ?_); (focus (simp; done))) | (with_reducible refine blk_alloc ?_ _)))⟩), ?_⟩
  refine stepE1 rfl rfl (by kernel_rfl) (fun K hK => ?_)
  (go_wp2_with fail; refine Calls.mono (rwith_1 _ _ _ _ _ _ _ _ _ _ _ aA la.length cA la _ (reads_of_owns (ownsRow_below HR.out (by repeat (first | (with_reducible exact Below.refl _ _) | (with_reducible refine Below.setCell ?_ ?_ _) | (with_reducible refine Below.alloc ?_ ?_ _) | (with_reducible refine Below.drewN ?_ _) | (with_reducible refine Below.drew ?_) | (with_reducible exact Nat.le_refl _) | (focus (simp only [World.size_alloc, World.size_setCell, World.size_drew, World.size_drewN]; omega)) | omega | exact Nat.le_refl _ | (focus (simp; done)) | (focus (simp; omega)))))) (by omega)) ?_; rintro e w3 ⟨a3, c3, rfl, ho3, hb3⟩; have hz3 := hb3.size; (try simp only [World.size_alloc, World.size_setCell, World.size_drew] at hz3); have HO3 := Lib.hid (ownsRow_mono (base' := w.heap.size + 3) ho3 (by first | omega | (simp; done) | (simp; omega))); have hrb3 : w3.heap[w.heap.size + 2]? = some (.cells #[.slice none 0 0, .slice none 0 0, .bool false, .bool false, .int .i64 0, .int .i64 0, .int .i64 0] 67 (0, 0)) := (hb3.block _ (by first | omega | (simp; done) | (simp; omega))).trans (by repeat (first | (with_reducible refine blk_drew ?_) | (with_reducible refine blk_drewN _ ?_) | ((with_reducible refine blk_new _ ?_); (focus (simp; done))) | (with_reducible refine blk_alloc ?_ _))); obtain ⟨r30, r31, r32, r33, r34, r35, r36, rf3⟩ := cells7 hrb3; have HB3 := Lib.hid (show Below w.heap.size w w3 from Below.trans (by repeat (first | (with_reducible exact Below.refl _ _) | (with_reducible refine Below.setCell ?_ ?_ _) | (with_reducible refine Below.alloc ?_ ?_ _) | (with_reducible refine Below.drewN ?_ _) | (with_reducible refine Below.drew ?_) | (with_reducible exact Nat.le_refl _) | (focus (simp only [World.size_alloc, World.size_setCell, World.size_drew, World.size_drewN]; omega)) | omega | exact Nat.le_refl _ | (focus (simp; done)) | (focus (simp; omega)))) (hb3.mono (by first | omega | (simp; done) | (simp; omega)))); clear ho3 hb3 hrb3; go_wp2)
  refine stepE1 rfl rfl (by kernel_rfl) (fun K hK => ?_)
  go_wp2
  refine stepE0 rfl rfl (fun K hK => ?_)
  go_simp
  refine hK _ ?_
  clear hK K
  refine stepE0 rfl rfl (fun K hK => ?_)
  go_simp
  refine hK _ ?_
  clear hK K
  try refine stepEnil0 ?_
  clear HSD SS
  go_wp2_with fail
  refine bodyPost_ret (v := .tuple #[.agg #[.slice aA la.length cA, .slice a3 la.length c3, .bool true, .bool true, .int .i64 0, .int .i64 tm, .int .i64 st], .int .i64 0, .int .i64 0]) ?_ rfl ?_
  · simp [results, Try.results37, go_sem, r30, r31, r32, r33, r34, r35, r36]
  · exact ⟨_, _, rfl, ownsRow_mono (base := w.heap.size + 3) (by (repeat ((with_reducible refine ownsRow_setCell_below ?_ ?_ _); rotate_left; (focus (first | (simp; done) | (simp; omega))))); exact HO3.out) (by omega), (by (repeat ((with_reducible refine Below.setCell ?_ ?_ _); rotate_left; (focus (first | (simp; done) | (simp; omega))))); exact HB3.out)⟩
end Go.Proofs.Ytigkcbnlbdiimaa

/- corncribref20.Do: falls and rises. -/
namespace Go.Proofs.Ytigkcbnlbdiimaa
open Go.RowKit
set_option maxRecDepth 100000 in
set_option maxHeartbeats 4000000 in
theorem rfall_lead_1 (aA aB : Option Addr) (cA cB : Nat) (la lb : List Cmd)  (tm st t ck cv ce cp cn c0 c1 c2 : Int) (w : World) (ht0 : 0 ≤ tm) (ht1 : tm ≤ 1000000) :
    Calls Try.prog 37 #[.agg #[.slice aA la.length cA, .slice aB lb.length cB, .bool true, .bool true, .int .i64 1, .int .i64 tm, .int .i64 st], .agg #[.int .i64 2, .int .i64 t, .int .i64 1, .int .i64 ck, .int .i64 cv, .int .i64 ce, .int .i64 cp, .int .i64 cn, .int .i64 c0, .int .i64 c1, .int .i64 c2]] w
      fun e w' => e = .returned (.tuple #[.agg #[.slice aA la.length cA, .slice aB lb.length cB, .bool true, .bool false, .int .i64 0, .int .i64 (tm + 1), .int .i64 (max st (la.length : Int))], .int .i64 0, .int .i64 0]) ∧ Below w.heap.size w w' := by
  go_enter Try.func37, Try.ntmps37
  go_wp2_with fail
  refine wp_region_now0 [1, 3] [(0, 0), (1, 2), (2, 0), (3, 2), (4, 0), (5, 0), (6, 0)] (by kernel_rfl) (by kernel_rfl) rfl (by kernel_rfl) ?_
  refine stepE0 rfl rfl (fun K hK => ?_)
  go_simp
  refine hK _ ?_
  clear hK K
  refine stepE2 rfl rfl ?_ (fun w1 hS => ?_) (fun K hK => ?_)
  rotate_left
  focus (obtain rfl : w1 = _ := hS; go_simp; rfl)
  go_simp
  refine hK _ ?_
  clear hK K
  refine stepE0 rfl rfl (fun K hK => ?_)
  go_simp
  refine hK _ ?_
  clear hK K
  refine stepE2 rfl rfl ?_ (fun w1 hS => ?_) (fun K hK => ?_)
  rotate_left
  focus (obtain rfl : w1 = _ := hS; go_simp; rfl)
  go_simp
  refine hK _ ?_
  clear hK K
  refine stepE0 rfl rfl (fun K hK => ?_)
  go_simp
  refine hK _ ?_
  clear hK K
  refine stepE0 rfl rfl (fun K hK => ?_)
  go_simp
  refine hK _ ?_
  clear hK K
  refine stepE0 rfl rfl (fun K hK => ?_)
  go_simp
  refine hK _ ?_
  clear hK K
  try refine stepEnil0 ?_
  go_wp2_with fail
  obtain ⟨SS, HSD⟩ : ∃ SS : World → Prop, Hid (SS = fun w' => w'.cell? ⟨w.heap.size, 0, none⟩ = some (.slice aA la.length cA) ∧ w'.cell? ⟨w.heap.size, 1, none⟩ = some (.slice aB lb.length cB) ∧ w'.cell? ⟨w.heap.size, 2, none⟩ = some (.bool true) ∧ w'.cell? ⟨w.heap.size, 3, none⟩ = some (.bool true) ∧ w'.cell? ⟨w.heap.size, 4, none⟩ = some (.int .i64 1) ∧ w'.cell? ⟨w.heap.size, 5, none⟩ = some (.int .i64 tm) ∧ w'.cell? ⟨w.heap.size, 6, none⟩ = some (.int .i64 st)) := ⟨_, Lib.hid rfl⟩
  refine wp_region_order0 SS [0, 3] [(0, 2), (1, 0), (3, 2), (4, 0), (2, 1), (5, 1), (6, 0), (7, 0)] (by kernel_rfl) (by kernel_rfl) rfl (by kernel_rfl) ?_ ?_
  focus (rw [HSD.out]; refine ⟨?_, ?_, ?_, ?_, ?_, ?_, ?_⟩ <;> go_simp)
  refine stepE2 rfl rfl ?_ (fun w1 hS => ?_) (fun K hK => ?_)
  rotate_left
  focus (rw [HSD.out] at hS; obtain ⟨s0, s1, s2, s3, s4, s5, s6⟩ := hS; go_simp; rfl)
  go_simp
  refine hK _ ?_
  clear hK K
  refine stepE0 rfl rfl (fun K hK => ?_)
  go_simp
  refine hK _ ?_
  clear hK K
  refine stepE2 rfl rfl ?_ (fun w1 hS => ?_) (fun K hK => ?_)
  rotate_left
  focus (rw [HSD.out] at hS; obtain ⟨s0, s1, s2, s3, s4, s5, s6⟩ := hS; go_simp; rfl)
  go_simp
  refine hK _ ?_
  clear hK K
  refine stepE0 rfl rfl (fun K hK => ?_)
  go_simp
  refine hK _ ?_
  clear hK K
  refine stepE1S rfl rfl (fun K hK => ?_)
  (go_wp2_with fail; refine Calls.mono (rlog_1 _ _ _ _ _ _ _ _ _ _ _ _) ?_; rintro e w2 ⟨rfl, rfl⟩; go_wp2)
  refine ⟨by rw [HSD.out]; exact (by refine ⟨?_, ?_, ?_, ?_, ?_, ?_, ?_⟩ <;> go_simp), ?_⟩
  refine stepE1 rfl rfl (by kernel_rfl) (fun K hK => ?_)
  (go_wp2_with fail; refine Calls.mono (rlog_0 _ _ _ _ _ _ _ _ _ _ _ _) ?_; rintro e w2 ⟨rfl, rfl⟩; go_wp2)
  refine stepE0 rfl rfl (fun K hK => ?_)
  go_simp
  refine hK _ ?_
  clear hK K
  refine stepE0 rfl rfl (fun K hK => ?_)
  go_simp
  refine hK _ ?_
  clear hK K
  try refine stepEnil0 ?_
  clear HSD SS
  go_wp2_with fail
  refine (rsettle_any _ _ _ _ _ _ _ _ _ _ _ _ _).mono ?_
  rintro e w4 ⟨rfl, hb4⟩
  have hz4 := hb4.size
  simp only [World.size_setCell, World.size_alloc, World.size_drew] at hz4
  have hrb4 : w4.heap[w.heap.size + 2]? = some (.cells #[.slice none 0 0, .slice none 0 0, .bool false, .bool false, .int .i64 0, .int .i64 0, .int .i64 0] 67 (0, 0)) := (hb4.block _ (by first | omega | (simp; done) | (simp; omega))).trans (by repeat (first | (with_reducible refine blk_drew ?_) | (with_reducible refine blk_drewN _ ?_) | ((with_reducible refine blk_new _ ?_); (focus (simp; done))) | (with_reducible refine blk_alloc ?_ _)))
  obtain ⟨r40, r41, r42, r43, r44, r45, r46, rf4⟩ := cells7 hrb4
  have HB4 := Lib.hid (show Below w.heap.size w w4 from Below.trans (by repeat (first | (with_reducible exact Below.refl _ _) | (with_reducible refine Below.setCell ?_ ?_ _) | (with_reducible refine Below.alloc ?_ ?_ _) | (with_reducible refine Below.drewN ?_ _) | (with_reducible refine Below.drew ?_) | (with_reducible exact Nat.le_refl _) | (focus (simp only [World.size_alloc, World.size_setCell, World.size_drew, World.size_drewN]; omega)) | omega | exact Nat.le_refl _ | (focus (simp; done)) | (focus (simp; omega)))) (hb4.mono (by first | omega | (simp; done) | (simp; omega))))
  clear hb4 hrb4
  go_wp2_with fail
  refine bodyPost_ret (v := .tuple #[.agg #[.slice aA la.length cA, .slice aB lb.length cB, .bool true, .bool false, .int .i64 0, .int .i64 (tm + 1), .int .i64 (max st (la.length : Int))], .int .i64 0, .int .i64 0]) ?_ rfl ?_
  · simp [results, Try.results37, go_sem, r40, r41, r42, r43, r44, r45, r46]
  · exact ⟨rfl, (by (repeat ((with_reducible refine Below.setCell ?_ ?_ _); rotate_left; (focus (first | (simp; done) | (simp; omega))))); exact HB4.out)⟩
set_option maxRecDepth 100000 in
set_option maxHeartbeats 4000000 in
theorem rfall_last_1 (aA aB : Option Addr) (cA cB : Nat) (la lb : List Cmd)  (tm st t ck cv ce cp cn c0 c1 c2 : Int) (w : World) (ht0 : 0 ≤ tm) (ht1 : tm ≤ 1000000) :
    Calls Try.prog 37 #[.agg #[.slice aA la.length cA, .slice aB lb.length cB, .bool false, .bool true, .int .i64 1, .int .i64 tm, .int .i64 st], .agg #[.int .i64 2, .int .i64 t, .int .i64 1, .int .i64 ck, .int .i64 cv, .int .i64 ce, .int .i64 cp, .int .i64 cn, .int .i64 c0, .int .i64 c1, .int .i64 c2]] w
      fun e w' => e = .returned (.tuple #[.agg #[.slice aA la.length cA, .slice aB lb.length cB, .bool false, .bool false, .int .i64 1, .int .i64 tm, .int .i64 st], .int .i64 0, .int .i64 0]) ∧ Below w.heap.size w w' := by
  go_enter Try.func37, Try.ntmps37
  go_wp2_with fail
  refine wp_region_now0 [1, 3] [(0, 0), (1, 2), (2, 0), (3, 2), (4, 0), (5, 0), (6, 0)] (by kernel_rfl) (by kernel_rfl) rfl (by kernel_rfl) ?_
  refine stepE0 rfl rfl (fun K hK => ?_)
  go_simp
  refine hK _ ?_
  clear hK K
  refine stepE2 rfl rfl ?_ (fun w1 hS => ?_) (fun K hK => ?_)
  rotate_left
  focus (obtain rfl : w1 = _ := hS; go_simp; rfl)
  go_simp
  refine hK _ ?_
  clear hK K
  refine stepE0 rfl rfl (fun K hK => ?_)
  go_simp
  refine hK _ ?_
  clear hK K
  refine stepE2 rfl rfl ?_ (fun w1 hS => ?_) (fun K hK => ?_)
  rotate_left
  focus (obtain rfl : w1 = _ := hS; go_simp; rfl)
  go_simp
  refine hK _ ?_
  clear hK K
  refine stepE0 rfl rfl (fun K hK => ?_)
  go_simp
  refine hK _ ?_
  clear hK K
  refine stepE0 rfl rfl (fun K hK => ?_)
  go_simp
  refine hK _ ?_
  clear hK K
  refine stepE0 rfl rfl (fun K hK => ?_)
  go_simp
  refine hK _ ?_
  clear hK K
  try refine stepEnil0 ?_
  go_wp2_with fail
  obtain ⟨SS, HSD⟩ : ∃ SS : World → Prop, Hid (SS = fun w' => w'.cell? ⟨w.heap.size, 0, none⟩ = some (.slice aA la.length cA) ∧ w'.cell? ⟨w.heap.size, 1, none⟩ = some (.slice aB lb.length cB) ∧ w'.cell? ⟨w.heap.size, 2, none⟩ = some (.bool false) ∧ w'.cell? ⟨w.heap.size, 3, none⟩ = some (.bool true) ∧ w'.cell? ⟨w.heap.size, 4, none⟩ = some (.int .i64 1) ∧ w'.cell? ⟨w.heap.size, 5, none⟩ = some (.int .i64 tm) ∧ w'.cell? ⟨w.heap.size, 6, none⟩ = some (.int .i64 st)) := ⟨_, Lib.hid rfl⟩
  refine wp_region_order0 SS [0, 3] [(0, 2), (1, 0), (3, 2), (4, 0), (2, 1), (5, 1), (6, 0), (7, 0)] (by kernel_rfl) (by kernel_rfl) rfl (by kernel_rfl) ?_ ?_
  focus (rw [HSD.out]; refine ⟨?_, ?_, ?_, ?_, ?_, ?_, ?_⟩ <;> go_simp)
  refine stepE2 rfl rfl ?_ (fun w1 hS => ?_) (fun K hK => ?_)
  rotate_left
  focus (rw [HSD.out] at hS; obtain ⟨s0, s1, s2, s3, s4, s5, s6⟩ := hS; go_simp; rfl)
  go_simp
  refine hK _ ?_
  clear hK K
  refine stepE0 rfl rfl (fun K hK => ?_)
  go_simp
  refine hK _ ?_
  clear hK K
  refine stepE2 rfl rfl ?_ (fun w1 hS => ?_) (fun K hK => ?_)
  rotate_left
  focus (rw [HSD.out] at hS; obtain ⟨s0, s1, s2, s3, s4, s5, s6⟩ := hS; go_simp; rfl)
  go_simp
  refine hK _ ?_
  clear hK K
  refine stepE0 rfl rfl (fun K hK => ?_)
  go_simp
  refine hK _ ?_
  clear hK K
  refine stepE1S rfl rfl (fun K hK => ?_)
  (go_wp2_with fail; refine Calls.mono (rlog_1 _ _ _ _ _ _ _ _ _ _ _ _) ?_; rintro e w2 ⟨rfl, rfl⟩; go_wp2)
  refine ⟨by rw [HSD.out]; exact (by refine ⟨?_, ?_, ?_, ?_, ?_, ?_, ?_⟩ <;> go_simp), ?_⟩
  refine stepE1 rfl rfl (by kernel_rfl) (fun K hK => ?_)
  (go_wp2_with fail; refine Calls.mono (rlog_0 _ _ _ _ _ _ _ _ _ _ _ _) ?_; rintro e w2 ⟨rfl, rfl⟩; go_wp2)
  refine stepE0 rfl rfl (fun K hK => ?_)
  go_simp
  refine hK _ ?_
  clear hK K
  refine stepE0 rfl rfl (fun K hK => ?_)
  go_simp
  refine hK _ ?_
  clear hK K
  try refine stepEnil0 ?_
  clear HSD SS
  go_wp2_with fail
  refine bodyPost_ret (v := .tuple #[.agg #[.slice aA la.length cA, .slice aB lb.length cB, .bool false, .bool false, .int .i64 1, .int .i64 tm, .int .i64 st], .int .i64 0, .int .i64 0]) ?_ rfl ?_
  · simp [results, Try.results37, go_sem]
  · exact ⟨rfl, (by repeat (first | (with_reducible exact Below.refl _ _) | (with_reducible refine Below.setCell ?_ ?_ _) | (with_reducible refine Below.alloc ?_ ?_ _) | (with_reducible refine Below.drewN ?_ _) | (with_reducible refine Below.drew ?_) | (with_reducible exact Nat.le_refl _) | (focus (simp only [World.size_alloc, World.size_setCell, World.size_drew, World.size_drewN]; omega)) | omega | exact Nat.le_refl _ | (focus (simp; done)) | (focus (simp; omega))))⟩
set_option maxRecDepth 100000 in
set_option maxHeartbeats 4000000 in
theorem rfall_other_1 (aA aB : Option Addr) (cA cB : Nat) (la lb : List Cmd)  (tm st t ck cv ce cp cn c0 c1 c2 : Int) (w : World) (ht0 : 0 ≤ tm) (ht1 : tm ≤ 1000000) :
    Calls Try.prog 37 #[.agg #[.slice aA la.length cA, .slice aB lb.length cB, .bool true, .bool true, .int .i64 1, .int .i64 tm, .int .i64 st], .agg #[.int .i64 2, .int .i64 t, .int .i64 0, .int .i64 ck, .int .i64 cv, .int .i64 ce, .int .i64 cp, .int .i64 cn, .int .i64 c0, .int .i64 c1, .int .i64 c2]] w
      fun e w' => e = .returned (.tuple #[.agg #[.slice aA la.length cA, .slice aB lb.length cB, .bool false, .bool true, .int .i64 1, .int .i64 tm, .int .i64 (max st (lb.length : Int))], .int .i64 0, .int .i64 0]) ∧ Below w.heap.size w w' := by
  go_enter Try.func37, Try.ntmps37
  go_wp2_with fail
  refine wp_region_now0 [1, 3] [(0, 0), (1, 2), (2, 0), (3, 2), (4, 0), (5, 0), (6, 0)] (by kernel_rfl) (by kernel_rfl) rfl (by kernel_rfl) ?_
  refine stepE0 rfl rfl (fun K hK => ?_)
  go_simp
  refine hK _ ?_
  clear hK K
  refine stepE2 rfl rfl ?_ (fun w1 hS => ?_) (fun K hK => ?_)
  rotate_left
  focus (obtain rfl : w1 = _ := hS; go_simp; rfl)
  go_simp
  refine hK _ ?_
  clear hK K
  refine stepE0 rfl rfl (fun K hK => ?_)
  go_simp
  refine hK _ ?_
  clear hK K
  refine stepE2 rfl rfl ?_ (fun w1 hS => ?_) (fun K hK => ?_)
  rotate_left
  focus (obtain rfl : w1 = _ := hS; go_simp; rfl)
  go_simp
  refine hK _ ?_
  clear hK K
  refine stepE0 rfl rfl (fun K hK => ?_)
  go_simp
  refine hK _ ?_
  clear hK K
  refine stepE0 rfl rfl (fun K hK => ?_)
  go_simp
  refine hK _ ?_
  clear hK K
  refine stepE0 rfl rfl (fun K hK => ?_)
  go_simp
  refine hK _ ?_
  clear hK K
  try refine stepEnil0 ?_
  go_wp2_with fail
  obtain ⟨SS, HSD⟩ : ∃ SS : World → Prop, Hid (SS = fun w' => w'.cell? ⟨w.heap.size, 0, none⟩ = some (.slice aA la.length cA) ∧ w'.cell? ⟨w.heap.size, 1, none⟩ = some (.slice aB lb.length cB) ∧ w'.cell? ⟨w.heap.size, 2, none⟩ = some (.bool true) ∧ w'.cell? ⟨w.heap.size, 3, none⟩ = some (.bool true) ∧ w'.cell? ⟨w.heap.size, 4, none⟩ = some (.int .i64 1) ∧ w'.cell? ⟨w.heap.size, 5, none⟩ = some (.int .i64 tm) ∧ w'.cell? ⟨w.heap.size, 6, none⟩ = some (.int .i64 st)) := ⟨_, Lib.hid rfl⟩
  refine wp_region_order0 SS [0, 3] [(0, 2), (1, 0), (3, 2), (4, 0), (2, 1), (5, 1), (6, 0), (7, 0)] (by kernel_rfl) (by kernel_rfl) rfl (by kernel_rfl) ?_ ?_
  focus (rw [HSD.out]; refine ⟨?_, ?_, ?_, ?_, ?_, ?_, ?_⟩ <;> go_simp)
  refine stepE2 rfl rfl ?_ (fun w1 hS => ?_) (fun K hK => ?_)
  rotate_left
  focus (rw [HSD.out] at hS; obtain ⟨s0, s1, s2, s3, s4, s5, s6⟩ := hS; go_simp; rfl)
  go_simp
  refine hK _ ?_
  clear hK K
  refine stepE0 rfl rfl (fun K hK => ?_)
  go_simp
  refine hK _ ?_
  clear hK K
  refine stepE2 rfl rfl ?_ (fun w1 hS => ?_) (fun K hK => ?_)
  rotate_left
  focus (rw [HSD.out] at hS; obtain ⟨s0, s1, s2, s3, s4, s5, s6⟩ := hS; go_simp; rfl)
  go_simp
  refine hK _ ?_
  clear hK K
  refine stepE0 rfl rfl (fun K hK => ?_)
  go_simp
  refine hK _ ?_
  clear hK K
  refine stepE1S rfl rfl (fun K hK => ?_)
  (go_wp2_with fail; refine Calls.mono (rlog_1 _ _ _ _ _ _ _ _ _ _ _ _) ?_; rintro e w2 ⟨rfl, rfl⟩; go_wp2)
  refine ⟨by rw [HSD.out]; exact (by refine ⟨?_, ?_, ?_, ?_, ?_, ?_, ?_⟩ <;> go_simp), ?_⟩
  refine stepE1 rfl rfl (by kernel_rfl) (fun K hK => ?_)
  (go_wp2_with fail; refine Calls.mono (rlog_0 _ _ _ _ _ _ _ _ _ _ _ _) ?_; rintro e w2 ⟨rfl, rfl⟩; go_wp2)
  refine stepE0 rfl rfl (fun K hK => ?_)
  go_simp
  refine hK _ ?_
  clear hK K
  refine stepE0 rfl rfl (fun K hK => ?_)
  go_simp
  refine hK _ ?_
  clear hK K
  try refine stepEnil0 ?_
  clear HSD SS
  go_wp2_with fail
  refine (rsettle_any _ _ _ _ _ _ _ _ _ _ _ _ _).mono ?_
  rintro e w4 ⟨rfl, hb4⟩
  have hz4 := hb4.size
  simp only [World.size_setCell, World.size_alloc, World.size_drew] at hz4
  have hrb4 : w4.heap[w.heap.size + 2]? = some (.cells #[.slice none 0 0, .slice none 0 0, .bool false, .bool false, .int .i64 0, .int .i64 0, .int .i64 0] 67 (0, 0)) := (hb4.block _ (by first | omega | (simp; done) | (simp; omega))).trans (by repeat (first | (with_reducible refine blk_drew ?_) | (with_reducible refine blk_drewN _ ?_) | ((with_reducible refine blk_new _ ?_); (focus (simp; done))) | (with_reducible refine blk_alloc ?_ _)))
  obtain ⟨r40, r41, r42, r43, r44, r45, r46, rf4⟩ := cells7 hrb4
  have HB4 := Lib.hid (show Below w.heap.size w w4 from Below.trans (by repeat (first | (with_reducible exact Below.refl _ _) | (with_reducible refine Below.setCell ?_ ?_ _) | (with_reducible refine Below.alloc ?_ ?_ _) | (with_reducible refine Below.drewN ?_ _) | (with_reducible refine Below.drew ?_) | (with_reducible exact Nat.le_refl _) | (focus (simp only [World.size_alloc, World.size_setCell, World.size_drew, World.size_drewN]; omega)) | omega | exact Nat.le_refl _ | (focus (simp; done)) | (focus (simp; omega)))) (hb4.mono (by first | omega | (simp; done) | (simp; omega))))
  clear hb4 hrb4
  go_wp2_with fail
  refine bodyPost_ret (v := .tuple #[.agg #[.slice aA la.length cA, .slice aB lb.length cB, .bool false, .bool true, .int .i64 1, .int .i64 tm, .int .i64 (max st (lb.length : Int))], .int .i64 0, .int .i64 0]) ?_ rfl ?_
  · simp [results, Try.results37, go_sem, r40, r41, r42, r43, r44, r45, r46]
  · exact ⟨rfl, (by (repeat ((with_reducible refine Below.setCell ?_ ?_ _); rotate_left; (focus (first | (simp; done) | (simp; omega))))); exact HB4.out)⟩
set_option maxRecDepth 100000 in
set_option maxHeartbeats 4000000 in
theorem rrise_lead_1 (aA aB : Option Addr) (cA cB : Nat) (la lb : List Cmd)  (tm st t ck cv ce cp cn c0 c1 c2 : Int) (w : World) (ht0 : 0 ≤ tm) (ht1 : tm ≤ 1000000) :
    Calls Try.prog 37 #[.agg #[.slice aA la.length cA, .slice aB lb.length cB, .bool false, .bool false, .int .i64 1, .int .i64 tm, .int .i64 st], .agg #[.int .i64 3, .int .i64 t, .int .i64 1, .int .i64 ck, .int .i64 cv, .int .i64 ce, .int .i64 cp, .int .i64 cn, .int .i64 c0, .int .i64 c1, .int .i64 c2]] w
      fun e w' => e = .returned (.tuple #[.agg #[.slice aA la.length cA, .slice aB lb.length cB, .bool false, .bool true, .int .i64 1, .int .i64 (tm + 1), .int .i64 (max st (lb.length : Int))], .int .i64 0, .int .i64 0]) ∧ Below w.heap.size w w' := by
  go_enter Try.func37, Try.ntmps37
  go_wp2_with fail
  refine wp_region_now0 [1, 3] [(0, 0), (1, 2), (2, 0), (3, 2), (4, 0), (5, 0), (6, 0)] (by kernel_rfl) (by kernel_rfl) rfl (by kernel_rfl) ?_
  refine stepE0 rfl rfl (fun K hK => ?_)
  go_simp
  refine hK _ ?_
  clear hK K
  refine stepE2 rfl rfl ?_ (fun w1 hS => ?_) (fun K hK => ?_)
  rotate_left
  focus (obtain rfl : w1 = _ := hS; go_simp; rfl)
  go_simp
  refine hK _ ?_
  clear hK K
  refine stepE0 rfl rfl (fun K hK => ?_)
  go_simp
  refine hK _ ?_
  clear hK K
  refine stepE2 rfl rfl ?_ (fun w1 hS => ?_) (fun K hK => ?_)
  rotate_left
  focus (obtain rfl : w1 = _ := hS; go_simp; rfl)
  go_simp
  refine hK _ ?_
  clear hK K
  refine stepE0 rfl rfl (fun K hK => ?_)
  go_simp
  refine hK _ ?_
  clear hK K
  refine stepE0 rfl rfl (fun K hK => ?_)
  go_simp
  refine hK _ ?_
  clear hK K
  refine stepE0 rfl rfl (fun K hK => ?_)
  go_simp
  refine hK _ ?_
  clear hK K
  try refine stepEnil0 ?_
  go_wp2_with fail
  obtain ⟨SS, HSD⟩ : ∃ SS : World → Prop, Hid (SS = fun w' => w'.cell? ⟨w.heap.size, 0, none⟩ = some (.slice aA la.length cA) ∧ w'.cell? ⟨w.heap.size, 1, none⟩ = some (.slice aB lb.length cB) ∧ w'.cell? ⟨w.heap.size, 2, none⟩ = some (.bool false) ∧ w'.cell? ⟨w.heap.size, 3, none⟩ = some (.bool false) ∧ w'.cell? ⟨w.heap.size, 4, none⟩ = some (.int .i64 1) ∧ w'.cell? ⟨w.heap.size, 5, none⟩ = some (.int .i64 tm) ∧ w'.cell? ⟨w.heap.size, 6, none⟩ = some (.int .i64 st)) := ⟨_, Lib.hid rfl⟩
  refine wp_region_order0 SS [0, 3] [(0, 2), (1, 0), (3, 2), (4, 0), (2, 1), (5, 1), (6, 0), (7, 0)] (by kernel_rfl) (by kernel_rfl) rfl (by kernel_rfl) ?_ ?_
  focus (rw [HSD.out]; refine ⟨?_, ?_, ?_, ?_, ?_, ?_, ?_⟩ <;> go_simp)
  refine stepE2 rfl rfl ?_ (fun w1 hS => ?_) (fun K hK => ?_)
  rotate_left
  focus (rw [HSD.out] at hS; obtain ⟨s0, s1, s2, s3, s4, s5, s6⟩ := hS; go_simp; rfl)
  go_simp
  refine hK _ ?_
  clear hK K
  refine stepE0 rfl rfl (fun K hK => ?_)
  go_simp
  refine hK _ ?_
  clear hK K
  refine stepE2 rfl rfl ?_ (fun w1 hS => ?_) (fun K hK => ?_)
  rotate_left
  focus (rw [HSD.out] at hS; obtain ⟨s0, s1, s2, s3, s4, s5, s6⟩ := hS; go_simp; rfl)
  go_simp
  refine hK _ ?_
  clear hK K
  refine stepE0 rfl rfl (fun K hK => ?_)
  go_simp
  refine hK _ ?_
  clear hK K
  refine stepE1S rfl rfl (fun K hK => ?_)
  (go_wp2_with fail; refine Calls.mono (rlog_1 _ _ _ _ _ _ _ _ _ _ _ _) ?_; rintro e w2 ⟨rfl, rfl⟩; go_wp2)
  refine ⟨by rw [HSD.out]; exact (by refine ⟨?_, ?_, ?_, ?_, ?_, ?_, ?_⟩ <;> go_simp), ?_⟩
  refine stepE1 rfl rfl (by kernel_rfl) (fun K hK => ?_)
  (go_wp2_with fail; refine Calls.mono (rlog_0 _ _ _ _ _ _ _ _ _ _ _ _) ?_; rintro e w2 ⟨rfl, rfl⟩; go_wp2)
  refine stepE0 rfl rfl (fun K hK => ?_)
  go_simp
  refine hK _ ?_
  clear hK K
  refine stepE0 rfl rfl (fun K hK => ?_)
  go_simp
  refine hK _ ?_
  clear hK K
  try refine stepEnil0 ?_
  clear HSD SS
  go_wp2_with fail
  refine (rsettle_any _ _ _ _ _ _ _ _ _ _ _ _ _).mono ?_
  rintro e w4 ⟨rfl, hb4⟩
  have hz4 := hb4.size
  simp only [World.size_setCell, World.size_alloc, World.size_drew] at hz4
  have hrb4 : w4.heap[w.heap.size + 2]? = some (.cells #[.slice none 0 0, .slice none 0 0, .bool false, .bool false, .int .i64 0, .int .i64 0, .int .i64 0] 67 (0, 0)) := (hb4.block _ (by first | omega | (simp; done) | (simp; omega))).trans (by repeat (first | (with_reducible refine blk_drew ?_) | (with_reducible refine blk_drewN _ ?_) | ((with_reducible refine blk_new _ ?_); (focus (simp; done))) | (with_reducible refine blk_alloc ?_ _)))
  obtain ⟨r40, r41, r42, r43, r44, r45, r46, rf4⟩ := cells7 hrb4
  have HB4 := Lib.hid (show Below w.heap.size w w4 from Below.trans (by repeat (first | (with_reducible exact Below.refl _ _) | (with_reducible refine Below.setCell ?_ ?_ _) | (with_reducible refine Below.alloc ?_ ?_ _) | (with_reducible refine Below.drewN ?_ _) | (with_reducible refine Below.drew ?_) | (with_reducible exact Nat.le_refl _) | (focus (simp only [World.size_alloc, World.size_setCell, World.size_drew, World.size_drewN]; omega)) | omega | exact Nat.le_refl _ | (focus (simp; done)) | (focus (simp; omega)))) (hb4.mono (by first | omega | (simp; done) | (simp; omega))))
  clear hb4 hrb4
  go_wp2_with fail
  refine bodyPost_ret (v := .tuple #[.agg #[.slice aA la.length cA, .slice aB lb.length cB, .bool false, .bool true, .int .i64 1, .int .i64 (tm + 1), .int .i64 (max st (lb.length : Int))], .int .i64 0, .int .i64 0]) ?_ rfl ?_
  · simp [results, Try.results37, go_sem, r40, r41, r42, r43, r44, r45, r46]
  · exact ⟨rfl, (by (repeat ((with_reducible refine Below.setCell ?_ ?_ _); rotate_left; (focus (first | (simp; done) | (simp; omega))))); exact HB4.out)⟩
set_option maxRecDepth 100000 in
set_option maxHeartbeats 4000000 in
theorem rrise_other_1 (aA aB : Option Addr) (cA cB : Nat) (la lb : List Cmd)  (tm st t ck cv ce cp cn c0 c1 c2 : Int) (w : World) (base : Nat) (hr : w.ownsRow base 35 8 (.slice aB lb.length cB) lb.length (lb.flatMap Cmd.row)) (hlen : lb.length ≤ 1000) :
    Calls Try.prog 37 #[.agg #[.slice aA la.length cA, .slice aB lb.length cB, .bool false, .bool true, .int .i64 1, .int .i64 tm, .int .i64 st], .agg #[.int .i64 3, .int .i64 t, .int .i64 0, .int .i64 ck, .int .i64 cv, .int .i64 ce, .int .i64 cp, .int .i64 cn, .int .i64 c0, .int .i64 c1, .int .i64 c2]] w
      fun e w' => ∃ a' c', e = .returned (.tuple #[.agg #[.slice a' lb.length c', .slice aB lb.length cB, .bool true, .bool true, .int .i64 1, .int .i64 tm, .int .i64 st], .int .i64 0, .int .i64 0]) ∧ w'.ownsRow w.heap.size 35 8 (.slice a' lb.length c') lb.length (lb.flatMap Cmd.row) ∧ Below w.heap.size w w' := by
  have HR := Lib.hid hr
  clear hr
  go_enter Try.func37, Try.ntmps37
  go_wp2_with fail
  refine wp_region_now0 [1, 3] [(0, 0), (1, 2), (2, 0), (3, 2), (4, 0), (5, 0), (6, 0)] (by kernel_rfl) (by kernel_rfl) rfl (by kernel_rfl) ?_
  refine stepE0 rfl rfl (fun K hK => ?_)
  go_simp
  refine hK _ ?_
  clear hK K
  refine stepE2 rfl rfl ?_ (fun w1 hS => ?_) (fun K hK => ?_)
  rotate_left
  focus (obtain rfl : w1 = _ := hS; go_simp; rfl)
  go_simp
  refine hK _ ?_
  clear hK K
  refine stepE0 rfl rfl (fun K hK => ?_)
  go_simp
  refine hK _ ?_
  clear hK K
  refine stepE2 rfl rfl ?_ (fun w1 hS => ?_) (fun K hK => ?_)
  rotate_left
  focus (obtain rfl : w1 = _ := hS; go_simp; rfl)
  go_simp
  refine hK _ ?_
  clear hK K
  refine stepE0 rfl rfl (fun K hK => ?_)
  go_simp
  refine hK _ ?_
  clear hK K
  refine stepE0 rfl rfl (fun K hK => ?_)
  go_simp
  refine hK _ ?_
  clear hK K
  refine stepE0 rfl rfl (fun K hK => ?_)
  go_simp
  refine hK _ ?_
  clear hK K
  try refine stepEnil0 ?_
  go_wp2_with fail
  obtain ⟨SS, HSD⟩ : ∃ SS : World → Prop, Hid (SS = fun w' => w'.cell? ⟨w.heap.size, 0, none⟩ = some (.slice aA la.length cA) ∧ w'.cell? ⟨w.heap.size, 1, none⟩ = some (.slice aB lb.length cB) ∧ w'.cell? ⟨w.heap.size, 2, none⟩ = some (.bool false) ∧ w'.cell? ⟨w.heap.size, 3, none⟩ = some (.bool true) ∧ w'.cell? ⟨w.heap.size, 4, none⟩ = some (.int .i64 1) ∧ w'.cell? ⟨w.heap.size, 5, none⟩ = some (.int .i64 tm) ∧ w'.cell? ⟨w.heap.size, 6, none⟩ = some (.int .i64 st)) := ⟨_, Lib.hid rfl⟩
  refine wp_region_order0 SS [0, 3] [(0, 2), (1, 0), (3, 2), (4, 0), (2, 1), (5, 1), (6, 0), (7, 0)] (by kernel_rfl) (by kernel_rfl) rfl (by kernel_rfl) ?_ ?_
  focus (rw [HSD.out]; refine ⟨?_, ?_, ?_, ?_, ?_, ?_, ?_⟩ <;> go_simp)
  refine stepE2 rfl rfl ?_ (fun w1 hS => ?_) (fun K hK => ?_)
  rotate_left
  focus (rw [HSD.out] at hS; obtain ⟨s0, s1, s2, s3, s4, s5, s6⟩ := hS; go_simp; rfl)
  go_simp
  refine hK _ ?_
  clear hK K
  refine stepE0 rfl rfl (fun K hK => ?_)
  go_simp
  refine hK _ ?_
  clear hK K
  refine stepE2 rfl rfl ?_ (fun w1 hS => ?_) (fun K hK => ?_)
  rotate_left
  focus (rw [HSD.out] at hS; obtain ⟨s0, s1, s2, s3, s4, s5, s6⟩ := hS; go_simp; rfl)
  go_simp
  refine hK _ ?_
  clear hK K
  refine stepE0 rfl rfl (fun K hK => ?_)
  go_simp
  refine hK _ ?_
  clear hK K
  refine stepE1S rfl rfl (fun K hK => ?_)
  (go_wp2_with fail; refine Calls.mono (rlog_1 _ _ _ _ _ _ _ _ _ _ _ _) ?_; rintro e w2 ⟨rfl, rfl⟩; go_wp2)
  refine ⟨by rw [HSD.out]; exact (by refine ⟨?_, ?_, ?_, ?_, ?_, ?_, ?_⟩ <;> go_simp), ?_⟩
  refine stepE1 rfl rfl (by kernel_rfl) (fun K hK => ?_)
  (go_wp2_with fail; refine Calls.mono (rlog_0 _ _ _ _ _ _ _ _ _ _ _ _) ?_; rintro e w2 ⟨rfl, rfl⟩; go_wp2)
  refine stepE0 rfl rfl (fun K hK => ?_)
  go_simp
  refine hK _ ?_
  clear hK K
  refine stepE0 rfl rfl (fun K hK => ?_)
  go_simp
  refine hK _ ?_
  clear hK K
  try refine stepEnil0 ?_
  clear HSD SS
  go_wp2_with fail
  obtain ⟨SS, HSD⟩ : ∃ SS : World → Prop, Hid (SS = fun w' => w'.heap[w.heap.size]? = some (.cells #[.slice aA la.length cA, .slice aB lb.length cB, .bool true, .bool true, .int .i64 1, .int .i64 tm, .int .i64 st] 67 (0, 0)) ∧ w'.heap[w.heap.size + 1]? = some (.cells #[.int .i64 3, .int .i64 t, .int .i64 0, .int .i64 ck, .int .i64 cv, .int .i64 ce, .int .i64 cp, .int .i64 cn, .int .i64 c0, .int .i64 c1, .int .i64 c2] 55 (0, 0))) := ⟨_, Lib.hid rfl⟩
  refine wp_region_order0 SS [0, 2, 3, 5] [(0, 2), (1, 0), (2, 2), (3, 2), (4, 0), (5, 2), (6, 0), (7, 1), (8, 1), (9, 1), (10, 0), (11, 0)] (by kernel_rfl) (by kernel_rfl) rfl (by kernel_rfl) ?_ ?_
  focus (rw [HSD.out]; exact ⟨(by repeat (first | (with_reducible refine blk_drew ?_) | (with_reducible refine blk_drewN _ ?_) | ((with_reducible refine blk_new _ ?_); (focus (simp; done))) | (with_reducible refine blk_alloc ?_ _))), (by repeat (first | (with_reducible refine blk_drew ?_) | (with_reducible refine blk_drewN _ ?_) | ((with_reducible refine blk_new _ ?_); (focus (simp; done))) | (with_reducible refine blk_alloc ?_ _)))⟩)
  refine stepE2 rfl rfl ?_ (fun w1 hS => ?_) (fun K hK => ?_)
  rotate_left
  focus (rw [HSD.out] at hS; obtain ⟨sp, sa⟩ := hS; obtain ⟨s0, s1, s2, s3, s4, s5, s6, -⟩ := cells7 sp; obtain ⟨t0, t1, t2, t3, t4, t5, t6, t7, t8, t9, t10⟩ := cells11 sa; go_simp; rfl)
  go_simp
  refine hK _ ?_
  clear hK K
  refine stepE0 rfl rfl (fun K hK => ?_)
  go_simp
  refine hK _ ?_
  clear hK K
  refine stepE2 rfl rfl ?_ (fun w1 hS => ?_) (fun K hK => ?_)
  rotate_left
  focus (rw [HSD.out] at hS; obtain ⟨sp, sa⟩ := hS; obtain ⟨s0, s1, s2, s3, s4, s5, s6, -⟩ := cells7 sp; obtain ⟨t0, t1, t2, t3, t4, t5, t6, t7, t8, t9, t10⟩ := cells11 sa; go_simp; rfl)
  go_simp
  refine hK _ ?_
  clear hK K
  refine stepE2 rfl rfl ?_ (fun w1 hS => ?_) (fun K hK => ?_)
  rotate_left
  focus (rw [HSD.out] at hS; obtain ⟨sp, sa⟩ := hS; obtain ⟨s0, s1, s2, s3, s4, s5, s6, -⟩ := cells7 sp; obtain ⟨t0, t1, t2, t3, t4, t5, t6, t7, t8, t9, t10⟩ := cells11 sa; go_simp; rfl)
  go_simp
  refine hK _ ?_
  clear hK K
  refine stepE0 rfl rfl (fun K hK => ?_)
  go_simp
  refine hK _ ?_
  clear hK K
  refine stepE2 rfl rfl ?_ (fun w1 hS => ?_) (fun K hK => ?_)
  rotate_left
  focus (rw [HSD.out] at hS; obtain ⟨sp, sa⟩ := hS; obtain ⟨s0, s1, s2, s3, s4, s5, s6, -⟩ := cells7 sp; obtain ⟨t0, t1, t2, t3, t4, t5, t6, t7, t8, t9, t10⟩ := cells11 sa; go_simp; rfl)
  go_simp
  refine hK _ ?_
  clear hK K
  refine stepE0 rfl rfl (fun K hK => ?_)
  go_simp
  refine hK _ ?_
  clear hK K
  refine stepE1S rfl rfl (fun K hK => ?_)
  (go_wp2_with fail; refine Calls.mono (rlog_1 _ _ _ _ _ _ _ _ _ _ _ _) ?_; rintro e w2 ⟨rfl, rfl⟩; go_wp2)
  refine ⟨by rw [HSD.out]; exact (⟨(by repeat (first | (with_reducible refine blk_drew ?_) | (with_reducible refine blk_drewN _ ?_) | ((with_reducible refine blk_new _ ?_); (focus (simp; done))) | (with_reducible refine blk_alloc ?_ _))), (by repeat (first | (with_reducible refine blk_drew ?_) | (with_reducible refine blk_drewN _ ?_) | ((with_reducible refine blk_new _ ?_); (focus (simp; done))) | (with_reducible refine blk_alloc ?_ _)))⟩), ?_⟩
  refine stepE1 rfl rfl (by kernel_rfl) (fun K hK => ?_)
  (go_wp2_with fail; refine Calls.mono (rwith_0 _ _ _ _ _ _ _ _ _ _ _ aB lb.length cB lb _ (reads_of_owns (ownsRow_below HR.out (by repeat (first | (with_reducible exact Below.refl _ _) | (with_reducible refine Below.setCell ?_ ?_ _) | (with_reducible refine Below.alloc ?_ ?_ _) | (with_reducible refine Below.drewN ?_ _) | (with_reducible refine Below.drew ?_) | (with_reducible exact Nat.le_refl _) | (focus (simp only [World.size_alloc, World.size_setCell, World.size_drew, World.size_drewN]; omega)) | omega | exact Nat.le_refl _ | (focus (simp; done)) | (focus (simp; omega)))))) (by omega)) ?_; rintro e w3 ⟨a3, c3, rfl, ho3, hb3⟩; have hz3 := hb3.size; (try simp only [World.size_alloc, World.size_setCell, World.size_drew] at hz3); have HO3 := Lib.hid (ownsRow_mono (base' := w.heap.size + 3) ho3 (by first | omega | (simp; done) | (simp; omega))); have hrb3 : w3.heap[w.heap.size + 2]? = some (.cells #[.slice none 0 0, .slice none 0 0, .bool false, .bool false, .int .i64 0, .int .i64 0, .int .i64 0] 67 (0, 0)) := (hb3.block _ (by first | omega | (simp; done) | (simp; omega))).trans (by repeat (first | (with_reducible refine blk_drew ?_) | (with_reducible refine blk_drewN _ ?_) | ((with_reducible refine blk_new _ ?_); (focus (simp; done))) | (with_reducible refine blk_alloc ?_ _))); obtain ⟨r30, r31, r32, r33, r34, r35, r36, rf3⟩ := cells7 hrb3; have HB3 := Lib.hid (show Below w.heap.size w w3 from Below.trans (by repeat (first | (with_reducible exact Below.refl _ _) | (with_reducible refine Below.setCell ?_ ?_ _) | (with_reducible refine Below.alloc ?_ ?_ _) | (with_reducible refine Below.drewN ?_ _) | (with_reducible refine Below.drew ?_) | (with_reducible exact Nat.le_refl _) | (focus (simp only [World.size_alloc, World.size_setCell, World.size_drew, World.size_drewN]; omega)) | omega | exact Nat.le_refl _ | (focus (simp; done)) | (focus (simp; omega)))) (hb3.mono (by first | omega | (simp; done) | (simp; omega)))); clear ho3 hb3 hrb3; go_wp2)
  refine stepE1 rfl rfl (by kernel_rfl) (fun K hK => ?_)
  go_wp2
  refine stepE0 rfl rfl (fun K hK => ?_)
  go_simp
  refine hK _ ?_
  clear hK K
  refine stepE0 rfl rfl (fun K hK => ?_)
  go_simp
  refine hK _ ?_
  clear hK K
  try refine stepEnil0 ?_
  clear HSD SS
  go_wp2_with fail
  refine bodyPost_ret (v := .tuple #[.agg #[.slice a3 lb.length c3, .slice aB lb.length cB, .bool true, .bool true, .int .i64 1, .int .i64 tm, .int .i64 st], .int .i64 0, .int .i64 0]) ?_ rfl ?_
  · simp [results, Try.results37, go_sem, r30, r31, r32, r33, r34, r35, r36]
  · exact ⟨_, _, rfl, ownsRow_mono (base := w.heap.size + 3) (by (repeat ((with_reducible refine ownsRow_setCell_below ?_ ?_ _); rotate_left; (focus (first | (simp; done) | (simp; omega))))); exact HO3.out) (by omega), (by (repeat ((with_reducible refine Below.setCell ?_ ?_ _); rotate_left; (focus (first | (simp; done) | (simp; omega))))); exact HB3.out)⟩
end Go.Proofs.Ytigkcbnlbdiimaa
