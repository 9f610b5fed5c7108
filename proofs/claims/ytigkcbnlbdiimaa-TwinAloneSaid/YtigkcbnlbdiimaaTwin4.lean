/- Package twin: Ask, Ship. (Written by wip/gentwin.py.) -/
import Derived.Test.YtigkcbnlbdiimaaTwin3
namespace Go.Proofs.Ytigkcbnlbdiimaa
open Go.RowKit
set_option maxRecDepth 100000 in
set_option maxHeartbeats 4000000 in
theorem ship_false (base bp : Nat) (va vb : Value) (ua ub : Bool) (la lb : List Cmd) (tm st t : Int) (w : World) (h : PairAt w base bp va vb ⟨⟨ua, la⟩, ⟨ub, lb⟩, false, tm, st⟩) (hN : la.length ≤ 100000) (hle : ub = true → lb.length ≤ la.length) :
    Calls Try.prog 32 #[.pointer (some ⟨bp, 0, none⟩), .int .i64 t] w
      fun e w' => e = .returned (errV (shipK ⟨⟨ua, la⟩, ⟨ub, lb⟩, false, tm, st⟩ t)) ∧ PairTo w base bp va vb (shipP ⟨⟨ua, la⟩, ⟨ub, lb⟩, false, tm, st⟩ t) w' := by
  obtain ⟨i0, hi, hz0, hz1, hz2⟩ := info_parts cmd_info
  have HI := Lib.hid hi
  have HZ0 := Lib.hid hz0
  have HZ1 := Lib.hid hz1
  have HZ2 := Lib.hid hz2
  clear hi hz0 hz1 hz2
  have H := Lib.hid h
  have hlt := h.lt
  obtain ⟨k0, k1, k2, k3, k4, k5, k6, kf⟩ := h.cell
  simp only [Pr.a, Pr.b, Pr.ld, if_true, if_false, Bool.false_eq_true] at k0 k1 k2 k3 k4 k5 k6
  obtain ⟨aA, cA, rfl⟩ := ownsRow_len h.ra
  obtain ⟨aB, cB, rfl⟩ := ownsRow_len h.rb
  simp only [Pr.a, Pr.b, if_true, if_false, Bool.false_eq_true] at k1 k3
  clear h
  have HLE := Lib.hid hle
  clear hle
  cases ua
  · have e1 : shipK ⟨⟨false, la⟩, ⟨ub, lb⟩, false, tm, st⟩ t = 12 := by simp [shipK]
    have HE := Lib.hid e1
    clear e1
    go_enter Try.func32, Try.ntmps32
    go_wp2_with fail
    refine Calls.mono (leader_0 bp _ ?_) ?_
    · go_simp
    rintro e w1 ⟨rfl, rfl⟩
    go_wp2_with fail
    go_ret
    refine ⟨by rw [HE.out]; exact congrArg _ errV_12.symm, ?_⟩
    rw [shipP, HE.out, if_neg (by omega)]
    exact PairTo.same H.out (by repeat (first | (with_reducible exact Below.refl _ _) | (with_reducible refine Below.setCell ?_ ?_ _) | (with_reducible refine Below.alloc ?_ ?_ _) | (with_reducible refine Below.drewN ?_ _) | (with_reducible refine Below.drew ?_) | (with_reducible exact Nat.le_refl _) | (focus (simp only [World.size_alloc, World.size_setCell, World.size_drew, World.size_drewN]; omega)) | omega | exact Nat.le_refl _ | (focus (simp; done)) | (focus (simp; omega))))
  cases ub
  · have e1 : shipK ⟨⟨true, la⟩, ⟨false, lb⟩, false, tm, st⟩ t = 12 := by simp [shipK]
    have HE := Lib.hid e1
    clear e1
    go_enter Try.func32, Try.ntmps32
    go_wp2_with fail
    refine Calls.mono (leader_0 bp _ ?_) ?_
    · go_simp
    rintro e w1 ⟨rfl, rfl⟩
    go_wp2_with fail
    refine Calls.mono (follower_0 bp _ ?_) ?_
    · go_simp
    rintro e w1 ⟨rfl, rfl⟩
    go_wp2_with fail
    go_ret
    refine ⟨by rw [HE.out]; exact congrArg _ errV_12.symm, ?_⟩
    rw [shipP, HE.out, if_neg (by omega)]
    exact PairTo.same H.out (by repeat (first | (with_reducible exact Below.refl _ _) | (with_reducible refine Below.setCell ?_ ?_ _) | (with_reducible refine Below.alloc ?_ ?_ _) | (with_reducible refine Below.drewN ?_ _) | (with_reducible refine Below.drew ?_) | (with_reducible exact Nat.le_refl _) | (focus (simp only [World.size_alloc, World.size_setCell, World.size_drew, World.size_drewN]; omega)) | omega | exact Nat.le_refl _ | (focus (simp; done)) | (focus (simp; omega))))
  by_cases ht : t = tm
  · have htb : (t != tm) = false := by rw [ht]; simp
    by_cases hll : lb.length = la.length
    · have e1 : shipK ⟨⟨true, la⟩, ⟨true, lb⟩, false, tm, st⟩ t = 6 := by simp [shipK, ht, hll]
      have HE := Lib.hid e1
      have hlb : ((lb.length : Int) == (la.length : Int)) = true := by rw [hll]; simp
      clear e1 ht hll
      go_enter Try.func32, Try.ntmps32
      go_wp2_with fail
      refine Calls.mono (leader_0 bp _ ?_) ?_
      · go_simp
      rintro e w1 ⟨rfl, rfl⟩
      go_wp2_with fail
      refine Calls.mono (follower_0 bp _ ?_) ?_
      · go_simp
      rintro e w1 ⟨rfl, rfl⟩
      go_wp2_with fail
      refine Calls.mono (follower_0 bp _ ?_) ?_
      · go_simp
      rintro e w1 ⟨rfl, rfl⟩
      go_wp2_with fail
      refine Calls.mono (leader_0 bp _ ?_) ?_
      · go_simp
      rintro e w1 ⟨rfl, rfl⟩
      go_wp2_with fail
      go_ret
      refine ⟨by rw [HE.out]; exact congrArg _ errV_6.symm, ?_⟩
      rw [shipP, HE.out, if_neg (by omega)]
      exact PairTo.same H.out (by repeat (first | (with_reducible exact Below.refl _ _) | (with_reducible refine Below.setCell ?_ ?_ _) | (with_reducible refine Below.alloc ?_ ?_ _) | (with_reducible refine Below.drewN ?_ _) | (with_reducible refine Below.drew ?_) | (with_reducible exact Nat.le_refl _) | (focus (simp only [World.size_alloc, World.size_setCell, World.size_drew, World.size_drewN]; omega)) | omega | exact Nat.le_refl _ | (focus (simp; done)) | (focus (simp; omega))))
    · have e1 : shipK ⟨⟨true, la⟩, ⟨true, lb⟩, false, tm, st⟩ t = 0 := by simp [shipK, ht, hll]
      have HE := Lib.hid e1
      have hlb : ((lb.length : Int) == (la.length : Int)) = false := by rw [beq_eq_false_iff_ne]; omega
      have hlt2 : lb.length < la.length := by have := HLE.out rfl; omega
      obtain ⟨c, hc⟩ : ∃ c, la[lb.length]? = some c := ⟨_, List.getElem?_eq_getElem hlt2⟩
      have HRL := Lib.hid (show w.ownsRow base 32 8 (.slice aA la.length cA) la.length (la.flatMap Cmd.row) from H.out.ra)
      have HRF := Lib.hid (show w.ownsRow base 32 8 (.slice aB lb.length cB) lb.length (lb.flatMap Cmd.row) from H.out.rb)
      obtain ⟨gL, cl, eL, hgL, _, _, q0, q1, q2, q3, q4, q5, q6, q7⟩ := row_cmd HRL.out lb.length c hc
      obtain ⟨rfl, -, rfl⟩ := slice_inj eL
      have HC := Lib.hid hc
      obtain ⟨ck, cv, ce, cp, cn, c0, c1, c2⟩ := c
      have hbase : base ≤ w.heap.size := by have := H.out.low; omega
      have hn0 : (0 : Int) ≤ (lb.length : Int) := by omega
      have hn1 : (lb.length : Int) < (la.length : Int) := by omega
      clear e1 ht hll hc eL
      go_enter Try.func32, Try.ntmps32
      go_wp2_with fail
      refine Calls.mono (leader_0 bp _ ?_) ?_
      · go_simp
      rintro e w1 ⟨rfl, rfl⟩
      go_wp2_with fail
      refine Calls.mono (follower_0 bp _ ?_) ?_
      · go_simp
      rintro e w1 ⟨rfl, rfl⟩
      go_wp2_with fail
      refine Calls.mono (follower_0 bp _ ?_) ?_
      · go_simp
      rintro e w1 ⟨rfl, rfl⟩
      go_wp2_with fail
      refine Calls.mono (leader_0 bp _ ?_) ?_
      · go_simp
      rintro e w1 ⟨rfl, rfl⟩
      go_wp2_with fail
      obtain ⟨SS, HSD⟩ : ∃ SS : World → Prop, Hid (SS = fun w' => w'.cell? ⟨bp, 3, none⟩ = some (.slice aB lb.length cB) ∧ w'.cell? ⟨bp, 1, none⟩ = some (.slice (some ⟨gL, 0, none⟩) la.length cA) ∧ w'.cell? ⟨gL, lb.length * 8, none⟩ = some (.int .i64 ck) ∧ w'.cell? ⟨gL, lb.length * 8 + 1, none⟩ = some (.int .i64 cv) ∧ w'.cell? ⟨gL, lb.length * 8 + 2, none⟩ = some (.int .i64 ce) ∧ w'.cell? ⟨gL, lb.length * 8 + 3, none⟩ = some (.int .i64 cp) ∧ w'.cell? ⟨gL, lb.length * 8 + 4, none⟩ = some (.int .i64 cn) ∧ w'.cell? ⟨gL, lb.length * 8 + 5, none⟩ = some (.int .i64 c0) ∧ w'.cell? ⟨gL, lb.length * 8 + 6, none⟩ = some (.int .i64 c1) ∧ w'.cell? ⟨gL, lb.length * 8 + 7, none⟩ = some (.int .i64 c2)) := ⟨_, Lib.hid rfl⟩
      refine wp_region_order0 SS [4, 9, 12] [(0, 0), (1, 0), (2, 0), (3, 0), (4, 2), (5, 0), (10, 0), (6, 1), (7, 0), (8, 0), (9, 2), (11, 0), (12, 2), (13, 1), (14, 1), (15, 0), (16, 0), (17, 1)] (by kernel_rfl) (by kernel_rfl) rfl (by kernel_rfl) ?_ ?_
      focus (rw [HSD.out]; refine ⟨?_, ?_, ?_, ?_, ?_, ?_, ?_, ?_, ?_, ?_⟩ <;> go_simp)
      refine stepE0 rfl rfl (fun K hK => ?_)
      go_simp
      refine hK _ ?_
      clear hK K
      refine stepE0 rfl rfl (fun K hK => ?_)
      go_simp
      refine hK _ ?_
      clear hK K
      refine stepE0 rfl rfl (fun K hK => ?_)
      go_simp
      refine hK _ ?_
      clear hK K
      refine stepE0 rfl rfl (fun K hK => ?_)
      go_simp
      refine hK _ ?_
      clear hK K
      refine stepE2 rfl rfl ?_ (fun w1 hS => ?_) (fun K hK => ?_)
      rotate_left
      focus (rw [HSD.out] at hS; obtain ⟨s0, s9, s1, s2, s3, s4, s5, s6, s7, s8⟩ := hS; go_simp; rfl)
      go_simp
      refine hK _ ?_
      clear hK K
      refine stepE0 rfl rfl (fun K hK => ?_)
      go_simp
      refine hK _ ?_
      clear hK K
      refine stepE0 rfl rfl (fun K hK => ?_)
      go_simp
      refine hK _ ?_
      clear hK K
      refine stepE1S rfl rfl (fun K hK => ?_)
      (go_wp2_with fail; refine Calls.mono (leader_0 bp _ ?_) ?_; (focus (go_simp)); rintro e w2 ⟨rfl, rfl⟩; go_wp2)
      refine ⟨by rw [HSD.out]; exact (by refine ⟨?_, ?_, ?_, ?_, ?_, ?_, ?_, ?_, ?_, ?_⟩ <;> go_simp), ?_⟩
      refine stepE0 rfl rfl (fun K hK => ?_)
      go_simp
      refine hK _ ?_
      clear hK K
      refine stepE0 rfl rfl (fun K hK => ?_)
      go_simp
      refine hK _ ?_
      clear hK K
      refine stepE2 rfl rfl ?_ (fun w1 hS => ?_) (fun K hK => ?_)
      rotate_left
      focus (rw [HSD.out] at hS; obtain ⟨s0, s9, s1, s2, s3, s4, s5, s6, s7, s8⟩ := hS; go_simp; rfl)
      go_simp
      refine hK _ ?_
      clear hK K
      refine stepE0 rfl rfl (fun K hK => ?_)
      go_simp
      refine hK _ ?_
      clear hK K
      refine stepE2 rfl rfl ?_ (fun w1 hS => ?_) (fun K hK => ?_)
      rotate_left
      focus (rw [HSD.out] at hS; obtain ⟨s0, s9, s1, s2, s3, s4, s5, s6, s7, s8⟩ := hS; go_simp; rfl)
      go_simp
      refine hK _ ?_
      clear hK K
      refine stepE1S rfl rfl (fun K hK => ?_)
      go_wp2
      refine ⟨by rw [HSD.out]; exact (by refine ⟨?_, ?_, ?_, ?_, ?_, ?_, ?_, ?_, ?_, ?_⟩ <;> go_simp), ?_⟩
      refine stepE1 rfl rfl (by kernel_rfl) (fun K hK => ?_)
      (refine wp_append_lies _ _ _ 46 rfl base 32 i0 (.agg #[.int .i64 0, .int .i64 0, .int .i64 0, .int .i64 0, .int .i64 0, .int .i64 0, .int .i64 0, .int .i64 0]) 8 64 Try.underlying46 HI.out HZ0.out HZ1.out HZ2.out rfl (by decide) (.slice aB lb.length cB) lb.length (lb.flatMap Cmd.row) rfl (by have h := ((((((HRF.out.alloc (.cells #[.int .i64 ck, .int .i64 cv, .int .i64 ce, .int .i64 cp, .int .i64 cn, .int .i64 c0, .int .i64 c1, .int .i64 c2] 32)).drew).drew).drew).drew).drew).drew; exact h) ⟨w.heap.size, 0, none⟩ 1 1 [.int .i64 ck, .int .i64 cv, .int .i64 ce, .int .i64 cp, .int .i64 cn, .int .i64 c0, .int .i64 c1, .int .i64 c2] rfl rfl (World.news_of_block (heap_alloc_new w (.cells #[.int .i64 ck, .int .i64 cv, .int .i64 ce, .int .i64 cp, .int .i64 cn, .int .i64 c0, .int .i64 c1, .int .i64 c2] 32))) (by simp [Value.oneCell']) (by omega) (by unfold maxLen; omega) (by omega) (by simp; omega) _ rfl ?_; intro g cg w2 hown2 hgrow hat hlt2; have HP := Lib.hid (Pst.grown (F := fun k => k = bp ∨ (Value.slice aB lb.length cB).ownBlock = some k) (((((((((Pst.refl H.out.blk).alloc (.cells #[.int .i64 ck, .int .i64 cv, .int .i64 ce, .int .i64 cp, .int .i64 cn, .int .i64 c0, .int .i64 c1, .int .i64 c2] 32)).drew).drew).drew).drew).drew).drew)) hgrow (fun k e => .inr e) H.out.nb); have kx : w2.cell? ⟨bp, 3, none⟩ = some (.slice aB lb.length cB) := (grown_cell hgrow (by simp; omega) H.out.nb).trans (by go_simp); have ks : w2.cell? ⟨bp, 6, none⟩ = some (.int .i64 st) := (grown_cell hgrow (by simp; omega) H.out.nb).trans (by go_simp); have kfx : ∀ o, w2.frozen? ⟨bp, o, none⟩ = false := (fun o => (grown_frozen hgrow (by simp; omega) H.out.nb).trans (by go_simp)); have HO2 := Lib.hid hown2; have HAT := Lib.hid hat; clear hown2 hgrow hat; go_wp2)
      refine stepE0 rfl rfl (fun K hK => ?_)
      go_simp
      refine hK _ ?_
      clear hK K
      refine stepE0 rfl rfl (fun K hK => ?_)
      go_simp
      refine hK _ ?_
      clear hK K
      refine stepE1 rfl rfl (by kernel_rfl) (fun K hK => ?_)
      go_wp2
      try refine stepEnil0 ?_
      clear HSD SS
      have HPS := Lib.hid (HP.out.setCell (i := 3) (v := .slice (some ⟨g, 0, none⟩) (lb.length + 1) cg) (.inl rfl))
      have HKK := Lib.hid ((Keeps.refl (fun k => k = bp) w2).setCell ⟨bp, 3, none⟩ (.slice (some ⟨g, 0, none⟩) (lb.length + 1) cg) (fun _ => rfl))
      have HAT' : Hid ((Value.slice aB lb.length cB).ownBlock = some g ∨ w.heap.size ≤ g) := by
        rcases HAT.out with h | h
        · exact .inl h
        · exact .inr (by simp at h; omega)
      clear HP
      go_wp2_with fail
      refine Calls.mono (settle_any bp st _ _ ?_ ?_) ?_
      · go_simp
      · go_simp
      rintro e w3 ⟨rfl, rfl⟩
      go_wp2_with fail
      go_ret
      refine ⟨by rw [HE.out]; rfl, ?_⟩
      rw [shipP, HE.out, if_pos rfl]
      simp only [HC.out]
      refine PairTo.of_b (w1 := w2) H.out (Pst.cast (HPS.out.setCell (i := 6) (.inl rfl)) ?_) (ownsRow_cast HO2.out ?_ ?_) (HKK.out.setCell _ _ (fun _ => rfl)) HAT'.out rfl
      · simp [Pr.cells, Pr.a, Pr.b, Pr.ld]
      · simp [Pr.a, Pr.b]
      · simp [Pr.a, Pr.b, Cmd.row]
  · have e1 : shipK ⟨⟨true, la⟩, ⟨true, lb⟩, false, tm, st⟩ t = 13 := by simp [shipK, ht]
    have HE := Lib.hid e1
    have htb : (t != tm) = true := by rw [bne_iff_ne]; exact ht
    clear e1 ht
    go_enter Try.func32, Try.ntmps32
    go_wp2_with fail
    refine Calls.mono (leader_0 bp _ ?_) ?_
    · go_simp
    rintro e w1 ⟨rfl, rfl⟩
    go_wp2_with fail
    refine Calls.mono (follower_0 bp _ ?_) ?_
    · go_simp
    rintro e w1 ⟨rfl, rfl⟩
    go_wp2_with fail
    go_ret
    refine ⟨by rw [HE.out]; exact congrArg _ errV_13.symm, ?_⟩
    rw [shipP, HE.out, if_neg (by omega)]
    exact PairTo.same H.out (by repeat (first | (with_reducible exact Below.refl _ _) | (with_reducible refine Below.setCell ?_ ?_ _) | (with_reducible refine Below.alloc ?_ ?_ _) | (with_reducible refine Below.drewN ?_ _) | (with_reducible refine Below.drew ?_) | (with_reducible exact Nat.le_refl _) | (focus (simp only [World.size_alloc, World.size_setCell, World.size_drew, World.size_drewN]; omega)) | omega | exact Nat.le_refl _ | (focus (simp; done)) | (focus (simp; omega))))
set_option maxRecDepth 100000 in
set_option maxHeartbeats 4000000 in
theorem ship_true (base bp : Nat) (va vb : Value) (ua ub : Bool) (la lb : List Cmd) (tm st t : Int) (w : World) (h : PairAt w base bp va vb ⟨⟨ua, la⟩, ⟨ub, lb⟩, true, tm, st⟩) (hN : la.length ≤ 100000) (hle : ub = true → lb.length ≤ la.length) :
    Calls Try.prog 32 #[.pointer (some ⟨bp, 0, none⟩), .int .i64 t] w
      fun e w' => e = .returned (errV (shipK ⟨⟨ua, la⟩, ⟨ub, lb⟩, true, tm, st⟩ t)) ∧ PairTo w base bp va vb (shipP ⟨⟨ua, la⟩, ⟨ub, lb⟩, true, tm, st⟩ t) w' := by
  obtain ⟨i0, hi, hz0, hz1, hz2⟩ := info_parts cmd_info
  have HI := Lib.hid hi
  have HZ0 := Lib.hid hz0
  have HZ1 := Lib.hid hz1
  have HZ2 := Lib.hid hz2
  clear hi hz0 hz1 hz2
  have H := Lib.hid h
  have hlt := h.lt
  obtain ⟨k0, k1, k2, k3, k4, k5, k6, kf⟩ := h.cell
  simp only [Pr.a, Pr.b, Pr.ld, if_true, if_false, Bool.false_eq_true] at k0 k1 k2 k3 k4 k5 k6
  obtain ⟨aA, cA, rfl⟩ := ownsRow_len h.ra
  obtain ⟨aB, cB, rfl⟩ := ownsRow_len h.rb
  simp only [Pr.a, Pr.b, if_true, if_false, Bool.false_eq_true] at k1 k3
  clear h
  have HLE := Lib.hid hle
  clear hle
  cases ua
  · have e1 : shipK ⟨⟨false, la⟩, ⟨ub, lb⟩, true, tm, st⟩ t = 12 := by simp [shipK]
    have HE := Lib.hid e1
    clear e1
    go_enter Try.func32, Try.ntmps32
    go_wp2_with fail
    refine Calls.mono (leader_1 bp _ ?_) ?_
    · go_simp
    rintro e w1 ⟨rfl, rfl⟩
    go_wp2_with fail
    go_ret
    refine ⟨by rw [HE.out]; exact congrArg _ errV_12.symm, ?_⟩
    rw [shipP, HE.out, if_neg (by omega)]
    exact PairTo.same H.out (by repeat (first | (with_reducible exact Below.refl _ _) | (with_reducible refine Below.setCell ?_ ?_ _) | (with_reducible refine Below.alloc ?_ ?_ _) | (with_reducible refine Below.drewN ?_ _) | (with_reducible refine Below.drew ?_) | (with_reducible exact Nat.le_refl _) | (focus (simp only [World.size_alloc, World.size_setCell, World.size_drew, World.size_drewN]; omega)) | omega | exact Nat.le_refl _ | (focus (simp; done)) | (focus (simp; omega))))
  cases ub
  · have e1 : shipK ⟨⟨true, la⟩, ⟨false, lb⟩, true, tm, st⟩ t = 12 := by simp [shipK]
    have HE := Lib.hid e1
    clear e1
    go_enter Try.func32, Try.ntmps32
    go_wp2_with fail
    refine Calls.mono (leader_1 bp _ ?_) ?_
    · go_simp
    rintro e w1 ⟨rfl, rfl⟩
    go_wp2_with fail
    refine Calls.mono (follower_1 bp _ ?_) ?_
    · go_simp
    rintro e w1 ⟨rfl, rfl⟩
    go_wp2_with fail
    go_ret
    refine ⟨by rw [HE.out]; exact congrArg _ errV_12.symm, ?_⟩
    rw [shipP, HE.out, if_neg (by omega)]
    exact PairTo.same H.out (by repeat (first | (with_reducible exact Below.refl _ _) | (with_reducible refine Below.setCell ?_ ?_ _) | (with_reducible refine Below.alloc ?_ ?_ _) | (with_reducible refine Below.drewN ?_ _) | (with_reducible refine Below.drew ?_) | (with_reducible exact Nat.le_refl _) | (focus (simp only [World.size_alloc, World.size_setCell, World.size_drew, World.size_drewN]; omega)) | omega | exact Nat.le_refl _ | (focus (simp; done)) | (focus (simp; omega))))
  by_cases ht : t = tm
  · have htb : (t != tm) = false := by rw [ht]; simp
    by_cases hll : lb.length = la.length
    · have e1 : shipK ⟨⟨true, la⟩, ⟨true, lb⟩, true, tm, st⟩ t = 6 := by simp [shipK, ht, hll]
      have HE := Lib.hid e1
      have hlb : ((lb.length : Int) == (la.length : Int)) = true := by rw [hll]; simp
      clear e1 ht hll
      go_enter Try.func32, Try.ntmps32
      go_wp2_with fail
      refine Calls.mono (leader_1 bp _ ?_) ?_
      · go_simp
      rintro e w1 ⟨rfl, rfl⟩
      go_wp2_with fail
      refine Calls.mono (follower_1 bp _ ?_) ?_
      · go_simp
      rintro e w1 ⟨rfl, rfl⟩
      go_wp2_with fail
      refine Calls.mono (follower_1 bp _ ?_) ?_
      · go_simp
      rintro e w1 ⟨rfl, rfl⟩
      go_wp2_with fail
      refine Calls.mono (leader_1 bp _ ?_) ?_
      · go_simp
      rintro e w1 ⟨rfl, rfl⟩
      go_wp2_with fail
      go_ret
      refine ⟨by rw [HE.out]; exact congrArg _ errV_6.symm, ?_⟩
      rw [shipP, HE.out, if_neg (by omega)]
      exact PairTo.same H.out (by repeat (first | (with_reducible exact Below.refl _ _) | (with_reducible refine Below.setCell ?_ ?_ _) | (with_reducible refine Below.alloc ?_ ?_ _) | (with_reducible refine Below.drewN ?_ _) | (with_reducible refine Below.drew ?_) | (with_reducible exact Nat.le_refl _) | (focus (simp only [World.size_alloc, World.size_setCell, World.size_drew, World.size_drewN]; omega)) | omega | exact Nat.le_refl _ | (focus (simp; done)) | (focus (simp; omega))))
    · have e1 : shipK ⟨⟨true, la⟩, ⟨true, lb⟩, true, tm, st⟩ t = 0 := by simp [shipK, ht, hll]
      have HE := Lib.hid e1
      have hlb : ((lb.length : Int) == (la.length : Int)) = false := by rw [beq_eq_false_iff_ne]; omega
      have hlt2 : lb.length < la.length := by have := HLE.out rfl; omega
      obtain ⟨c, hc⟩ : ∃ c, la[lb.length]? = some c := ⟨_, List.getElem?_eq_getElem hlt2⟩
      have HRL := Lib.hid (show w.ownsRow base 32 8 (.slice aB la.length cB) la.length (la.flatMap Cmd.row) from H.out.rb)
      have HRF := Lib.hid (show w.ownsRow base 32 8 (.slice aA lb.length cA) lb.length (lb.flatMap Cmd.row) from H.out.ra)
      obtain ⟨gL, cl, eL, hgL, _, _, q0, q1, q2, q3, q4, q5, q6, q7⟩ := row_cmd HRL.out lb.length c hc
      obtain ⟨rfl, -, rfl⟩ := slice_inj eL
      have HC := Lib.hid hc
      obtain ⟨ck, cv, ce, cp, cn, c0, c1, c2⟩ := c
      have hbase : base ≤ w.heap.size := by have := H.out.low; omega
      have hn0 : (0 : Int) ≤ (lb.length : Int) := by omega
      have hn1 : (lb.length : Int) < (la.length : Int) := by omega
      clear e1 ht hll hc eL
      go_enter Try.func32, Try.ntmps32
      go_wp2_with fail
      refine Calls.mono (leader_1 bp _ ?_) ?_
      · go_simp
      rintro e w1 ⟨rfl, rfl⟩
      go_wp2_with fail
      refine Calls.mono (follower_1 bp _ ?_) ?_
      · go_simp
      rintro e w1 ⟨rfl, rfl⟩
      go_wp2_with fail
      refine Calls.mono (follower_1 bp _ ?_) ?_
      · go_simp
      rintro e w1 ⟨rfl, rfl⟩
      go_wp2_with fail
      refine Calls.mono (leader_1 bp _ ?_) ?_
      · go_simp
      rintro e w1 ⟨rfl, rfl⟩
      go_wp2_with fail
      obtain ⟨SS, HSD⟩ : ∃ SS : World → Prop, Hid (SS = fun w' => w'.cell? ⟨bp, 1, none⟩ = some (.slice aA lb.length cA) ∧ w'.cell? ⟨bp, 3, none⟩ = some (.slice (some ⟨gL, 0, none⟩) la.length cB) ∧ w'.cell? ⟨gL, lb.length * 8, none⟩ = some (.int .i64 ck) ∧ w'.cell? ⟨gL, lb.length * 8 + 1, none⟩ = some (.int .i64 cv) ∧ w'.cell? ⟨gL, lb.length * 8 + 2, none⟩ = some (.int .i64 ce) ∧ w'.cell? ⟨gL, lb.length * 8 + 3, none⟩ = some (.int .i64 cp) ∧ w'.cell? ⟨gL, lb.length * 8 + 4, none⟩ = some (.int .i64 cn) ∧ w'.cell? ⟨gL, lb.length * 8 + 5, none⟩ = some (.int .i64 c0) ∧ w'.cell? ⟨gL, lb.length * 8 + 6, none⟩ = some (.int .i64 c1) ∧ w'.cell? ⟨gL, lb.length * 8 + 7, none⟩ = some (.int .i64 c2)) := ⟨_, Lib.hid rfl⟩
      refine wp_region_order0 SS [4, 9, 12] [(0, 0), (1, 0), (2, 0), (3, 0), (4, 2), (5, 0), (10, 0), (6, 1), (7, 0), (8, 0), (9, 2), (11, 0), (12, 2), (13, 1), (14, 1), (15, 0), (16, 0), (17, 1)] (by kernel_rfl) (by kernel_rfl) rfl (by kernel_rfl) ?_ ?_
      focus (rw [HSD.out]; refine ⟨?_, ?_, ?_, ?_, ?_, ?_, ?_, ?_, ?_, ?_⟩ <;> go_simp)
      refine stepE0 rfl rfl (fun K hK => ?_)
      go_simp
      refine hK _ ?_
      clear hK K
      refine stepE0 rfl rfl (fun K hK => ?_)
      go_simp
      refine hK _ ?_
      clear hK K
      refine stepE0 rfl rfl (fun K hK => ?_)
      go_simp
      refine hK _ ?_
      clear hK K
      refine stepE0 rfl rfl (fun K hK => ?_)
      go_simp
      refine hK _ ?_
      clear hK K
      refine stepE2 rfl rfl ?_ (fun w1 hS => ?_) (fun K hK => ?_)
      rotate_left
      focus (rw [HSD.out] at hS; obtain ⟨s0, s9, s1, s2, s3, s4, s5, s6, s7, s8⟩ := hS; go_simp; rfl)
      go_simp
      refine hK _ ?_
      clear hK K
      refine stepE0 rfl rfl (fun K hK => ?_)
      go_simp
      refine hK _ ?_
      clear hK K
      refine stepE0 rfl rfl (fun K hK => ?_)
      go_simp
      refine hK _ ?_
      clear hK K
      refine stepE1S rfl rfl (fun K hK => ?_)
      (go_wp2_with fail; refine Calls.mono (leader_1 bp _ ?_) ?_; (focus (go_simp)); rintro e w2 ⟨rfl, rfl⟩; go_wp2)
      refine ⟨by rw [HSD.out]; exact (by refine ⟨?_, ?_, ?_, ?_, ?_, ?_, ?_, ?_, ?_, ?_⟩ <;> go_simp), ?_⟩
      refine stepE0 rfl rfl (fun K hK => ?_)
      go_simp
      refine hK _ ?_
      clear hK K
      refine stepE0 rfl rfl (fun K hK => ?_)
      go_simp
      refine hK _ ?_
      clear hK K
      refine stepE2 rfl rfl ?_ (fun w1 hS => ?_) (fun K hK => ?_)
      rotate_left
      focus (rw [HSD.out] at hS; obtain ⟨s0, s9, s1, s2, s3, s4, s5, s6, s7, s8⟩ := hS; go_simp; rfl)
      go_simp
      refine hK _ ?_
      clear hK K
      refine stepE0 rfl rfl (fun K hK => ?_)
      go_simp
      refine hK _ ?_
      clear hK K
      refine stepE2 rfl rfl ?_ (fun w1 hS => ?_) (fun K hK => ?_)
      rotate_left
      focus (rw [HSD.out] at hS; obtain ⟨s0, s9, s1, s2, s3, s4, s5, s6, s7, s8⟩ := hS; go_simp; rfl)
      go_simp
      refine hK _ ?_
      clear hK K
      refine stepE1S rfl rfl (fun K hK => ?_)
      go_wp2
      refine ⟨by rw [HSD.out]; exact (by refine ⟨?_, ?_, ?_, ?_, ?_, ?_, ?_, ?_, ?_, ?_⟩ <;> go_simp), ?_⟩
      refine stepE1 rfl rfl (by kernel_rfl) (fun K hK => ?_)
      (refine wp_append_lies _ _ _ 46 rfl base 32 i0 (.agg #[.int .i64 0, .int .i64 0, .int .i64 0, .int .i64 0, .int .i64 0, .int .i64 0, .int .i64 0, .int .i64 0]) 8 64 Try.underlying46 HI.out HZ0.out HZ1.out HZ2.out rfl (by decide) (.slice aA lb.length cA) lb.length (lb.flatMap Cmd.row) rfl (by have h := ((((((HRF.out.alloc (.cells #[.int .i64 ck, .int .i64 cv, .int .i64 ce, .int .i64 cp, .int .i64 cn, .int .i64 c0, .int .i64 c1, .int .i64 c2] 32)).drew).drew).drew).drew).drew).drew; exact h) ⟨w.heap.size, 0, none⟩ 1 1 [.int .i64 ck, .int .i64 cv, .int .i64 ce, .int .i64 cp, .int .i64 cn, .int .i64 c0, .int .i64 c1, .int .i64 c2] rfl rfl (World.news_of_block (heap_alloc_new w (.cells #[.int .i64 ck, .int .i64 cv, .int .i64 ce, .int .i64 cp, .int .i64 cn, .int .i64 c0, .int .i64 c1, .int .i64 c2] 32))) (by simp [Value.oneCell']) (by omega) (by unfold maxLen; omega) (by omega) (by simp; omega) _ rfl ?_; intro g cg w2 hown2 hgrow hat hlt2; have HP := Lib.hid (Pst.grown (F := fun k => k = bp ∨ (Value.slice aA lb.length cA).ownBlock = some k) (((((((((Pst.refl H.out.blk).alloc (.cells #[.int .i64 ck, .int .i64 cv, .int .i64 ce, .int .i64 cp, .int .i64 cn, .int .i64 c0, .int .i64 c1, .int .i64 c2] 32)).drew).drew).drew).drew).drew).drew)) hgrow (fun k e => .inr e) H.out.na); have kx : w2.cell? ⟨bp, 1, none⟩ = some (.slice aA lb.length cA) := (grown_cell hgrow (by simp; omega) H.out.na).trans (by go_simp); have ks : w2.cell? ⟨bp, 6, none⟩ = some (.int .i64 st) := (grown_cell hgrow (by simp; omega) H.out.na).trans (by go_simp); have kfx : ∀ o, w2.frozen? ⟨bp, o, none⟩ = false := (fun o => (grown_frozen hgrow (by simp; omega) H.out.na).trans (by go_simp)); have HO2 := Lib.hid hown2; have HAT := Lib.hid hat; clear hown2 hgrow hat; go_wp2)
      refine stepE0 rfl rfl (fun K hK => ?_)
      go_simp
      refine hK _ ?_
      clear hK K
      refine stepE0 rfl rfl (fun K hK => ?_)
      go_simp
      refine hK _ ?_
      clear hK K
      refine stepE1 rfl rfl (by kernel_rfl) (fun K hK => ?_)
      go_wp2
      try refine stepEnil0 ?_
      clear HSD SS
      have HPS := Lib.hid (HP.out.setCell (i := 1) (v := .slice (some ⟨g, 0, none⟩) (lb.length + 1) cg) (.inl rfl))
      have HKK := Lib.hid ((Keeps.refl (fun k => k = bp) w2).setCell ⟨bp, 1, none⟩ (.slice (some ⟨g, 0, none⟩) (lb.length + 1) cg) (fun _ => rfl))
      have HAT' : Hid ((Value.slice aA lb.length cA).ownBlock = some g ∨ w.heap.size ≤ g) := by
        rcases HAT.out with h | h
        · exact .inl h
        · exact .inr (by simp at h; omega)
      clear HP
      go_wp2_with fail
      refine Calls.mono (settle_any bp st _ _ ?_ ?_) ?_
      · go_simp
      · go_simp
      rintro e w3 ⟨rfl, rfl⟩
      go_wp2_with fail
      go_ret
      refine ⟨by rw [HE.out]; rfl, ?_⟩
      rw [shipP, HE.out, if_pos rfl]
      simp only [HC.out]
      refine PairTo.of_a (w1 := w2) H.out (Pst.cast (HPS.out.setCell (i := 6) (.inl rfl)) ?_) (ownsRow_cast HO2.out ?_ ?_) (HKK.out.setCell _ _ (fun _ => rfl)) HAT'.out rfl
      · simp [Pr.cells, Pr.a, Pr.b, Pr.ld]
      · simp [Pr.a, Pr.b]
      · simp [Pr.a, Pr.b, Cmd.row]
  · have e1 : shipK ⟨⟨true, la⟩, ⟨true, lb⟩, true, tm, st⟩ t = 13 := by simp [shipK, ht]
    have HE := Lib.hid e1
    have htb : (t != tm) = true := by rw [bne_iff_ne]; exact ht
    clear e1 ht
    go_enter Try.func32, Try.ntmps32
    go_wp2_with fail
    refine Calls.mono (leader_1 bp _ ?_) ?_
    · go_simp
    rintro e w1 ⟨rfl, rfl⟩
    go_wp2_with fail
    refine Calls.mono (follower_1 bp _ ?_) ?_
    · go_simp
    rintro e w1 ⟨rfl, rfl⟩
    go_wp2_with fail
    go_ret
    refine ⟨by rw [HE.out]; exact congrArg _ errV_13.symm, ?_⟩
    rw [shipP, HE.out, if_neg (by omega)]
    exact PairTo.same H.out (by repeat (first | (with_reducible exact Below.refl _ _) | (with_reducible refine Below.setCell ?_ ?_ _) | (with_reducible refine Below.alloc ?_ ?_ _) | (with_reducible refine Below.drewN ?_ _) | (with_reducible refine Below.drew ?_) | (with_reducible exact Nat.le_refl _) | (focus (simp only [World.size_alloc, World.size_setCell, World.size_drew, World.size_drewN]; omega)) | omega | exact Nat.le_refl _ | (focus (simp; done)) | (focus (simp; omega))))
end Go.Proofs.Ytigkcbnlbdiimaa
