/- Package twin: Ask, Ship. (Written by wip/gentwin.py.) -/
import Derived.Test.YtigkcbnlbdiimaaTwinPlain
namespace Go.Proofs.Ytigkcbnlbdiimaa
open Go.RowKit
theorem errV_13 : errV 13 = .iface 106 (.int .i64 13) := errV_ne (by omega)
theorem errV_12 : errV 12 = .iface 106 (.int .i64 12) := errV_ne (by omega)
theorem errV_6 : errV 6 = .iface 106 (.int .i64 6) := errV_ne (by omega)
theorem errV_14 : errV 14 = .iface 106 (.int .i64 14) := errV_ne (by omega)
theorem errV_1 : errV 1 = .iface 106 (.int .i64 1) := errV_ne (by omega)
set_option maxRecDepth 100000 in
set_option maxHeartbeats 4000000 in
theorem ask_false (base bp : Nat) (va vb : Value) (ua ub : Bool) (la lb : List Cmd) (tm st t : Int) (c : Cmd) (w : World) (h : PairAt w base bp va vb ⟨⟨ua, la⟩, ⟨ub, lb⟩, false, tm, st⟩) (hN : la.length ≤ 100000) :
    Calls Try.prog 30 #[.pointer (some ⟨bp, 0, none⟩), .int .i64 t, .agg #[.int .i64 c.kind, .int .i64 c.vol, .int .i64 c.epoch, .int .i64 c.spot, .int .i64 c.node, .int .i64 c.n0, .int .i64 c.n1, .int .i64 c.n2]] w
      fun e w' => e = .returned (.tuple #[.int .i64 (askN ⟨⟨ua, la⟩, ⟨ub, lb⟩, false, tm, st⟩ t), errV (askK ⟨⟨ua, la⟩, ⟨ub, lb⟩, false, tm, st⟩ t)]) ∧ PairTo w base bp va vb (askP ⟨⟨ua, la⟩, ⟨ub, lb⟩, false, tm, st⟩ t c) w' := by
  obtain ⟨i0, hi, hz0, hz1, hz2⟩ := info_parts cmd_info
  have HI := Lib.hid hi
  have HZ0 := Lib.hid hz0
  have HZ1 := Lib.hid hz1
  have HZ2 := Lib.hid hz2
  clear hi hz0 hz1 hz2
  obtain ⟨ck, cv, ce, cp, cn, c0, c1, c2⟩ := c
  have H := Lib.hid h
  have hlt := h.lt
  obtain ⟨k0, k1, k2, k3, k4, k5, k6, kf⟩ := h.cell
  simp only [Pr.a, Pr.b, Pr.ld, if_true, if_false, Bool.false_eq_true] at k0 k1 k2 k3 k4 k5 k6
  obtain ⟨aL, cL, rfl⟩ := ownsRow_len h.ra
  simp only [Pr.a, Pr.b, if_true, if_false, Bool.false_eq_true] at k1 k3
  clear h
  cases ua
  · have e1 : askK ⟨⟨false, la⟩, ⟨ub, lb⟩, false, tm, st⟩ t = 12 := by simp [askK]
    have HE := Lib.hid e1
    clear e1
    go_enter Try.func30, Try.ntmps30
    go_wp2_with fail
    refine (leader_any base bp _ _ _ _ (H.out.below (by repeat (first | (with_reducible exact Below.refl _ _) | (with_reducible refine Below.setCell ?_ ?_ _) | (with_reducible refine Below.alloc ?_ ?_ _) | (with_reducible refine Below.drewN ?_ _) | (with_reducible refine Below.drew ?_) | (with_reducible exact Nat.le_refl _) | (focus (simp only [World.size_alloc, World.size_setCell, World.size_drew, World.size_drewN]; omega)) | omega | exact Nat.le_refl _ | (focus (simp; done)) | (focus (simp; omega)))))).mono ?_
    rintro e w1 ⟨rfl, rfl⟩
    simp only [if_true, if_false, Bool.false_eq_true]
    go_wp2_with fail
    go_ret2
    refine ⟨by rw [askN, HE.out, if_neg (by omega)]; exact congrArg _ (congrArg (fun v => Value.tuple #[.int .i64 0, v]) errV_12.symm), ?_⟩
    rw [askP, HE.out, if_neg (by omega)]
    exact PairTo.same H.out (by repeat (first | (with_reducible exact Below.refl _ _) | (with_reducible refine Below.setCell ?_ ?_ _) | (with_reducible refine Below.alloc ?_ ?_ _) | (with_reducible refine Below.drewN ?_ _) | (with_reducible refine Below.drew ?_) | (with_reducible exact Nat.le_refl _) | (focus (simp only [World.size_alloc, World.size_setCell, World.size_drew, World.size_drewN]; omega)) | omega | exact Nat.le_refl _ | (focus (simp; done)) | (focus (simp; omega))))
  by_cases ht : t = tm
  · have e1 : askK ⟨⟨true, la⟩, ⟨ub, lb⟩, false, tm, st⟩ t = 0 := by simp [askK, ht]
    have HE := Lib.hid e1
    have htb : (t != tm) = false := by rw [ht]; simp
    clear e1 ht
    have HR := Lib.hid (show w.ownsRow base 32 8 (.slice aL la.length cL) la.length (la.flatMap Cmd.row) from H.out.ra)
    have hne : ∀ k, (Value.slice aL la.length cL).ownBlock = some k → k ≠ bp ∧ k < w.heap.size := fun k hk => ⟨fun e => H.out.na (by rw [← e]; exact hk), (HR.out.lt k hk).2⟩
    have HNE := Lib.hid hne
    clear hne
    have hbase : base ≤ w.heap.size := by have := H.out.low; omega
    go_enter Try.func30, Try.ntmps30
    go_wp2_with fail
    refine (leader_any base bp _ _ _ _ (H.out.below (by repeat (first | (with_reducible exact Below.refl _ _) | (with_reducible refine Below.setCell ?_ ?_ _) | (with_reducible refine Below.alloc ?_ ?_ _) | (with_reducible refine Below.drewN ?_ _) | (with_reducible refine Below.drew ?_) | (with_reducible exact Nat.le_refl _) | (focus (simp only [World.size_alloc, World.size_setCell, World.size_drew, World.size_drewN]; omega)) | omega | exact Nat.le_refl _ | (focus (simp; done)) | (focus (simp; omega)))))).mono ?_
    rintro e w1 ⟨rfl, rfl⟩
    simp only [if_true, if_false, Bool.false_eq_true]
    go_wp2_with fail
    refine (leader_any base bp _ _ _ _ (H.out.below (by repeat (first | (with_reducible exact Below.refl _ _) | (with_reducible refine Below.setCell ?_ ?_ _) | (with_reducible refine Below.alloc ?_ ?_ _) | (with_reducible refine Below.drewN ?_ _) | (with_reducible refine Below.drew ?_) | (with_reducible exact Nat.le_refl _) | (focus (simp only [World.size_alloc, World.size_setCell, World.size_drew, World.size_drewN]; omega)) | omega | exact Nat.le_refl _ | (focus (simp; done)) | (focus (simp; omega)))))).mono ?_
    rintro e w1 ⟨rfl, rfl⟩
    simp only [if_true, if_false, Bool.false_eq_true]
    go_wp2_with fail
    obtain ⟨SS, HSD⟩ : ∃ SS : World → Prop, Hid (SS = fun w' => w'.cell? ⟨bp, 1, none⟩ = some (.slice aL la.length cL) ∧ w'.cell? ⟨w.heap.size, 0, none⟩ = some (.int .i64 ck) ∧ w'.cell? ⟨w.heap.size, 1, none⟩ = some (.int .i64 cv) ∧ w'.cell? ⟨w.heap.size, 2, none⟩ = some (.int .i64 ce) ∧ w'.cell? ⟨w.heap.size, 3, none⟩ = some (.int .i64 cp) ∧ w'.cell? ⟨w.heap.size, 4, none⟩ = some (.int .i64 cn) ∧ w'.cell? ⟨w.heap.size, 5, none⟩ = some (.int .i64 c0) ∧ w'.cell? ⟨w.heap.size, 6, none⟩ = some (.int .i64 c1) ∧ w'.cell? ⟨w.heap.size, 7, none⟩ = some (.int .i64 c2)) := ⟨_, Lib.hid rfl⟩
    refine wp_region_order0 SS [4, 5] [(0, 0), (1, 0), (2, 0), (3, 0), (4, 2), (5, 2), (6, 1), (7, 1), (8, 0), (9, 0), (10, 1)] (by kernel_rfl) (by kernel_rfl) rfl (by kernel_rfl) ?_ ?_
    focus (rw [HSD.out]; refine ⟨?_, ?_, ?_, ?_, ?_, ?_, ?_, ?_, ?_⟩ <;> go_simp)
    refine stepE0 rfl rfl (fun K hK => ?_)
    go_simp
    refine hK _ ?_
    clear hK K
    refine stepE0 rfl rfl (fun K hK => ?_)
    go_simp
    refine hK _ ?_
    clear hK K
    refine stepE0 rfl rfl (fun K hK => ?_)
    go_simp
    refine hK _ ?_
    clear hK K
    refine stepE0 rfl rfl (fun K hK => ?_)
    go_simp
    refine hK _ ?_
    clear hK K
    refine stepE2 rfl rfl ?_ (fun w1 hS => ?_) (fun K hK => ?_)
    rotate_left
    focus (rw [HSD.out] at hS; obtain ⟨s0, s1, s2, s3, s4, s5, s6, s7, s8⟩ := hS; go_simp; rfl)
    go_simp
    refine hK _ ?_
    clear hK K
    refine stepE2 rfl rfl ?_ (fun w1 hS => ?_) (fun K hK => ?_)
    rotate_left
    focus (rw [HSD.out] at hS; obtain ⟨s0, s1, s2, s3, s4, s5, s6, s7, s8⟩ := hS; go_simp; rfl)
    go_simp
    refine hK _ ?_
    clear hK K
    refine stepE1S rfl rfl (fun K hK => ?_)
    go_wp2
    refine ⟨by rw [HSD.out]; exact (by refine ⟨?_, ?_, ?_, ?_, ?_, ?_, ?_, ?_, ?_⟩ <;> go_simp), ?_⟩
    refine stepE1 rfl rfl (by kernel_rfl) (fun K hK => ?_)
    (refine wp_append_lies _ _ _ 46 rfl base 32 i0 (.agg #[.int .i64 0, .int .i64 0, .int .i64 0, .int .i64 0, .int .i64 0, .int .i64 0, .int .i64 0, .int .i64 0]) 8 64 Try.underlying46 HI.out HZ0.out HZ1.out HZ2.out rfl (by decide) (.slice aL la.length cL) la.length (la.flatMap Cmd.row) rfl ((((HR.out.alloc _).alloc _).drew).drew).drew ⟨w.heap.size + 1, 0, none⟩ 1 1 [.int .i64 ck, .int .i64 cv, .int .i64 ce, .int .i64 cp, .int .i64 cn, .int .i64 c0, .int .i64 c1, .int .i64 c2] rfl rfl (World.news_of_block (by have h := heap_alloc_new (w.alloc (.cells #[.int .i64 ck, .int .i64 cv, .int .i64 ce, .int .i64 cp, .int .i64 cn, .int .i64 c0, .int .i64 c1, .int .i64 c2] 32)) (.cells #[.int .i64 ck, .int .i64 cv, .int .i64 ce, .int .i64 cp, .int .i64 cn, .int .i64 c0, .int .i64 c1, .int .i64 c2] 32); rw [World.size_alloc] at h; exact h)) (by simp [Value.oneCell']) (by omega) (by unfold maxLen; omega) (by omega) (by simp; omega) _ rfl ?_; intro g cg w2 hown2 hgrow hat hlt2; have HP := Lib.hid (Pst.grown (F := fun k => k = bp ∨ (Value.slice aL la.length cL).ownBlock = some k) ((((((Pst.refl H.out.blk).alloc _).alloc _).drew).drew).drew) hgrow (fun k e => .inr e) H.out.na); have kx : w2.cell? ⟨bp, 1, none⟩ = some (.slice aL la.length cL) := (grown_cell hgrow (by simp; omega) H.out.na).trans (by go_simp); have ku : w2.cell? ⟨bp, 2, none⟩ = some (.bool ub) := (grown_cell hgrow (by simp; omega) H.out.na).trans (by go_simp); have ks : w2.cell? ⟨bp, 6, none⟩ = some (.int .i64 st) := (grown_cell hgrow (by simp; omega) H.out.na).trans (by go_simp); have kl : w2.cell? ⟨bp, 4, none⟩ = some (.int .i64 0) := (grown_cell hgrow (by simp; omega) H.out.na).trans (by go_simp); have kfx : ∀ o, w2.frozen? ⟨bp, o, none⟩ = false := (fun o => (grown_frozen hgrow (by simp; omega) H.out.na).trans (by go_simp)); have HO2 := Lib.hid hown2; have HAT := Lib.hid hat; clear hown2 hgrow hat; go_wp2)
    refine stepE0 rfl rfl (fun K hK => ?_)
    go_simp
    refine hK _ ?_
    clear hK K
    refine stepE0 rfl rfl (fun K hK => ?_)
    go_simp
    refine hK _ ?_
    clear hK K
    refine stepE1 rfl rfl (by kernel_rfl) (fun K hK => ?_)
    go_wp2
    try refine stepEnil0 ?_
    clear HSD SS
    have HPS := Lib.hid (HP.out.setCell (i := 1) (v := .slice (some ⟨g, 0, none⟩) (la.length + 1) cg) (.inl rfl))
    have HKK := Lib.hid ((Keeps.refl (fun k => k = bp) w2).setCell ⟨bp, 1, none⟩ (.slice (some ⟨g, 0, none⟩) (la.length + 1) cg) (fun _ => rfl))
    have HAT' : Hid ((Value.slice aL la.length cL).ownBlock = some g ∨ w.heap.size ≤ g) := by
      rcases HAT.out with h | h
      · exact .inl h
      · exact .inr (by simp at h; omega)
    clear HP
    cases ub
    · go_wp2_with fail
      refine Calls.mono (follower_0 bp _ ?_) ?_
      · go_simp
      rintro e w3 ⟨rfl, rfl⟩
      go_wp2_with fail
      refine Calls.mono (settle_any bp st _ _ ?_ ?_) ?_
      · go_simp
      · go_simp
      rintro e w3 ⟨rfl, rfl⟩
      go_wp2_with fail
      go_ret2
      refine ⟨by rw [askN, HE.out, if_pos rfl]; exact congrArg Ending.returned (congrArg (fun v => Value.tuple #[.int .i64 v, .nilIface]) (by simp)), ?_⟩
      rw [askP, HE.out, if_pos rfl]
      refine PairTo.of_a (w1 := w2) H.out (Pst.cast (HPS.out.setCell (i := 6) (.inl rfl)).drew ?_) (ownsRow_cast HO2.out ?_ ?_) ((HKK.out.setCell _ _ (fun _ => rfl)).drew) HAT'.out rfl
      · simp [Pr.cells, Pr.a, Pr.b, Pr.ld]
      · simp [Pr.a, Pr.b]
      · simp [Pr.a, Pr.b, Cmd.row]
    · go_wp2_with fail
      refine Calls.mono (follower_0 bp _ ?_) ?_
      · go_simp
      rintro e w3 ⟨rfl, rfl⟩
      go_wp2_with fail
      go_ret2
      refine ⟨by rw [askN, HE.out, if_pos rfl]; exact congrArg Ending.returned (congrArg (fun v => Value.tuple #[.int .i64 v, .nilIface]) (by simp)), ?_⟩
      rw [askP, HE.out, if_pos rfl]
      refine PairTo.of_a (w1 := w2) H.out (Pst.cast HPS.out.drew ?_) (ownsRow_cast HO2.out ?_ ?_) HKK.out.drew HAT'.out rfl
      · simp [Pr.cells, Pr.a, Pr.b, Pr.ld]
      · simp [Pr.a, Pr.b]
      · simp [Pr.a, Pr.b, Cmd.row]
  · have e1 : askK ⟨⟨true, la⟩, ⟨ub, lb⟩, false, tm, st⟩ t = 13 := by simp [askK, ht]
    have HE := Lib.hid e1
    have htb : (t != tm) = true := by rw [bne_iff_ne]; exact ht
    clear e1 ht
    go_enter Try.func30, Try.ntmps30
    go_wp2_with fail
    refine (leader_any base bp _ _ _ _ (H.out.below (by repeat (first | (with_reducible exact Below.refl _ _) | (with_reducible refine Below.setCell ?_ ?_ _) | (with_reducible refine Below.alloc ?_ ?_ _) | (with_reducible refine Below.drewN ?_ _) | (with_reducible refine Below.drew ?_) | (with_reducible exact Nat.le_refl _) | (focus (simp only [World.size_alloc, World.size_setCell, World.size_drew, World.size_drewN]; omega)) | omega | exact Nat.le_refl _ | (focus (simp; done)) | (focus (simp; omega)))))).mono ?_
    rintro e w1 ⟨rfl, rfl⟩
    simp only [if_true, if_false, Bool.false_eq_true]
    go_wp2_with fail
    go_ret2
    refine ⟨by rw [askN, HE.out, if_neg (by omega)]; exact congrArg _ (congrArg (fun v => Value.tuple #[.int .i64 0, v]) errV_13.symm), ?_⟩
    rw [askP, HE.out, if_neg (by omega)]
    exact PairTo.same H.out (by repeat (first | (with_reducible exact Below.refl _ _) | (with_reducible refine Below.setCell ?_ ?_ _) | (with_reducible refine Below.alloc ?_ ?_ _) | (with_reducible refine Below.drewN ?_ _) | (with_reducible refine Below.drew ?_) | (with_reducible exact Nat.le_refl _) | (focus (simp only [World.size_alloc, World.size_setCell, World.size_drew, World.size_drewN]; omega)) | omega | exact Nat.le_refl _ | (focus (simp; done)) | (focus (simp; omega))))
set_option maxRecDepth 100000 in
set_option maxHeartbeats 4000000 in
theorem ask_true (base bp : Nat) (va vb : Value) (ua ub : Bool) (la lb : List Cmd) (tm st t : Int) (c : Cmd) (w : World) (h : PairAt w base bp va vb ⟨⟨ua, la⟩, ⟨ub, lb⟩, true, tm, st⟩) (hN : la.length ≤ 100000) :
    Calls Try.prog 30 #[.pointer (some ⟨bp, 0, none⟩), .int .i64 t, .agg #[.int .i64 c.kind, .int .i64 c.vol, .int .i64 c.epoch, .int .i64 c.spot, .int .i64 c.node, .int .i64 c.n0, .int .i64 c.n1, .int .i64 c.n2]] w
      fun e w' => e = .returned (.tuple #[.int .i64 (askN ⟨⟨ua, la⟩, ⟨ub, lb⟩, true, tm, st⟩ t), errV (askK ⟨⟨ua, la⟩, ⟨ub, lb⟩, true, tm, st⟩ t)]) ∧ PairTo w base bp va vb (askP ⟨⟨ua, la⟩, ⟨ub, lb⟩, true, tm, st⟩ t c) w' := by
  obtain ⟨i0, hi, hz0, hz1, hz2⟩ := info_parts cmd_info
  have HI := Lib.hid hi
  have HZ0 := Lib.hid hz0
  have HZ1 := Lib.hid hz1
  have HZ2 := Lib.hid hz2
  clear hi hz0 hz1 hz2
  obtain ⟨ck, cv, ce, cp, cn, c0, c1, c2⟩ := c
  have H := Lib.hid h
  have hlt := h.lt
  obtain ⟨k0, k1, k2, k3, k4, k5, k6, kf⟩ := h.cell
  simp only [Pr.a, Pr.b, Pr.ld, if_true, if_false, Bool.false_eq_true] at k0 k1 k2 k3 k4 k5 k6
  obtain ⟨aL, cL, rfl⟩ := ownsRow_len h.rb
  simp only [Pr.a, Pr.b, if_true, if_false, Bool.false_eq_true] at k1 k3
  clear h
  cases ua
  · have e1 : askK ⟨⟨false, la⟩, ⟨ub, lb⟩, true, tm, st⟩ t = 12 := by simp [askK]
    have HE := Lib.hid e1
    clear e1
    go_enter Try.func30, Try.ntmps30
    go_wp2_with fail
    refine (leader_any base bp _ _ _ _ (H.out.below (by repeat (first | (with_reducible exact Below.refl _ _) | (with_reducible refine Below.setCell ?_ ?_ _) | (with_reducible refine Below.alloc ?_ ?_ _) | (with_reducible refine Below.drewN ?_ _) | (with_reducible refine Below.drew ?_) | (with_reducible exact Nat.le_refl _) | (focus (simp only [World.size_alloc, World.size_setCell, World.size_drew, World.size_drewN]; omega)) | omega | exact Nat.le_refl _ | (focus (simp; done)) | (focus (simp; omega)))))).mono ?_
    rintro e w1 ⟨rfl, rfl⟩
    simp only [if_true, if_false, Bool.false_eq_true]
    go_wp2_with fail
    go_ret2
    refine ⟨by rw [askN, HE.out, if_neg (by omega)]; exact congrArg _ (congrArg (fun v => Value.tuple #[.int .i64 0, v]) errV_12.symm), ?_⟩
    rw [askP, HE.out, if_neg (by omega)]
    exact PairTo.same H.out (by repeat (first | (with_reducible exact Below.refl _ _) | (with_reducible refine Below.setCell ?_ ?_ _) | (with_reducible refine Below.alloc ?_ ?_ _) | (with_reducible refine Below.drewN ?_ _) | (with_reducible refine Below.drew ?_) | (with_reducible exact Nat.le_refl _) | (focus (simp only [World.size_alloc, World.size_setCell, World.size_drew, World.size_drewN]; omega)) | omega | exact Nat.le_refl _ | (focus (simp; done)) | (focus (simp; omega))))
  by_cases ht : t = tm
  · have e1 : askK ⟨⟨true, la⟩, ⟨ub, lb⟩, true, tm, st⟩ t = 0 := by simp [askK, ht]
    have HE := Lib.hid e1
    have htb : (t != tm) = false := by rw [ht]; simp
    clear e1 ht
    have HR := Lib.hid (show w.ownsRow base 32 8 (.slice aL la.length cL) la.length (la.flatMap Cmd.row) from H.out.rb)
    have hne : ∀ k, (Value.slice aL la.length cL).ownBlock = some k → k ≠ bp ∧ k < w.heap.size := fun k hk => ⟨fun e => H.out.nb (by rw [← e]; exact hk), (HR.out.lt k hk).2⟩
    have HNE := Lib.hid hne
    clear hne
    have hbase : base ≤ w.heap.size := by have := H.out.low; omega
    go_enter Try.func30, Try.ntmps30
    go_wp2_with fail
    refine (leader_any base bp _ _ _ _ (H.out.below (by repeat (first | (with_reducible exact Below.refl _ _) | (with_reducible refine Below.setCell ?_ ?_ _) | (with_reducible refine Below.alloc ?_ ?_ _) | (with_reducible refine Below.drewN ?_ _) | (with_reducible refine Below.drew ?_) | (with_reducible exact Nat.le_refl _) | (focus (simp only [World.size_alloc, World.size_setCell, World.size_drew, World.size_drewN]; omega)) | omega | exact Nat.le_refl _ | (focus (simp; done)) | (focus (simp; omega)))))).mono ?_
    rintro e w1 ⟨rfl, rfl⟩
    simp only [if_true, if_false, Bool.false_eq_true]
    go_wp2_with fail
    refine (leader_any base bp _ _ _ _ (H.out.below (by repeat (first | (with_reducible exact Below.refl _ _) | (with_reducible refine Below.setCell ?_ ?_ _) | (with_reducible refine Below.alloc ?_ ?_ _) | (with_reducible refine Below.drewN ?_ _) | (with_reducible refine Below.drew ?_) | (with_reducible exact Nat.le_refl _) | (focus (simp only [World.size_alloc, World.size_setCell, World.size_drew, World.size_drewN]; omega)) | omega | exact Nat.le_refl _ | (focus (simp; done)) | (focus (simp; omega)))))).mono ?_
    rintro e w1 ⟨rfl, rfl⟩
    simp only [if_true, if_false, Bool.false_eq_true]
    go_wp2_with fail
    obtain ⟨SS, HSD⟩ : ∃ SS : World → Prop, Hid (SS = fun w' => w'.cell? ⟨bp, 3, none⟩ = some (.slice aL la.length cL) ∧ w'.cell? ⟨w.heap.size, 0, none⟩ = some (.int .i64 ck) ∧ w'.cell? ⟨w.heap.size, 1, none⟩ = some (.int .i64 cv) ∧ w'.cell? ⟨w.heap.size, 2, none⟩ = some (.int .i64 ce) ∧ w'.cell? ⟨w.heap.size, 3, none⟩ = some (.int .i64 cp) ∧ w'.cell? ⟨w.heap.size, 4, none⟩ = some (.int .i64 cn) ∧ w'.cell? ⟨w.heap.size, 5, none⟩ = some (.int .i64 c0) ∧ w'.cell? ⟨w.heap.size, 6, none⟩ = some (.int .i64 c1) ∧ w'.cell? ⟨w.heap.size, 7, none⟩ = some (.int .i64 c2)) := ⟨_, Lib.hid rfl⟩
    refine wp_region_order0 SS [4, 5] [(0, 0), (1, 0), (2, 0), (3, 0), (4, 2), (5, 2), (6, 1), (7, 1), (8, 0), (9, 0), (10, 1)] (by kernel_rfl) (by kernel_rfl) rfl (by kernel_rfl) ?_ ?_
    focus (rw [HSD.out]; refine ⟨?_, ?_, ?_, ?_, ?_, ?_, ?_, ?_, ?_⟩ <;> go_simp)
    refine stepE0 rfl rfl (fun K hK => ?_)
    go_simp
    refine hK _ ?_
    clear hK K
    refine stepE0 rfl rfl (fun K hK => ?_)
    go_simp
    refine hK _ ?_
    clear hK K
    refine stepE0 rfl rfl (fun K hK => ?_)
    go_simp
    refine hK _ ?_
    clear hK K
    refine stepE0 rfl rfl (fun K hK => ?_)
    go_simp
    refine hK _ ?_
    clear hK K
    refine stepE2 rfl rfl ?_ (fun w1 hS => ?_) (fun K hK => ?_)
    rotate_left
    focus (rw [HSD.out] at hS; obtain ⟨s0, s1, s2, s3, s4, s5, s6, s7, s8⟩ := hS; go_simp; rfl)
    go_simp
    refine hK _ ?_
    clear hK K
    refine stepE2 rfl rfl ?_ (fun w1 hS => ?_) (fun K hK => ?_)
    rotate_left
    focus (rw [HSD.out] at hS; obtain ⟨s0, s1, s2, s3, s4, s5, s6, s7, s8⟩ := hS; go_simp; rfl)
    go_simp
    refine hK _ ?_
    clear hK K
    refine stepE1S rfl rfl (fun K hK => ?_)
    go_wp2
    refine ⟨by rw [HSD.out]; exact (by refine ⟨?_, ?_, ?_, ?_, ?_, ?_, ?_, ?_, ?_⟩ <;> go_simp), ?_⟩
    refine stepE1 rfl rfl (by kernel_rfl) (fun K hK => ?_)
    (refine wp_append_lies _ _ _ 46 rfl base 32 i0 (.agg #[.int .i64 0, .int .i64 0, .int .i64 0, .int .i64 0, .int .i64 0, .int .i64 0, .int .i64 0, .int .i64 0]) 8 64 Try.underlying46 HI.out HZ0.out HZ1.out HZ2.out rfl (by decide) (.slice aL la.length cL) la.length (la.flatMap Cmd.row) rfl ((((HR.out.alloc _).alloc _).drew).drew).drew ⟨w.heap.size + 1, 0, none⟩ 1 1 [.int .i64 ck, .int .i64 cv, .int .i64 ce, .int .i64 cp, .int .i64 cn, .int .i64 c0, .int .i64 c1, .int .i64 c2] rfl rfl (World.news_of_block (by have h := heap_alloc_new (w.alloc (.cells #[.int .i64 ck, .int .i64 cv, .int .i64 ce, .int .i64 cp, .int .i64 cn, .int .i64 c0, .int .i64 c1, .int .i64 c2] 32)) (.cells #[.int .i64 ck, .int .i64 cv, .int .i64 ce, .int .i64 cp, .int .i64 cn, .int .i64 c0, .int .i64 c1, .int .i64 c2] 32); rw [World.size_alloc] at h; exact h)) (by simp [Value.oneCell']) (by omega) (by unfold maxLen; omega) (by omega) (by simp; omega) _ rfl ?_; intro g cg w2 hown2 hgrow hat hlt2; have HP := Lib.hid (Pst.grown (F := fun k => k = bp ∨ (Value.slice aL la.length cL).ownBlock = some k) ((((((Pst.refl H.out.blk).alloc _).alloc _).drew).drew).drew) hgrow (fun k e => .inr e) H.out.nb); have kx : w2.cell? ⟨bp, 3, none⟩ = some (.slice aL la.length cL) := (grown_cell hgrow (by simp; omega) H.out.nb).trans (by go_simp); have ku : w2.cell? ⟨bp, 0, none⟩ = some (.bool ub) := (grown_cell hgrow (by simp; omega) H.out.nb).trans (by go_simp); have ks : w2.cell? ⟨bp, 6, none⟩ = some (.int .i64 st) := (grown_cell hgrow (by simp; omega) H.out.nb).trans (by go_simp); have kl : w2.cell? ⟨bp, 4, none⟩ = some (.int .i64 1) := (grown_cell hgrow (by simp; omega) H.out.nb).trans (by go_simp); have kfx : ∀ o, w2.frozen? ⟨bp, o, none⟩ = false := (fun o => (grown_frozen hgrow (by simp; omega) H.out.nb).trans (by go_simp)); have HO2 := Lib.hid hown2; have HAT := Lib.hid hat; clear hown2 hgrow hat; go_wp2)
    refine stepE0 rfl rfl (fun K hK => ?_)
    go_simp
    refine hK _ ?_
    clear hK K
    refine stepE0 rfl rfl (fun K hK => ?_)
    go_simp
    refine hK _ ?_
    clear hK K
    refine stepE1 rfl rfl (by kernel_rfl) (fun K hK => ?_)
    go_wp2
    try refine stepEnil0 ?_
    clear HSD SS
    have HPS := Lib.hid (HP.out.setCell (i := 3) (v := .slice (some ⟨g, 0, none⟩) (la.length + 1) cg) (.inl rfl))
    have HKK := Lib.hid ((Keeps.refl (fun k => k = bp) w2).setCell ⟨bp, 3, none⟩ (.slice (some ⟨g, 0, none⟩) (la.length + 1) cg) (fun _ => rfl))
    have HAT' : Hid ((Value.slice aL la.length cL).ownBlock = some g ∨ w.heap.size ≤ g) := by
      rcases HAT.out with h | h
      · exact .inl h
      · exact .inr (by simp at h; omega)
    clear HP
    cases ub
    · go_wp2_with fail
      refine Calls.mono (follower_1 bp _ ?_) ?_
      · go_simp
      rintro e w3 ⟨rfl, rfl⟩
      go_wp2_with fail
      refine Calls.mono (settle_any bp st _ _ ?_ ?_) ?_
      · go_simp
      · go_simp
      rintro e w3 ⟨rfl, rfl⟩
      go_wp2_with fail
      go_ret2
      refine ⟨by rw [askN, HE.out, if_pos rfl]; exact congrArg Ending.returned (congrArg (fun v => Value.tuple #[.int .i64 v, .nilIface]) (by simp)), ?_⟩
      rw [askP, HE.out, if_pos rfl]
      refine PairTo.of_b (w1 := w2) H.out (Pst.cast (HPS.out.setCell (i := 6) (.inl rfl)).drew ?_) (ownsRow_cast HO2.out ?_ ?_) ((HKK.out.setCell _ _ (fun _ => rfl)).drew) HAT'.out rfl
      · simp [Pr.cells, Pr.a, Pr.b, Pr.ld]
      · simp [Pr.a, Pr.b]
      · simp [Pr.a, Pr.b, Cmd.row]
    · go_wp2_with fail
      refine Calls.mono (follower_1 bp _ ?_) ?_
      · go_simp
      rintro e w3 ⟨rfl, rfl⟩
      go_wp2_with fail
      go_ret2
      refine ⟨by rw [askN, HE.out, if_pos rfl]; exact congrArg Ending.returned (congrArg (fun v => Value.tuple #[.int .i64 v, .nilIface]) (by simp)), ?_⟩
      rw [askP, HE.out, if_pos rfl]
      refine PairTo.of_b (w1 := w2) H.out (Pst.cast HPS.out.drew ?_) (ownsRow_cast HO2.out ?_ ?_) HKK.out.drew HAT'.out rfl
      · simp [Pr.cells, Pr.a, Pr.b, Pr.ld]
      · simp [Pr.a, Pr.b]
      · simp [Pr.a, Pr.b, Cmd.row]
  · have e1 : askK ⟨⟨true, la⟩, ⟨ub, lb⟩, true, tm, st⟩ t = 13 := by simp [askK, ht]
    have HE := Lib.hid e1
    have htb : (t != tm) = true := by rw [bne_iff_ne]; exact ht
    clear e1 ht
    go_enter Try.func30, Try.ntmps30
    go_wp2_with fail
    refine (leader_any base bp _ _ _ _ (H.out.below (by repeat (first | (with_reducible exact Below.refl _ _) | (with_reducible refine Below.setCell ?_ ?_ _) | (with_reducible refine Below.alloc ?_ ?_ _) | (with_reducible refine Below.drewN ?_ _) | (with_reducible refine Below.drew ?_) | (with_reducible exact Nat.le_refl _) | (focus (simp only [World.size_alloc, World.size_setCell, World.size_drew, World.size_drewN]; omega)) | omega | exact Nat.le_refl _ | (focus (simp; done)) | (focus (simp; omega)))))).mono ?_
    rintro e w1 ⟨rfl, rfl⟩
    simp only [if_true, if_false, Bool.false_eq_true]
    go_wp2_with fail
    go_ret2
    refine ⟨by rw [askN, HE.out, if_neg (by omega)]; exact congrArg _ (congrArg (fun v => Value.tuple #[.int .i64 0, v]) errV_13.symm), ?_⟩
    rw [askP, HE.out, if_neg (by omega)]
    exact PairTo.same H.out (by repeat (first | (with_reducible exact Below.refl _ _) | (with_reducible refine Below.setCell ?_ ?_ _) | (with_reducible refine Below.alloc ?_ ?_ _) | (with_reducible refine Below.drewN ?_ _) | (with_reducible refine Below.drew ?_) | (with_reducible exact Nat.le_refl _) | (focus (simp only [World.size_alloc, World.size_setCell, World.size_drew, World.size_drewN]; omega)) | omega | exact Nat.le_refl _ | (focus (simp; done)) | (focus (simp; omega))))
end Go.Proofs.Ytigkcbnlbdiimaa
