/- Joined texts: ShipAlive, ShipMade, ShipBadLaw. -/
import Derived.Test.YtmaalbbclldnpaaGreatDoorSoShipTake
import Derived.Test.YtmaalbbclldnpaaGreatDoorSo10
/- Package ship: Take that refuses; a volume made without calls; the chapter's example (law 13). -/
namespace Go.Proofs.YtmaalbbclldnpaaGreatDoor
open Go.RowKit
set_option maxRecDepth 100000 in
set_option maxHeartbeats 2000000 in
theorem take_bad (vp : Nat) (fr : Nat) (n : Int) (hn : n < 1 ∨ 64 < n) (w : World) :
    Calls Tryz.prog 12 #[(.pointer (some ⟨vp, 0, none⟩)), .int .u64 fr, .int .i64 n] w fun e w' => e = .returned (.tuple #[.agg #[.slice none 0 0, .int .u64 0, .bool false, .int .i64 0], errV 1]) ∧ Below w.heap.size w w' := by
  rcases hn with hn | hn
  · have i1 : decide (n < 1) = true := by simpa using hn
    go_enter Tryz.func12, Tryz.ntmps12
    go_wp2
    refine bodyPost_ret (v := ?_) ?_ rfl ?_
    rotate_left
    focus (simp [results, Tryz.results12, go_sem]; exact rfl)
    exact ⟨rfl, (by repeat (first | (with_reducible exact Below.refl _ _) | (with_reducible refine Below.setCell ?_ ?_ _) | (with_reducible refine Below.alloc ?_ ?_ _) | (with_reducible refine Below.drewN ?_ _) | (with_reducible refine Below.drew ?_) | (with_reducible exact Nat.le_refl _) | (focus (simp only [World.size_alloc, World.size_setCell, World.size_drew, World.size_drewN]; omega)) | omega | exact Nat.le_refl _ | (focus (simp; done)) | (focus (simp; omega))))⟩
  · have i1 : decide (n < 1) = false := by simp; omega
    have i2 : decide (64 < n) = true := by simpa using hn
    go_enter Tryz.func12, Tryz.ntmps12
    go_wp2
    refine bodyPost_ret (v := ?_) ?_ rfl ?_
    rotate_left
    focus (simp [results, Tryz.results12, go_sem]; exact rfl)
    exact ⟨rfl, (by repeat (first | (with_reducible exact Below.refl _ _) | (with_reducible refine Below.setCell ?_ ?_ _) | (with_reducible refine Below.alloc ?_ ?_ _) | (with_reducible refine Below.drewN ?_ _) | (with_reducible refine Below.drew ?_) | (with_reducible exact Nat.le_refl _) | (focus (simp only [World.size_alloc, World.size_setCell, World.size_drew, World.size_drewN]; omega)) | omega | exact Nat.le_refl _ | (focus (simp; done)) | (focus (simp; omega))))⟩
set_option maxRecDepth 100000 in
set_option maxHeartbeats 2000000 in
theorem take_nil (fr : Nat) (n : Int) (w : World) :
    Calls Tryz.prog 12 #[.pointer none, .int .u64 fr, .int .i64 n] w fun e w' => e = .returned (.tuple #[.agg #[.slice none 0 0, .int .u64 0, .bool false, .int .i64 0], errV 15]) ∧ Below w.heap.size w w' := by
  go_enter Tryz.func12, Tryz.ntmps12
  go_wp2
  refine bodyPost_ret (v := ?_) ?_ rfl ?_
  rotate_left
  focus (simp [results, Tryz.results12, go_sem]; exact rfl)
  exact ⟨rfl, (by repeat (first | (with_reducible exact Below.refl _ _) | (with_reducible refine Below.setCell ?_ ?_ _) | (with_reducible refine Below.alloc ?_ ?_ _) | (with_reducible refine Below.drewN ?_ _) | (with_reducible refine Below.drew ?_) | (with_reducible exact Nat.le_refl _) | (focus (simp only [World.size_alloc, World.size_setCell, World.size_drew, World.size_drewN]; omega)) | omega | exact Nat.le_refl _ | (focus (simp; done)) | (focus (simp; omega))))⟩
/-- The document's volume as a value. -/
def refV (num most epoch size : Nat) (sl : Bool) (vl vd : Value) : Value := .agg #[.int .i64 num, .int .i64 most, .int .i64 epoch, .int .i64 size, .bool sl, vl, vd]
set_option maxRecDepth 100000 in
set_option maxHeartbeats 2000000 in
theorem ref09_new (num most epoch : Int) (w : World) :
    Calls Tryz.prog 29 #[.int .i64 num, .int .i64 most, .int .i64 epoch] w fun e w' => e = .returned (.agg #[.int .i64 num, .int .i64 most, .int .i64 epoch, .int .i64 16, .bool false, .slice none 0 0, .slice none 0 0]) ∧ Below w.heap.size w w' := by
  go_enter Tryz.func29, Tryz.ntmps29
  go_wp2
  refine bodyPost_ret (v := ?_) ?_ rfl ?_
  rotate_left
  focus (simp [results, Tryz.results29, go_sem]; exact rfl)
  exact ⟨rfl, (by repeat (first | (with_reducible exact Below.refl _ _) | (with_reducible refine Below.setCell ?_ ?_ _) | (with_reducible refine Below.alloc ?_ ?_ _) | (with_reducible refine Below.drewN ?_ _) | (with_reducible refine Below.drew ?_) | (with_reducible exact Nat.le_refl _) | (focus (simp only [World.size_alloc, World.size_setCell, World.size_drew, World.size_drewN]; omega)) | omega | exact Nat.le_refl _ | (focus (simp; done)) | (focus (simp; omega))))⟩
end Go.Proofs.YtmaalbbclldnpaaGreatDoor

/- Law 13: a volume made without calls; the chapter's example. -/
namespace Go.Proofs.YtmaalbbclldnpaaGreatDoor
open Go.RowKit
theorem long_names {num : Nat} (h : num ≤ 65535) : (vName num 1).length ≤ maxLen ∧ (sName num).length ≤ maxLen ∧ (mName num).length ≤ maxLen := by
  have h3 := digits_len (n := num) (k := 5) (by omega) (by omega)
  have h4 := digits_len (n := 1) (k := 1) (by omega) (by omega)
  refine ⟨?_, ?_, ?_⟩
  · unfold vName maxLen; simp; omega
  · unfold sName mName maxLen; simp; omega
  · unfold mName maxLen; simp; omega
theorem set7i_keeps (w : World) (b : Nat) (u0 u1 u2 u3 u4 u5 u6 : Value) : Keeps (fun k => k = b) w (set7i w b u0 u1 u2 u3 u4 u5 u6) := by
  unfold set7i
  exact (((((((Keeps.refl (fun k => k = b) w).setCell ⟨b, 0, none⟩ u0 (fun _ => rfl)).setCell ⟨b, 1, none⟩ u1 (fun _ => rfl)).setCell ⟨b, 2, none⟩ u2 (fun _ => rfl)).setCell ⟨b, 3, none⟩ u3 (fun _ => rfl)).setCell ⟨b, 4, none⟩ u4 (fun _ => rfl)).setCell ⟨b, 5, none⟩ u5 (fun _ => rfl)).setCell ⟨b, 6, none⟩ u6 (fun _ => rfl)
/-- A volume under a store to blocks outside it. -/
theorem VS.keeps {w w' : World} {vp dp K : Nat} {P F : Nat → Prop} {d : Dk} {v : Vl} (h : VS w vp dp P K d v) (hk : Keeps F w w') (hF : ∀ k, k < w.heap.size → F k → P k) : VS w' vp dp P K d v := by
  obtain ⟨ix, vx, h1, h2, h3, h4⟩ := h
  have hk' : Keeps P w w' := hk.mono hF
  exact ⟨ix, vx, h1.keeps hk' (fun k hf hp => (h3 k hf).1 hp), h2.step hk' (fun k hp => .inl hp) (fun k hp => .inl hp), fun k hf => ⟨(h3 k hf).1, Nat.lt_of_lt_of_le (h3 k hf).2 hk.size⟩, h4⟩
/-- What making without calls leaves. -/
def MadeTo (w : World) (num most : Nat) (e : Ending) (w' : World) : Prop :=
  ∃ vp dp d, e = .returned (.tuple #[(.pointer (some ⟨vp, 0, none⟩)), .agg #[.int .i64 num, .int .i64 most, .int .i64 0, .int .i64 16, .bool false, .slice none 0 0, .slice none 0 0], .bool true]) ∧ VS w' vp dp (fun k => k < w.heap.size) 5 d ⟨num, 1, 0, false, most, 16, []⟩ ∧ VI d ⟨num, 1, 0, false, most, 16, []⟩ [] ∧ Below w.heap.size w w'
set_option maxRecDepth 100000 in
set_option maxHeartbeats 4000000 in
theorem made_nil (num most : Nat) (hnum : num = 1 ∨ num = 2) (h1 : 16 ≤ most) (h2 : most ≤ 16777216) (w : World) :
    Calls Tryz.prog 11 #[.int .i64 num, .int .i64 most, .slice none 0 0] w (MadeTo w num most) := by
  have HNM := Lib.hid hnum
  have HN := Lib.hid (namesAt hnum)
  have HLG := Lib.hid (long_names (num := num) (by omega))
  obtain ⟨d, hd, hvi⟩ := VI.make (num := num) (most := most) (epoch := 0) (by omega) (by omega) h1 (by omega)
  have HD := Lib.hid hd
  have HVI := Lib.hid hvi
  have HMK := Lib.hid (fun (w1 : World) (dp : Nat) (P : Nat → Prop) (h : DS w1 dp P 0 (Dk.new 1048576)) (hP : ∀ k, P k → k < w1.heap.size) => make_ds h hP (by omega) num most 0 (by omega) ⟨h1, h2⟩ (by omega) HN.out HLG.out)
  rw [hd] at HMK
  unfold MadeV at HMK
  have HNW := Lib.hid (fun w1 : World => new_ds 1048576 (by omega) w1)
  clear hd hvi hnum
  go_enter Tryz.func11, Tryz.ntmps11
  go_wp2_with fail
  obtain ⟨w0, hw0⟩ : ∃ w0 : World, w0 = w.alloc (.cells #[.int .i64 0, .int .i64 0, .int .i64 0, .int .i64 0, .bool false, .slice none 0 0, .slice none 0 0] 30) := ⟨_, rfl⟩
  have HB0 := Lib.hid (show Below w.heap.size w w0 by rw [hw0]; exact (by repeat (first | (with_reducible exact Below.refl _ _) | (with_reducible refine Below.setCell ?_ ?_ _) | (with_reducible refine Below.alloc ?_ ?_ _) | (with_reducible refine Below.drewN ?_ _) | (with_reducible refine Below.drew ?_) | (with_reducible exact Nat.le_refl _) | (focus (simp only [World.size_alloc, World.size_setCell, World.size_drew, World.size_drewN]; omega)) | omega | exact Nat.le_refl _ | (focus (simp; done)) | (focus (simp; omega)))))
  have KR0 := Lib.hid (show w0.heap[w.heap.size]? = some (.cells #[.int .i64 0, .int .i64 0, .int .i64 0, .int .i64 0, .bool false, .slice none 0 0, .slice none 0 0] 30 (0, 0)) by rw [hw0]; exact heap_new w _)
  rw [← hw0]
  clear hw0
  have hz0 := HB0.out.size
  have hl0 := blk_lt KR0.out
  refine (HNW.out w0).mono ?_
  rintro e w1 ⟨rfl, hds, hb, hlt1⟩
  have HDS := Lib.hid hds
  have KR1 := Lib.hid (blk_below' KR0.out hb)
  have HB1 := Lib.hid (HB0.out.trans (hb.mono hz0))
  have hz1 := hb.size
  clear hds hb
  obtain ⟨dp, hdp⟩ : ∃ dp, dp = w0.heap.size + 2 := ⟨_, rfl⟩
  rw [← hdp] at HDS hlt1 ⊢
  clear hdp
  go_wp2_with fail
  refine (HMK.out w1 dp _ HDS.out (fun k hk => Nat.lt_of_lt_of_le hk hz1)).mono ?_
  rintro e w2 hmd
  obtain ⟨_, vp, rfl, hvt⟩ | ⟨h, _⟩ := hmd
  case inr => exact absurd rfl h
  have HVS := Lib.hid hvt.1
  have HKP := Lib.hid hvt.2
  have KR2 := Lib.hid (hvt.2.blk KR1.out hl0)
  have HB2 := Lib.hid (HB1.out.trans (hvt.2.below (B := w.heap.size) (by omega) (fun k hk => by omega)))
  have hz2 := hvt.2.size
  clear hvt
  go_wp2_with fail
  refine (ref09_new _ _ _ _).mono ?_
  rintro e w3 ⟨rfl, hb⟩
  have KR3 := Lib.hid (blk_below' KR2.out hb)
  have HB3 := Lib.hid (HB2.out.trans (hb.mono HB2.out.size))
  have HV3 := Lib.hid (HVS.out.below hb)
  clear hb
  go_upto_region 4 with fail
  obtain ⟨w4, hw4⟩ : ∃ w4 : World, w4 = w3.alloc (.cells #[.int .i64 num, .int .i64 most, .int .i64 0, .int .i64 16, .bool false, .slice none 0 0, .slice none 0 0] 30) := ⟨_, rfl⟩
  have hb4 : Below w3.heap.size w3 w4 := by rw [hw4]; exact (by repeat (first | (with_reducible exact Below.refl _ _) | (with_reducible refine Below.setCell ?_ ?_ _) | (with_reducible refine Below.alloc ?_ ?_ _) | (with_reducible refine Below.drewN ?_ _) | (with_reducible refine Below.drew ?_) | (with_reducible exact Nat.le_refl _) | (focus (simp only [World.size_alloc, World.size_setCell, World.size_drew, World.size_drewN]; omega)) | omega | exact Nat.le_refl _ | (focus (simp; done)) | (focus (simp; omega))))
  have KR4 := Lib.hid (blk_below' KR3.out hb4)
  have KM4 := Lib.hid (show w4.heap[w3.heap.size]? = some (.cells #[.int .i64 num, .int .i64 most, .int .i64 0, .int .i64 16, .bool false, .slice none 0 0, .slice none 0 0] 30 (0, 0)) by rw [hw4]; exact heap_new w3 _)
  have HB4 := Lib.hid (HB3.out.trans (hb4.mono HB3.out.size))
  have HV4 := Lib.hid (HV3.out.below hb4)
  rw [← hw4]
  clear hw4 hb4
  go_wp2_with fail
  refine (code0 _).mono ?_
  rintro e wx ⟨rfl, rfl⟩
  obtain ⟨m0, m1, m2, m3, m4, m5, m6⟩ := cells7' KM4.out
  obtain ⟨r0, r1, r2, r3, r4, r5, r6⟩ := cells7' KR4.out
  obtain ⟨f0, f1, f2, f3, f4, f5, f6⟩ := free7 KR4.out
  have hlm := blk_lt KM4.out
  have hlr := blk_lt KR4.out
  go_wp2_with fail
  refine wp_loop_rounds 1 ?_
  rw [rounds_succ]
  go_upto_region 12 with fail
  refine wp_region_mask0 (fun w1 => w1 = _) [1] [0, 0, 0, 1, 11, 31] (.op 0 0 (.op 1 2 (.op 2 0 (.op 3 0 (.op 4 1 (.op 5 0 .nil)))))) (by kernel_rfl) (by kernel_rfl) rfl (by kernel_rfl) (by kernel_rfl) rfl ?_
  refine stepM0 rfl rfl (fun K hK => ?_)
  go_simp
  refine hK _ ?_
  clear hK K
  refine stepM2 rfl rfl ?_ (fun w1 hS => ?_) (fun K hK => ?_)
  rotate_left
  focus (obtain rfl : w1 = _ := hS; go_simp; rfl)
  go_simp
  refine hK _ ?_
  clear hK K
  refine stepM0 rfl rfl (fun K hK => ?_)
  go_simp
  refine hK _ ?_
  clear hK K
  refine stepM0 rfl rfl (fun K hK => ?_)
  go_simp
  refine hK _ ?_
  clear hK K
  refine stepM1 rfl rfl (by kernel_rfl) (fun K hK => ?_)
  go_wp2
  refine stepM0 rfl rfl (fun K hK => ?_)
  go_simp
  refine hK _ ?_
  clear hK K
  try refine stepMnil0 ?_
  go_wp2
  obtain ⟨wx, hwx⟩ : ∃ wx, wx = set7i w4 w.heap.size (.int .i64 num) (.int .i64 most) (.int .i64 0) (.int .i64 16) (.bool false) (.slice none 0 0) (.slice none 0 0) := ⟨_, rfl⟩
  have hbx := set7i_below (w := w4) (Nat.le_refl w.heap.size) (.int .i64 num) (.int .i64 most) (.int .i64 0) (.int .i64 16) (.bool false) (.slice none 0 0) (.slice none 0 0)
  have HBX := Lib.hid (show Below w.heap.size w wx by rw [hwx]; exact HB4.out.trans hbx)
  have kbx := store7i (KR4.out) (.int .i64 num) (.int .i64 most) (.int .i64 0) (.int .i64 16) (.bool false) (.slice none 0 0) (.slice none 0 0)
  have hkx := set7i_keeps w4 w.heap.size (.int .i64 num) (.int .i64 most) (.int .i64 0) (.int .i64 16) (.bool false) (.slice none 0 0) (.slice none 0 0)
  rw [← hwx] at kbx hkx
  unfold set7i at hwx
  rw [← hwx]
  clear hwx hbx
  have HVX := Lib.hid (show VS wx.drew vp dp (fun k => k < w.heap.size) 5 d ⟨num, 1, 0, false, most, 16, []⟩ from ((HV4.out.keeps hkx (fun k _ e => by rw [e]; exact hl0)).below (Below.drew (Below.refl _ _))).less (fun k hk => Nat.lt_of_lt_of_le hk hz0))
  have HBF := Lib.hid (show Below w.heap.size w wx.drew from Below.drew HBX.out)
  have kbf : wx.drew.heap[w.heap.size]? = some (.cells #[.int .i64 num, .int .i64 most, .int .i64 0, .int .i64 16, .bool false, .slice none 0 0, .slice none 0 0] 30 (0, 0)) := kbx
  obtain ⟨s0, s1, s2, s3, s4, s5, s6⟩ := cells7' kbf
  refine bodyPost_ret (v := ?_) ?_ rfl ?_
  rotate_left
  focus (simp [results, Tryz.results11, go_sem, s0, s1, s2, s3, s4, s5, s6]; exact rfl)
  exact ⟨vp, dp, d, rfl, HVX.out, HVI.out, HBF.out⟩
theorem no_idx {p : Ps} (h : p ∈ ([] : List Ps)) : p.len ≤ 4096 ∧ p.off ≤ 1000000000 := absurd h List.not_mem_nil
set_option maxRecDepth 100000 in
set_option maxHeartbeats 4000000 in
theorem alive13 (w : World) : Calls Tryz.prog 9 #[] w fun e w' => e = .returned (.bool true) ∧ Below w.heap.size w w' := by
  go_enter Tryz.func9, Tryz.ntmps9
  go_wp2_with fail
  refine (made_nil 1 1000 (.inl rfl) (by omega) (by omega) w).mono ?_
  rintro e w1 ⟨vp, dp, d, rfl, hvs, -, hb⟩
  have HVS := Lib.hid hvs
  have HB1 := Lib.hid hb
  have hz1 := hb.size
  clear hvs hb
  go_upto_region 2 with fail
  obtain ⟨w2, hw2⟩ : ∃ w2 : World, w2 = w1.alloc (.cells #[.int .i64 1, .int .i64 1000, .int .i64 0, .int .i64 16, .bool false, .slice none 0 0, .slice none 0 0] 30) := ⟨_, rfl⟩
  have HB2 := Lib.hid (show Below w.heap.size w w2 by rw [hw2]; exact HB1.out.alloc hz1 _)
  have hb2 : Below w1.heap.size w1 w2 := by rw [hw2]; exact (by repeat (first | (with_reducible exact Below.refl _ _) | (with_reducible refine Below.setCell ?_ ?_ _) | (with_reducible refine Below.alloc ?_ ?_ _) | (with_reducible refine Below.drewN ?_ _) | (with_reducible refine Below.drew ?_) | (with_reducible exact Nat.le_refl _) | (focus (simp only [World.size_alloc, World.size_setCell, World.size_drew, World.size_drewN]; omega)) | omega | exact Nat.le_refl _ | (focus (simp; done)) | (focus (simp; omega))))
  have HV2 := Lib.hid (HVS.out.below hb2)
  have hz2 := HB2.out.size
  rw [← hw2]
  clear hw2 hb2
  have HTK := Lib.hid (show Calls Tryz.prog 12 #[(.pointer (some ⟨vp, 0, none⟩)), .int .u64 0, .int .i64 5] w2 (TakeTo w2 ⟨[], 0, false, 0⟩) by
    obtain ⟨ix, vx, h1, h2, -, h4⟩ := HV2.out
    exact take_any h1 h2 h4.names h4.long.1 (fun p hp => no_idx hp) 0 5 (by omega) (by omega))
  go_wp2_with fail
  refine HTK.out.mono ?_
  rintro e w3 ⟨vl, xs, rfl, hxs, hnr, hb⟩
  have hx0 : xs = [] := by simpa using hxs
  subst hx0
  obtain ⟨al, cl, rfl, -⟩ := slice_of hnr.row
  have HB3 := Lib.hid (HB2.out.trans (hb.mono hz2))
  have hz3 := HB3.out.size
  clear hb hnr hxs
  go_upto_region 3 with fail
  obtain ⟨w4, hw4⟩ : ∃ w4 : World, w4 = w3.alloc (.cells #[.slice al 0 cl, .int .u64 0, .bool false, .int .i64 0] 35) := ⟨_, rfl⟩
  have HB4 := Lib.hid (show Below w.heap.size w w4 by rw [hw4]; exact HB3.out.alloc hz3 _)
  have KL4 := Lib.hid (show w4.heap[w3.heap.size]? = some (.cells #[.slice al 0 cl, .int .u64 0, .bool false, .int .i64 0] 35 (0, 0)) by rw [hw4]; exact heap_new w3 _)
  rw [← hw4]
  clear hw4
  have hz4 := HB4.out.size
  go_wp2_with fail
  refine (take_bad vp 0 65 (by omega) w4).mono ?_
  rintro e w5 ⟨rfl, hb⟩
  rw [errV_ne (show (1 : Int) ≠ 0 by decide)]
  have HB5 := Lib.hid (HB4.out.trans (hb.mono hz4))
  have KL5 := Lib.hid (blk_below' KL4.out hb)
  have hz5 := HB5.out.size
  clear hb
  have hl5 := blk_lt KL5.out
  obtain ⟨q0, q1, q2, q3⟩ := ncells KL5.out
  go_wp2_with fail
  refine (code0 _).mono ?_
  rintro e wx ⟨rfl, rfl⟩
  go_wp2_with fail
  refine (show Calls Tryz.prog 13 #[.iface 92 (.int .i64 1)] _ _ from code_some 1 (by decide) (by decide) _).mono ?_
  rintro e wx ⟨rfl, rfl⟩
  go_wp2
  go_ret
  exact ⟨rfl, HB5.out.alloc hz5 _⟩
end Go.Proofs.YtmaalbbclldnpaaGreatDoor

/- Law ShipBad, plain: a needle that is spoilt is not got, all others are. No program in sight but the load's own plain words. -/
namespace Go.Proofs.YtmaalbbclldnpaaGreatDoor
theorem xor_ne {c x : UInt8} (h : x ≠ 0) : c ≠ c ^^^ x := fun e => h (by
  have h1 := congrArg (fun y => c ^^^ y) e
  simpa [← UInt8.xor_assoc, UInt8.xor_self, UInt8.zero_xor] using h1.symm)
theorem num_parts (n : Nd) (r : List UInt8) (h : n.data.length ≤ 4096) : numAt (ndBytes n ++ r) 20 4 = n.data.length ∧ numAt (ndBytes n ++ r) 24 4 = ndSum n ∧ (ndBytes n ++ r).take 24 = ndHead n ∧ ((ndBytes n ++ r).drop 32).take n.data.length = n.data := by
  have eb : ndBytes n ++ r = ndHead n ++ (le 4 (ndSum n) ++ List.replicate 4 0 ++ n.data ++ List.replicate (padN n.data.length) 0 ++ r) := by simp [ndBytes]
  obtain ⟨p1, p2, p3, p4, p5⟩ := ndHead_parts n (le 4 (ndSum n) ++ List.replicate 4 0 ++ n.data ++ List.replicate (padN n.data.length) 0 ++ r)
  rw [← eb] at p5
  have hsm : ndSum n < 256 ^ 4 := by
    have := (sumMore (sumOf (ndHead n)) n.data).toNat_lt
    unfold ndSum
    omega
  refine ⟨by rw [p5]; exact Nat.mod_eq_of_lt (Nat.lt_of_le_of_lt h (by decide)), ?_, by rw [eb, ← ndHead_len n, List.take_left], ?_⟩
  · have e : ndBytes n ++ r = ndHead n ++ le 4 (ndSum n) ++ (List.replicate 4 0 ++ n.data ++ List.replicate (padN n.data.length) 0 ++ r) := by simp [ndBytes]
    rw [e, numAt_mid (ndHead_len n) (le_len _ _), leNat_le, Nat.mod_eq_of_lt hsm]
  · have e : ndBytes n ++ r = (ndHead n ++ le 4 (ndSum n) ++ List.replicate 4 0) ++ (n.data ++ (List.replicate (padN n.data.length) 0 ++ r)) := by simp [ndBytes]
    have l : (ndHead n ++ le 4 (ndSum n) ++ List.replicate 4 0).length = 32 := by simp [ndHead_len, le_len]
    rw [e, ← l, List.drop_left, List.take_left]
/-- A needle's bytes with one byte of its head turned are no needle's. -/
theorem nd_turned {n : Nd} (h : n.data.length ≤ 4096) {j : Nat} (hj : j < 20) {x : UInt8} (hx : x ≠ 0) : (ndGet (xorAt (ndBytes n) j x)).1 ≠ 0 := by
  obtain ⟨p1, p2, p3, p4⟩ := num_parts n [] h
  simp only [List.append_nil] at p1 p2 p3 p4
  have hH := ndHead_len n
  obtain ⟨c, hc⟩ : ∃ c, (ndHead n)[j]? = some c := ⟨_, List.getElem?_eq_getElem (by omega)⟩
  have hcB : (ndBytes n)[j]? = some c := by
    have : (ndBytes n)[j]? = ((ndBytes n).take 24)[j]? := by rw [List.getElem?_take, if_pos (by omega)]
    rw [this, p3, hc]
  have e1 : xorAt (ndBytes n) j x = (ndBytes n).set j (c ^^^ x) := by unfold xorAt; rw [hcB]; rfl
  have t24 : ((ndBytes n).set j (c ^^^ x)).take 24 = (ndHead n).set j (c ^^^ x) := by rw [List.take_set, p3]
  have d20 : ((ndBytes n).set j (c ^^^ x)).drop 20 = (ndBytes n).drop 20 := List.drop_set_of_lt (by omega)
  have d24 : ((ndBytes n).set j (c ^^^ x)).drop 24 = (ndBytes n).drop 24 := List.drop_set_of_lt (by omega)
  have d32 : ((ndBytes n).set j (c ^^^ x)).drop 32 = (ndBytes n).drop 32 := List.drop_set_of_lt (by omega)
  have n20 : numAt ((ndBytes n).set j (c ^^^ x)) 20 4 = n.data.length := by unfold numAt; rw [d20]; exact p1
  have n24 : numAt ((ndBytes n).set j (c ^^^ x)) 24 4 = ndSum n := by unfold numAt; rw [d24]; exact p2
  rw [e1]
  unfold ndGet
  split
  · simp
  split
  · simp
  split
  · simp
  split
  · simp
  · rename_i _ _ _ hs
    exfalso
    apply hs
    rw [n24, n20, t24, d32, p4]
    unfold ndSum
    intro e
    have e2 := UInt32.toNat_inj.1 e
    unfold sumOf at e2
    rw [sumMore_append, sumMore_append] at e2
    have hsplit : ndHead n = (ndHead n).take j ++ c :: (ndHead n).drop (j + 1) := by
      have hjl : j < (ndHead n).length := by omega
      have hc' : (ndHead n)[j] = c := by
        have := List.getElem?_eq_getElem hjl
        rw [hc] at this
        exact (Option.some.inj this).symm
      rw [← hc', List.getElem_cons_drop, List.take_append_drop]
    have hset : (ndHead n).set j (c ^^^ x) = (ndHead n).take j ++ (c ^^^ x) :: (ndHead n).drop (j + 1) := by
      rw [List.set_eq_take_append_cons_drop, if_pos (by omega)]
    rw [hset] at e2
    rw [hsplit] at e2
    have hl : ((ndHead n).take j).length = j := by rw [List.length_take]; omega
    have ht : ((ndHead n).take j ++ c :: (ndHead n).drop (j + 1)).take j = (ndHead n).take j := by rw [List.take_left' hl]
    have hd : ((ndHead n).take j ++ c :: (ndHead n).drop (j + 1)).drop (j + 1) = (ndHead n).drop (j + 1) := by
      rw [← hsplit]
    rw [ht, hd, List.append_assoc, List.append_assoc] at e2
    exact sum_turned (s := 0) ((ndHead n).take j) ((ndHead n).drop (j + 1) ++ n.data) (xor_ne hx) e2
theorem cut_xor {b : List UInt8} {i o s : Nat} {x : UInt8} (h : i < o ∨ o + s ≤ i) : ((xorAt b i x).drop o).take s = (b.drop o).take s := by
  unfold xorAt
  rcases h with h | h
  · rw [List.drop_set_of_lt h]
  · rw [List.drop_set, if_neg (by omega), List.take_set, List.set_eq_of_length_le]
    rw [List.length_take]
    omega
theorem cut_xor_in {b : List UInt8} {o s j : Nat} {x : UInt8} (h : j < s) (hb : o + s ≤ b.length) : ((xorAt b (o + j) x).drop o).take s = xorAt ((b.drop o).take s) j x := by
  unfold xorAt
  rw [List.drop_set, if_neg (by omega), List.take_set, show o + j - o = j by omega, List.getElem?_take, if_pos h, List.getElem?_drop]
/-- Two needles of a list stand apart, or are one. -/
theorem nds_apart {a b a' b' : List Nd} {m n : Nd} (h : a ++ m :: b = a' ++ n :: b') : (a = a' ∧ m = n ∧ b = b') ∨ (ndsB a).length + ndSize m.data.length ≤ (ndsB a').length ∨ (ndsB a').length + ndSize n.data.length ≤ (ndsB a).length := by
  have key : ∀ (p q : List Nd) (z : Nd), (ndsB (p ++ z :: q)).length = (ndsB p).length + ndSize z.data.length + (ndsB q).length := fun p q z => by
    rw [ndsB_append, List.length_append]
    show (ndsB p).length + (ndBytes z ++ ndsB q).length = _
    rw [List.length_append, ndBytes_len]
    omega
  rcases List.append_eq_append_iff.1 h with ⟨ts, h1, h2⟩ | ⟨ts, h1, h2⟩
  · cases ts with
    | nil =>
      simp only [List.append_nil, List.nil_append] at h1 h2
      injection h2 with h3 h4
      exact .inl ⟨h1.symm, h3, h4⟩
    | cons z q =>
      simp only [List.cons_append] at h2
      injection h2 with h3 h4
      subst h3
      exact .inr (.inl (by rw [h1, key]; omega))
  · cases ts with
    | nil =>
      simp only [List.append_nil, List.nil_append] at h1 h2
      injection h2 with h3 h4
      exact .inl ⟨h1, h3.symm, h4.symm⟩
    | cons z q =>
      simp only [List.cons_append] at h2
      injection h2 with h3 h4
      subst h3
      exact .inr (.inr (by rw [h1, key]; omega))
/-- What a spoilt disk tells of a volume. -/
theorem VI.spoil {d : Dk} {v : Vl} {ns : List Nd} (h : VI d v ns) {key ok : Nat} {nk : Nd} (hx : newest ns 16 key = some (ok, nk)) (hg : nk.gone = false) {j : Nat} (hj : j < 20) {x : UInt8} (hx0 : x ≠ 0) :
    ∃ d', d.spoil v.file ((ok + j : Nat) : Int) x = (0, d') ∧ takeOne v d' (posOf ok nk) = none ∧ ∀ key' o n, newest ns 16 key' = some (o, n) → n.gone = false → key' ≠ key → takeOne v d' (posOf o n) = some n := by
  obtain ⟨f, g, hfg, hl, hf, hgn, hfb, hgb⟩ := h.now
  obtain ⟨hm, hk, a, b, hab, ho⟩ := newest_some hx
  have hokn := h.ok nk hm
  have ha : d.armed ≠ 0 := by rw [h.armed]; decide
  have hfnd : d.fnd v.file = (0, f) := by unfold Dk.fnd; rw [if_neg ha, hf]
  have hsup := superB_len v.num 1
  have cutof : ∀ {p q : List Nd} {z : Nd}, ns = p ++ z :: q → (d.fileAt f).b.length = 16 + (ndsB p).length + ndSize z.data.length + (ndsB q).length ∧ ((d.fileAt f).b.drop (16 + (ndsB p).length)).take (ndSize z.data.length) = ndBytes z := by
    intro p q z e
    have hb := ndBytes_len z
    refine ⟨?_, ?_⟩
    · rw [hfb, List.length_append, hsup, e, ndsB_append, List.length_append]
      show 16 + ((ndsB p).length + (ndBytes z ++ ndsB q).length) = _
      rw [List.length_append, hb]
      omega
    · have e2 : (d.fileAt f).b = (superB v.num 1 ++ ndsB p) ++ (ndBytes z ++ ndsB q) := by
        rw [hfb, e, ndsB_append, List.append_assoc]
        rfl
      have l : (superB v.num 1 ++ ndsB p).length = 16 + (ndsB p).length := by rw [List.length_append, hsup]
      rw [e2, ← l, List.drop_left, ← hb, List.take_left]
  obtain ⟨hlen, hcut⟩ := cutof hab
  have hs32 := (ndSize_le hokn.2.2.1).1
  obtain ⟨d', hd'⟩ : ∃ d', d' = d.setF f ⟨xorAt (d.fileAt f).b (ok + j) x, (d.fileAt f).lasts⟩ := ⟨_, rfl⟩
  have hlt : f < d.files.length := fileAt_lt (by intro e; rw [e] at hlen; simp at hlen; omega)
  have hsp : d.spoil v.file ((ok + j : Nat) : Int) x = (0, d') := by
    unfold Dk.spoil
    rw [hfnd, if_neg (by simp), if_neg (by rw [hlen]; omega), hd']
    rfl
  have hfile : d'.fileAt f = ⟨xorAt (d.fileAt f).b (ok + j) x, (d.fileAt f).lasts⟩ := by rw [hd']; exact fileAt_set hlt
  have hfnd' : d'.fnd v.file = (0, f) := by rw [hd']; exact hfnd
  have hrd : ∀ {p q : List Nd} {z : Nd}, ns = p ++ z :: q → d'.read v.file ((16 + (ndsB p).length : Nat) : Int) (ndSize z.data.length) = (0, ((xorAt (d.fileAt f).b (ok + j) x).drop (16 + (ndsB p).length)).take (ndSize z.data.length)) := by
    intro p q z e
    have := (cutof e).1
    unfold Dk.read
    rw [hfnd', if_neg (by simp), if_neg (by omega), hfile, if_neg (by simp only [xorAt_len]; omega)]
    rfl
  refine ⟨d', hsp, ?_, ?_⟩
  · have hfd := (h.find key nk.cookie).2 (ok, nk) hx hg rfl
    have hr := hrd hab
    rw [← ho] at hr
    have hc2 : ((xorAt (d.fileAt f).b (ok + j) x).drop ok).take (ndSize nk.data.length) = xorAt (ndBytes nk) j x := by
      rw [cut_xor_in (by omega) (by omega), ho, hcut]
    rw [hc2] at hr
    have hbad := nd_turned hokn.2.2.1 hj hx0
    unfold takeOne
    have hg2 : (posOf ok nk).gone = false := hg
    rw [hg2, if_neg (by simp)]
    have hgt : (v.get d' (posOf ok nk).key (posOf ok nk).cookie).1 ≠ 0 := by
      have e1 : (posOf ok nk).key = key := hk
      have e2 : (posOf ok nk).cookie = nk.cookie := rfl
      rw [e1, e2]
      unfold Vl.get
      rw [hfd]
      have hr' : d'.read v.file (posOf ok nk).off (ndSize (posOf ok nk).len) = (0, xorAt (ndBytes nk) j x) := hr
      simp only [ne_eq, not_true_eq_false, if_false, hr']
      rw [if_pos hbad]
      exact hbad
    rw [if_pos hgt]
  · intro key' o n hx' hg' hne
    obtain ⟨hm', hk', a', b', hab', ho'⟩ := newest_some hx'
    have hok' := h.ok n hm'
    have hfd := (h.find key' n.cookie).2 (o, n) hx' hg' rfl
    have hr := hrd hab'
    rw [← ho'] at hr
    have hc2 : ((xorAt (d.fileAt f).b (ok + j) x).drop o).take (ndSize n.data.length) = ndBytes n := by
      rw [cut_xor, ho', (cutof hab').2]
      rcases nds_apart (hab.symm.trans hab') with ⟨_, e, _⟩ | e | e
      · subst e
        exact absurd (hk'.symm.trans hk) hne
      · left; omega
      · right; omega
    rw [hc2] at hr
    have hget := ndGet_put hok' []
    rw [List.append_nil] at hget
    have hgt : v.get d' key' n.cookie = (0, false, n) := by
      unfold Vl.get
      rw [hfd]
      have hr' : d'.read v.file (posOf o n).off (ndSize (posOf o n).len) = (0, ndBytes n) := hr
      simp only [ne_eq, not_true_eq_false, if_false, hr', hget]
      rw [if_neg (fun e => e rfl)]
    unfold takeOne
    have hg2 : (posOf o n).gone = false := hg'
    rw [hg2, if_neg (by simp)]
    have e1 : (posOf o n).key = key' := hk'
    have e2 : (posOf o n).cookie = n.cookie := rfl
    rw [e1, e2, hgt]
    simp
theorem fm_len {α β : Type} (f : α → Option β) : ∀ l : List α, (l.filterMap f).length + (l.countP fun p => (f p).isNone) = l.length
  | [] => rfl
  | a :: r => by
    have ih := fm_len f r
    cases h : f a <;> simp [h] <;> omega
/-- One of a list is left out. -/
theorem one_out {l : List Ps} (hs : IxS l) {k : Nat} {p : Ps} (hp : l[k]? = some p) (f : Ps → Option Nd) (h0 : f p = none) (h1 : ∀ q ∈ l, q.key ≠ p.key → ∃ n, f q = some n ∧ n.key = q.key) :
    (l.countP fun q => (f q).isNone) = 1 ∧ (l.filterMap f).length = l.length - 1 ∧ ∀ n ∈ l.filterMap f, n.key ≠ p.key := by
  have hkl := (List.getElem?_eq_some_iff.1 hp).1
  have hpk := (List.getElem?_eq_some_iff.1 hp).2
  have hsplit : l = l.take k ++ p :: l.drop (k + 1) := by
    rw [← hpk, List.getElem_cons_drop, List.take_append_drop]
  have hs' := hs
  unfold IxS at hs'
  rw [hsplit] at hs'
  obtain ⟨_, h3, h4⟩ := List.pairwise_append.1 hs'
  have h5 := (List.pairwise_cons.1 h3).1
  have hne : ∀ q ∈ l.take k ++ l.drop (k + 1), q.key ≠ p.key := by
    intro q hq
    rcases List.mem_append.1 hq with hq | hq
    · have := h4 q hq p List.mem_cons_self
      omega
    · have := h5 q hq
      omega
  have hsome : ∀ q ∈ l.take k ++ l.drop (k + 1), ∃ n, f q = some n ∧ n.key = q.key := by
    intro q hq
    refine h1 q ?_ (hne q hq)
    rcases List.mem_append.1 hq with hq | hq
    · exact List.mem_of_mem_take hq
    · exact List.mem_of_mem_drop hq
  have hz1 : (l.take k).countP (fun q => (f q).isNone) = 0 := List.countP_eq_zero.2 fun q hq => by
    obtain ⟨n, hn, _⟩ := hsome q (List.mem_append_left _ hq)
    simp [hn]
  have hz2 : (l.drop (k + 1)).countP (fun q => (f q).isNone) = 0 := List.countP_eq_zero.2 fun q hq => by
    obtain ⟨n, hn, _⟩ := hsome q (List.mem_append_right _ hq)
    simp [hn]
  have hc : (l.countP fun q => (f q).isNone) = 1 := by
    have e : (l.countP fun q => (f q).isNone) = ((l.take k ++ p :: l.drop (k + 1)).countP fun q => (f q).isNone) := by rw [← hsplit]
    rw [e, List.countP_append, List.countP_cons, hz1, hz2, h0]
    rfl
  refine ⟨hc, by have := fm_len f l; omega, fun n hn => ?_⟩
  obtain ⟨q, hq, hfq⟩ := List.mem_filterMap.1 hn
  by_cases hqp : q.key = p.key
  · have hqe : q = p := by
      have e1 := ixFind_mem hs hq
      have e2 := ixFind_mem hs (List.mem_of_getElem? hp)
      rw [hqp, e2] at e1
      exact (Option.some.inj e1).symm
    rw [hqe, h0] at hfq
    cases hfq
  · obtain ⟨m, hm, hmk⟩ := h1 q hq hqp
    rw [hm] at hfq
    cases hfq
    rw [hmk]
    exact hqp
theorem ixAt_zero (l : List Ps) : ixAt l 0 = 0 := by
  cases l with
  | nil => rfl
  | cons a r => simp [ixAt]
theorem keys_zero (v : Vl) {m : Int} (hm : 1 ≤ m) (h : v.idx.length ≤ m.toNat) : v.keys 0 m = v.idx := by
  unfold Vl.keys
  rw [if_neg (by omega), ixAt_zero, List.drop_zero, List.take_of_length_le h]
/-- A needle that is put: what a volume has behind it. -/
theorem VI.puts {d : Dk} {v : Vl} {ns : List Nd} (h : VI d v ns) (n : Nd) (hk : n.key < 18446744073709551616) (hck : n.cookie < 4294967296) (hcap : v.size + ndSize n.data.length + 56 ≤ 1048576) :
    VI (v.put d n).2.1 (v.put d n).2.2 ((Rv.of v ns).put n).2.d ∧ (((Rv.of v ns).put n).2.d = ns ∨ ((Rv.of v ns).put n).2.d = ns ++ [n]) ∧ (v.put d n).2.2.size ≤ v.size + ndSize n.data.length ∧ (v.put d n).2.2.num = v.num ∧ (v.put d n).1 = ((Rv.of v ns).put n).1 := by
  obtain ⟨d', v', ns', h1, h2, h3, h4, h5⟩ := h.act ⟨0, 0, n⟩ hk hck hcap
  have e1 : v.act d ⟨0, 0, n⟩ = v.put d n := rfl
  have e2 : (Rv.of v ns).act ⟨0, 0, n⟩ = (Rv.of v ns).put n := rfl
  rw [e1] at h1
  rw [e2] at h1 h3
  have hd : ns' = ((Rv.of v ns).put n).2.d := by rw [← h3]; rfl
  have hnum : v'.num = ((Rv.of v ns).put n).2.num := by rw [← h3]; rfl
  have hput : (((Rv.of v ns).put n).2.d = ns ∨ ((Rv.of v ns).put n).2.d = ns ++ [n]) ∧ ((Rv.of v ns).put n).2.num = v.num := by
    unfold Rv.put
    split
    · exact ⟨.inl rfl, rfl⟩
    split
    · exact ⟨.inl rfl, rfl⟩
    split
    · exact ⟨.inl rfl, rfl⟩
    split
    · exact ⟨.inl rfl, rfl⟩
    · unfold Rv.write
      split
      · exact ⟨.inl rfl, rfl⟩
      · exact ⟨.inr rfl, rfl⟩
  rw [h1]
  refine ⟨by rw [← hd]; exact h2, hput.1, h4, by rw [hnum]; exact hput.2, rfl⟩
end Go.Proofs.YtmaalbbclldnpaaGreatDoor
