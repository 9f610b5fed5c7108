/- Joined texts: ShipAlive, ShipMade, ShipBadLaw. -/
import Derived.Test.YtmaalbbclldnpaaGreatDoorLyShipTake
import Derived.Test.YtmaalbbclldnpaaGreatDoorLy10
/- Package ship: Take that refuses; a volume made without calls; the chapter's example (law 13). -/
namespace Go.Proofs.YtmaalbbclldnpaaGreatDoor
set_option maxRecDepth 100000
set_option maxHeartbeats 8000000
open Go.RowKit
theorem take_bad (vp : Nat) (fr : Nat) (n : Int) (hn : n < 1 ∨ 64 < n) (w : World) :
    Calls Tryz.prog 12 #[(.pointer (some ⟨vp, 0, none⟩)), .int .u64 fr, .int .i64 n] w fun e w' => e = .returned (.tuple #[.agg #[.slice none 0 0, .int .u64 0, .bool false, .int .i64 0], errV 1]) ∧ Below w.heap.size w w' := by
  rcases hn with hn | hn
  · have i1 : decide (n < 1) = true := by simpa using hn
    go_enter Tryz.func12, Tryz.ntmps12
    go_wp2
    refine bodyPost_ret (v := ?_) ?_ rfl ?_
    rotate_left; (focus (simp [results, Tryz.results12, go_sem]; exact rfl))
    exact ⟨rfl, (by repeat (first | (with_reducible first | exact .refl _ _ | refine .setCell ?_ ?_ _ | refine .alloc ?_ ?_ _ | refine .drewN ?_ _ | refine .drew ?_ | exact Nat.le_refl _) | (focus (simp only [World.size_alloc, World.size_setCell, World.size_drew, World.size_drewN]; omega)) | omega | exact Nat.le_refl _ | (focus (simp; done)) | (focus (simp; omega))))⟩
  · have i1 : decide (n < 1) = false := by simp; omega
    have i2 : decide (64 < n) = true := by simpa using hn
    go_enter Tryz.func12, Tryz.ntmps12
    go_wp2
    refine bodyPost_ret (v := ?_) ?_ rfl ?_
    rotate_left; (focus (simp [results, Tryz.results12, go_sem]; exact rfl))
    exact ⟨rfl, (by repeat (first | (with_reducible first | exact .refl _ _ | refine .setCell ?_ ?_ _ | refine .alloc ?_ ?_ _ | refine .drewN ?_ _ | refine .drew ?_ | exact Nat.le_refl _) | (focus (simp only [World.size_alloc, World.size_setCell, World.size_drew, World.size_drewN]; omega)) | omega | exact Nat.le_refl _ | (focus (simp; done)) | (focus (simp; omega))))⟩
theorem ref09_new (num most epoch : Int) (w : World) :
    Calls Tryz.prog 29 #[.int .i64 num, .int .i64 most, .int .i64 epoch] w fun e w' => e = .returned (.agg #[.int .i64 num, .int .i64 most, .int .i64 epoch, .int .i64 16, .bool false, .slice none 0 0, .slice none 0 0]) ∧ Below w.heap.size w w' := by
  go_enter Tryz.func29, Tryz.ntmps29
  go_wp2
  refine bodyPost_ret (v := ?_) ?_ rfl ?_
  rotate_left; (focus (simp [results, Tryz.results29, go_sem]; exact rfl))
  exact ⟨rfl, (by repeat (first | (with_reducible first | exact .refl _ _ | refine .setCell ?_ ?_ _ | refine .alloc ?_ ?_ _ | refine .drewN ?_ _ | refine .drew ?_ | exact Nat.le_refl _) | (focus (simp only [World.size_alloc, World.size_setCell, World.size_drew, World.size_drewN]; omega)) | omega | exact Nat.le_refl _ | (focus (simp; done)) | (focus (simp; omega))))⟩
end Go.Proofs.YtmaalbbclldnpaaGreatDoor

/- Law 13: a volume made without calls; the chapter's example. -/
namespace Go.Proofs.YtmaalbbclldnpaaGreatDoor
set_option maxRecDepth 100000
set_option maxHeartbeats 8000000
open Go.RowKit
theorem long_names {num : Nat} (h : num ≤ 65535) : (vName num 1).length ≤ maxLen ∧ (sName num).length ≤ maxLen ∧ (mName num).length ≤ maxLen := by
  have h3 := digits_len (n := num) (k := 5) (by omega) (by omega)
  have h4 := digits_len (n := 1) (k := 1) (by omega) (by omega)
  refine ⟨?_, ?_, ?_⟩
  · unfold vName maxLen; simp; omega
  · unfold sName mName maxLen; simp; omega
  · unfold mName maxLen; simp; omega
theorem set7i_keeps (w : World) (b : Nat) (u0 u1 u2 u3 u4 u5 u6 : Value) : Keeps (fun k => k = b) w (set7i w b u0 u1 u2 u3 u4 u5 u6) := by
  unfold set7i
  exact (((((((Keeps.refl (fun k => k = b) w).setCell ⟨b, 0, none⟩ u0 (fun _ => rfl)).setCell ⟨b, 1, none⟩ u1 (fun _ => rfl)).setCell ⟨b, 2, none⟩ u2 (fun _ => rfl)).setCell ⟨b, 3, none⟩ u3 (fun _ => rfl)).setCell ⟨b, 4, none⟩ u4 (fun _ => rfl)).setCell ⟨b, 5, none⟩ u5 (fun _ => rfl)).setCell ⟨b, 6, none⟩ u6 (fun _ => rfl)
theorem VS.keeps {w w' : World} {vp dp K : Nat} {P F : Nat → Prop} {d : Dk} {v : Vl} (h : VS w vp dp P K d v) (hk : Keeps F w w') (hF : ∀ k, k < w.heap.size → F k → P k) : VS w' vp dp P K d v := by
  obtain ⟨ix, vx, h1, h2, h3, h4⟩ := h
  have hk' : Keeps P w w' := hk.mono hF
  exact ⟨ix, vx, h1.keeps hk' (fun k hf hp => (h3 k hf).1 hp), h2.step hk' (fun k hp => .inl hp) (fun k hp => .inl hp), fun k hf => ⟨(h3 k hf).1, Nat.lt_of_lt_of_le (h3 k hf).2 hk.size⟩, h4⟩
def MadeTo (w : World) (num most : Nat) (e : Ending) (w' : World) : Prop :=
  ∃ vp dp d, e = .returned (.tuple #[(.pointer (some ⟨vp, 0, none⟩)), .agg #[.int .i64 num, .int .i64 most, .int .i64 0, .int .i64 16, .bool false, .slice none 0 0, .slice none 0 0], .bool true]) ∧ VS w' vp dp (fun k => k < w.heap.size) 5 d ⟨num, 1, 0, false, most, 16, []⟩ ∧ VI d ⟨num, 1, 0, false, most, 16, []⟩ [] ∧ Below w.heap.size w w'
theorem made_nil (num most : Nat) (hnum : num = 1 ∨ num = 2) (h1 : 16 ≤ most) (h2 : most ≤ 16777216) (w : World) :
    Calls Tryz.prog 11 #[.int .i64 num, .int .i64 most, .slice none 0 0] w (MadeTo w num most) := by
  have HNM := Lib.hid hnum
  have HN := Lib.hid (namesAt hnum)
  have HLG := Lib.hid (long_names (num := num) (by omega))
  obtain ⟨d, hd, hvi⟩ := VI.make (num := num) (most := most) (epoch := 0) (by omega) (by omega) h1 (by omega)
  have HD := Lib.hid hd
  have HVI := Lib.hid hvi
  have HMK := Lib.hid (fun (w1 : World) (dp : Nat) (P : Nat → Prop) (h : DS w1 dp P 0 (Dk.new 1048576)) (hP : ∀ k, P k → k < w1.heap.size) => make_ds h hP (by omega) num most 0 (by omega) ⟨h1, h2⟩ (by omega) HN.out HLG.out)
  rw [hd] at HMK
  unfold MadeV at HMK
  have HNW := Lib.hid (fun w1 : World => new_ds 1048576 (by omega) w1)
  clear hd hvi hnum
  go_enter Tryz.func11, Tryz.ntmps11
  go_wp2_with fail
  obtain ⟨w0, hw0⟩ : ∃ w0 : World, w0 = w.alloc (.cells #[.int .i64 0, .int .i64 0, .int .i64 0, .int .i64 0, .bool false, .slice none 0 0, .slice none 0 0] 30) := ⟨_, rfl⟩
  have HB0 := Lib.hid (show Below w.heap.size w w0 by rw [hw0]; exact (by repeat (first | (with_reducible first | exact .refl _ _ | refine .setCell ?_ ?_ _ | refine .alloc ?_ ?_ _ | refine .drewN ?_ _ | refine .drew ?_ | exact Nat.le_refl _) | (focus (simp only [World.size_alloc, World.size_setCell, World.size_drew, World.size_drewN]; omega)) | omega | exact Nat.le_refl _ | (focus (simp; done)) | (focus (simp; omega)))))
  have KR0 := Lib.hid (show w0.heap[w.heap.size]? = some (.cells #[.int .i64 0, .int .i64 0, .int .i64 0, .int .i64 0, .bool false, .slice none 0 0, .slice none 0 0] 30 (0, 0)) by rw [hw0]; exact heap_new w _)
  rw [← hw0]
  clear hw0
  have hz0 := HB0.out.size
  have hl0 := blk_lt KR0.out
  refine (HNW.out w0).mono ?_
  rintro e w1 ⟨rfl, hds, hb, hlt1⟩
  have HDS := Lib.hid hds
  have KR1 := Lib.hid (blk_below' KR0.out hb)
  have HB1 := Lib.hid (HB0.out.trans (hb.mono hz0))
  have hz1 := hb.size
  clear hds hb
  obtain ⟨dp, hdp⟩ : ∃ dp, dp = w0.heap.size + 2 := ⟨_, rfl⟩
  rw [← hdp] at HDS hlt1 ⊢
  clear hdp
  go_wp2_with fail
  refine (HMK.out w1 dp _ HDS.out (fun k hk => Nat.lt_of_lt_of_le hk hz1)).mono ?_
  rintro e w2 hmd
  obtain ⟨_, vp, rfl, hvt⟩ | ⟨h, _⟩ := hmd
  case inr => exact absurd rfl h
  have HVS := Lib.hid hvt.1
  have HKP := Lib.hid hvt.2
  have KR2 := Lib.hid (hvt.2.blk KR1.out hl0)
  have HB2 := Lib.hid (HB1.out.trans (hvt.2.below (B := w.heap.size) (by omega) (fun k hk => by omega)))
  have hz2 := hvt.2.size
  clear hvt
  go_wp2_with fail
  refine (ref09_new _ _ _ _).mono ?_
  rintro e w3 ⟨rfl, hb⟩
  have KR3 := Lib.hid (blk_below' KR2.out hb)
  have HB3 := Lib.hid (HB2.out.trans (hb.mono HB2.out.size))
  have HV3 := Lib.hid (HVS.out.below hb)
  clear hb
  go_upto_region 4 with fail
  obtain ⟨w4, hw4⟩ : ∃ w4 : World, w4 = w3.alloc (.cells #[.int .i64 num, .int .i64 most, .int .i64 0, .int .i64 16, .bool false, .slice none 0 0, .slice none 0 0] 30) := ⟨_, rfl⟩
  have hb4 : Below w3.heap.size w3 w4 := by rw [hw4]; exact (by repeat (first | (with_reducible first | exact .refl _ _ | refine .setCell ?_ ?_ _ | refine .alloc ?_ ?_ _ | refine .drewN ?_ _ | refine .drew ?_ | exact Nat.le_refl _) | (focus (simp only [World.size_alloc, World.size_setCell, World.size_drew, World.size_drewN]; omega)) | omega | exact Nat.le_refl _ | (focus (simp; done)) | (focus (simp; omega))))
  have KR4 := Lib.hid (blk_below' KR3.out hb4)
  have KM4 := Lib.hid (show w4.heap[w3.heap.size]? = some (.cells #[.int .i64 num, .int .i64 most, .int .i64 0, .int .i64 16, .bool false, .slice none 0 0, .slice none 0 0] 30 (0, 0)) by rw [hw4]; exact heap_new w3 _)
  have HB4 := Lib.hid (HB3.out.trans (hb4.mono HB3.out.size))
  have HV4 := Lib.hid (HV3.out.below hb4)
  rw [← hw4]
  clear hw4 hb4
  go_wp2_with fail
  refine (code0 _).mono ?_
  rintro e wx ⟨rfl, rfl⟩
  obtain ⟨m0, m1, m2, m3, m4, m5, m6⟩ := cells7' KM4.out
  obtain ⟨r0, r1, r2, r3, r4, r5, r6⟩ := cells7' KR4.out
  obtain ⟨f0, f1, f2, f3, f4, f5, f6⟩ := free7 KR4.out
  have hlm := blk_lt KM4.out
  have hlr := blk_lt KR4.out
  go_wp2_with fail
  refine wp_loop_rounds 1 ?_
  rw [rounds_succ]
  go_upto_region 12 with fail
  refine wp_region_mask0 (fun w1 => w1 = _) [1] [0, 0, 0, 1, 11, 31] (.op 0 0 (.op 1 2 (.op 2 0 (.op 3 0 (.op 4 1 (.op 5 0 .nil)))))) (by kernel_rfl) (by kernel_rfl) rfl (by kernel_rfl) (by kernel_rfl) rfl ?_
  refine stepM0 rfl rfl fun K hK => ?_; go_simp; refine hK _ ?_; clear hK K; refine stepM2 rfl rfl ?_ (fun w1 hS => ?_) fun K hK => ?_; rotate_left; (focus (obtain rfl : w1 = _ := hS; go_simp; rfl)); go_simp; refine hK _ ?_; clear hK K; refine stepM0 rfl rfl fun K hK => ?_; go_simp; refine hK _ ?_; clear hK K; refine stepM0 rfl rfl fun K hK => ?_; go_simp; refine hK _ ?_; clear hK K; refine stepM1 rfl rfl (by kernel_rfl) fun K hK => ?_; go_wp2; refine stepM0 rfl rfl fun K hK => ?_; go_simp; refine hK _ ?_; clear hK K
  try refine stepMnil0 ?_
  go_wp2
  obtain ⟨wx, hwx⟩ : ∃ wx, wx = set7i w4 w.heap.size (.int .i64 num) (.int .i64 most) (.int .i64 0) (.int .i64 16) (.bool false) (.slice none 0 0) (.slice none 0 0) := ⟨_, rfl⟩
  have hbx := set7i_below (w := w4) (Nat.le_refl w.heap.size) (.int .i64 num) (.int .i64 most) (.int .i64 0) (.int .i64 16) (.bool false) (.slice none 0 0) (.slice none 0 0)
  have HBX := Lib.hid (show Below w.heap.size w wx by rw [hwx]; exact HB4.out.trans hbx)
  have kbx := store7i (KR4.out) (.int .i64 num) (.int .i64 most) (.int .i64 0) (.int .i64 16) (.bool false) (.slice none 0 0) (.slice none 0 0)
  have hkx := set7i_keeps w4 w.heap.size (.int .i64 num) (.int .i64 most) (.int .i64 0) (.int .i64 16) (.bool false) (.slice none 0 0) (.slice none 0 0)
  rw [← hwx] at kbx hkx
  unfold set7i at hwx
  rw [← hwx]
  clear hwx hbx
  have HVX := Lib.hid (show VS wx.drew vp dp (fun k => k < w.heap.size) 5 d ⟨num, 1, 0, false, most, 16, []⟩ from ((HV4.out.keeps hkx (fun k _ e => by rw [e]; exact hl0)).below (Below.drew (Below.refl _ _))).less (fun k hk => Nat.lt_of_lt_of_le hk hz0))
  have HBF := Lib.hid (show Below w.heap.size w wx.drew from Below.drew HBX.out)
  have kbf : wx.drew.heap[w.heap.size]? = some (.cells #[.int .i64 num, .int .i64 most, .int .i64 0, .int .i64 16, .bool false, .slice none 0 0, .slice none 0 0] 30 (0, 0)) := kbx
  obtain ⟨s0, s1, s2, s3, s4, s5, s6⟩ := cells7' kbf
  refine bodyPost_ret (v := ?_) ?_ rfl ?_
  rotate_left; (focus (simp [results, Tryz.results11, go_sem, s0, s1, s2, s3, s4, s5, s6]; exact rfl))
  exact ⟨vp, dp, d, rfl, HVX.out, HVI.out, HBF.out⟩
theorem no_idx {p : Ps} (h : p ∈ ([] : List Ps)) : p.len ≤ 4096 ∧ p.off ≤ 1000000000 := absurd h List.not_mem_nil
theorem alive13 (w : World) : Calls Tryz.prog 9 #[] w fun e w' => e = .returned (.bool true) ∧ Below w.heap.size w w' := by
  go_enter Tryz.func9, Tryz.ntmps9
  go_wp2_with fail
  refine (made_nil 1 1000 (.inl rfl) (by omega) (by omega) w).mono ?_
  rintro e w1 ⟨vp, dp, d, rfl, hvs, -, hb⟩
  have HVS := Lib.hid hvs
  have HB1 := Lib.hid hb
  have hz1 := hb.size
  clear hvs hb
  go_upto_region 2 with fail
  obtain ⟨w2, hw2⟩ : ∃ w2 : World, w2 = w1.alloc (.cells #[.int .i64 1, .int .i64 1000, .int .i64 0, .int .i64 16, .bool false, .slice none 0 0, .slice none 0 0] 30) := ⟨_, rfl⟩
  have HB2 := Lib.hid (show Below w.heap.size w w2 by rw [hw2]; exact HB1.out.alloc hz1 _)
  have hb2 : Below w1.heap.size w1 w2 := by rw [hw2]; exact (by repeat (first | (with_reducible first | exact .refl _ _ | refine .setCell ?_ ?_ _ | refine .alloc ?_ ?_ _ | refine .drewN ?_ _ | refine .drew ?_ | exact Nat.le_refl _) | (focus (simp only [World.size_alloc, World.size_setCell, World.size_drew, World.size_drewN]; omega)) | omega | exact Nat.le_refl _ | (focus (simp; done)) | (focus (simp; omega))))
  have HV2 := Lib.hid (HVS.out.below hb2)
  have hz2 := HB2.out.size
  rw [← hw2]
  clear hw2 hb2
  have HTK := Lib.hid (show Calls Tryz.prog 12 #[(.pointer (some ⟨vp, 0, none⟩)), .int .u64 0, .int .i64 5] w2 (TakeTo w2 ⟨[], 0, false, 0⟩) by
    obtain ⟨ix, vx, h1, h2, -, h4⟩ := HV2.out
    exact take_any h1 h2 h4.names h4.long.1 (fun p hp => no_idx hp) 0 5 (by omega) (by omega))
  go_wp2_with fail
  refine HTK.out.mono ?_
  rintro e w3 ⟨vl, xs, rfl, hxs, hnr, hb⟩
  have hx0 : xs = [] := by simpa using hxs
  subst hx0
  obtain ⟨al, cl, rfl, -⟩ := slice_of hnr.row
  have HB3 := Lib.hid (HB2.out.trans (hb.mono hz2))
  have hz3 := HB3.out.size
  clear hb hnr hxs
  go_upto_region 3 with fail
  obtain ⟨w4, hw4⟩ : ∃ w4 : World, w4 = w3.alloc (.cells #[.slice al 0 cl, .int .u64 0, .bool false, .int .i64 0] 35) := ⟨_, rfl⟩
  have HB4 := Lib.hid (show Below w.heap.size w w4 by rw [hw4]; exact HB3.out.alloc hz3 _)
  have KL4 := Lib.hid (show w4.heap[w3.heap.size]? = some (.cells #[.slice al 0 cl, .int .u64 0, .bool false, .int .i64 0] 35 (0, 0)) by rw [hw4]; exact heap_new w3 _)
  rw [← hw4]
  clear hw4
  have hz4 := HB4.out.size
  go_wp2_with fail
  refine (take_bad vp 0 65 (by omega) w4).mono ?_
  rintro e w5 ⟨rfl, hb⟩
  rw [errV_ne (show (1 : Int) ≠ 0 by decide)]
  have HB5 := Lib.hid (HB4.out.trans (hb.mono hz4))
  have KL5 := Lib.hid (blk_below' KL4.out hb)
  have hz5 := HB5.out.size
  clear hb
  have hl5 := blk_lt KL5.out
  obtain ⟨q0, q1, q2, q3⟩ := ncells KL5.out
  go_wp2_with fail
  refine (code0 _).mono ?_
  rintro e wx ⟨rfl, rfl⟩
  go_wp2_with fail
  refine (show Calls Tryz.prog 13 #[.iface 92 (.int .i64 1)] _ _ from code_some 1 (by decide) (by decide) _).mono ?_
  rintro e wx ⟨rfl, rfl⟩
  go_wp2
  go_ret
  exact ⟨rfl, HB5.out.alloc hz5 _⟩
end Go.Proofs.YtmaalbbclldnpaaGreatDoor

/- Law ShipBad, plain: a needle that is spoilt is not got, all others are. No program in sight but the load's own plain words. -/
namespace Go.Proofs.YtmaalbbclldnpaaGreatDoor
set_option maxRecDepth 100000
set_option maxHeartbeats 8000000
theorem ixAt_zero (l : List Ps) : ixAt l 0 = 0 := by
  cases l with
  | nil => rfl
  | cons a r => simp [ixAt]
theorem keys_zero (v : Vl) {m : Int} (hm : 1 ≤ m) (h : v.idx.length ≤ m.toNat) : v.keys 0 m = v.idx := by
  unfold Vl.keys
  rw [if_neg (by omega), ixAt_zero, List.drop_zero, List.take_of_length_le h]
end Go.Proofs.YtmaalbbclldnpaaGreatDoor
