/- Joined texts: ScrubAlive, ScrubWork. -/
import Derived.Test.YtnhangmcnciffaaGreatDoorSw20
import Derived.Test.YtnhangmcnciffaaGreatDoorSwScrubLaw
import Derived.Test.YtnhangmcnciffaaGreatDoorSw22
import Derived.Test.YtnhangmcnciffaaGreatDoorSw21
/- Law 12: the chapter's example; small laws. -/
namespace Go.Proofs.YtnhangmcnciffaaGreatDoor
set_option maxRecDepth 100000
set_option maxHeartbeats 8000000
open Go.RowKit
theorem fnd_code {d : Dk} {s : Nm} : (d.fnd s).1 ≤ 17 := by
  unfold Dk.fnd
  split
  · show 12 ≤ 17; decide
  · split
    · show 6 ≤ 17; decide
    · show 0 ≤ 17; decide
theorem read_code {d : Dk} {s : Nm} {off n : Int} : (d.read s off n).1 ≤ 17 := by
  unfold Dk.read
  split
  · exact fnd_code
  · split
    · show 1 ≤ 17; decide
    · split
      · show 3 ≤ 17; decide
      · show 0 ≤ 17; decide
theorem ndGet_code (b : List UInt8) : (ndGet b).1 ≤ 17 := by
  unfold ndGet
  repeat' split
  all_goals first | decide | exact Nat.zero_le _
theorem wrong_code (v : Vl) (d : Dk) (p : Ps) : v.wrong d p ≤ 17 := by
  unfold Vl.wrong
  split
  · exact read_code
  · split
    · exact ndGet_code _
    · split <;> decide
theorem VGood.made {w : World} {vp dp K : Nat} {F : Nat → Prop} {d : Dk} {v : Vl} {ns : List Nd} (hvf : VF w vp dp F K d v) (hvi : VI d v ns) (hsz : v.size ≤ 100000000) : VGood w vp dp F K d v :=
  ⟨hvf, fun p hp => hvi.wrong0 hp, fun p hp => ⟨(hvi.len_le hp).1, Nat.le_trans (hvi.len_le hp).2 hsz⟩⟩
theorem alive12 (w : World) : Calls Tryz.prog 20 #[] w fun e w' => e = .returned (.bool true) ∧ Below w.heap.size w w' := by
  have HM := Lib.hid (made12_any none 0 0 [] w rfl (reads_none _ _) (fun x hx => absurd hx List.not_mem_nil) (by omega) (fun x hx => absurd hx List.not_mem_nil))
  go_enter Tryz.func20, Tryz.ntmps20
  go_wp2_with fail
  refine (show Calls Tryz.prog 21 #[.slice none 0 0] w (MadeD w 1 []) from HM.out).mono ?_
  rintro e w1 ⟨vp, dp, F, val, d, v, ns, rfl, hvf, -, hvi, hrv, hac, hsz, hns, hb⟩
  obtain ⟨c0, c1, c2, c3, c4, c5a, c5n, c5c, c6a, c6n, c6c, rfl⟩ := RvIn.agg hrv
  have HG := Lib.hid (VGood.made hvf hvi (by simp at hsz; omega))
  have HVL := Lib.hid (Nat.le_trans hvi.len hns)
  have HB1 := Lib.hid hb
  clear hvf hvi hrv hac hb hsz hns
  go_upto_region 2 with fail
  obtain ⟨w2, hw2⟩ : ∃ w2 : World, w2 = w1.alloc (.cells #[.int .i64 c0, .int .i64 c1, .int .i64 c2, .int .i64 c3, .bool c4, .slice c5a c5n c5c, .slice c6a c6n c6c] 30) := ⟨_, rfl⟩
  have HB12 := Lib.hid (show Below w1.heap.size w1 w2 by rw [hw2]; exact (by repeat (first | (with_reducible first | exact .refl _ _ | refine .setCell ?_ ?_ _ | refine .alloc ?_ ?_ _ | refine .drewN ?_ _ | refine .drew ?_ | exact Nat.le_refl _) | (focus (simp only [World.size_alloc, World.size_setCell, World.size_drew, World.size_drewN]; omega)) | omega | exact Nat.le_refl _ | (focus (simp; done)) | (focus (simp; omega)))))
  have HB2 := Lib.hid (HB1.out.trans (HB12.out.mono HB1.out.size))
  rw [← hw2]
  clear hw2
  go_wp2_with fail
  refine (scrall_any (HG.out.keeps (w' := w2) (R := fun _ => False) (keeps_below _ HB12.out) (fun _ _ h => h)) (by have := HVL.out; simp at this; simp [this])).mono ?_
  rintro e w3 ⟨rfl, hb⟩
  have HB3 := Lib.hid (HB2.out.trans (hb.mono HB2.out.size))
  clear hb
  go_wp2_with fail
  refine (scrnew_nil w3).mono ?_
  rintro e wx ⟨rfl, rfl⟩
  rw [errV_ne (show (15 : Int) ≠ 0 by decide)]
  go_wp2_with fail
  refine (code0 _).mono ?_
  rintro e wx ⟨rfl, rfl⟩
  go_wp2_with fail
  refine (show Calls Tryz.prog 16 #[.iface 115 (.int .i64 15)] _ _ from code_some 15 (by decide) (by decide) _).mono ?_
  rintro e wx ⟨rfl, rfl⟩
  go_wp2_with fail
  go_ret
  exact ⟨rfl, HB3.out⟩
end Go.Proofs.YtnhangmcnciffaaGreatDoor

/- Law ScrubWork: the walk. -/
namespace Go.Proofs.YtnhangmcnciffaaGreatDoor
set_option maxRecDepth 100000
set_option maxHeartbeats 8000000
open Go.RowKit
theorem keysZ_len {v : Vl} {n : Int} (hn : 1 ≤ n) : (v.keys 0 n).length = min n.toNat v.idx.length := by
  have h0 : ixAt v.idx 0 = 0 := by
    cases v.idx with
    | nil => rfl
    | cons q r => unfold ixAt; rw [if_neg (by omega)]
  unfold Vl.keys
  rw [if_neg (by omega), h0, List.length_take, List.drop_zero]
theorem scrubWork_walk (a : Option Addr) (len cap : Nat) (l : List ActE) (n : Int) (w : World) (hl : l.length = len) (hr : Reads w 6 (.slice a len cap) len (l.flatMap ActE.cs)) (ho : ∀ x ∈ l, ActArg w x) :
    Calls Tryz.prog 5 #[.slice a len cap, .int .i64 n] w fun e w' => e = .returned (.bool true) ∧ Below w.heap.size w w' := by
  have HL := Lib.hid hl
  have HR := Lib.hid hr
  have HO := Lib.hid ho
  clear hl hr ho
  go_enter Tryz.func5, Tryz.ntmps5
  go_wp2_with fail
  refine (alive12 w).mono ?_
  rintro e w1 ⟨rfl, hb⟩
  have HB1 := Lib.hid hb
  have hz1 := hb.size
  clear hb
  go_wp2_with fail
  refine (far9_any a len cap l w1 HL.out (HR.out.below HB1.out)).mono ?_
  rintro e wx ⟨rfl, rfl⟩
  cases hfa : far9 l
  case true =>
    go_wp2_with fail
    go_ret
    exact ⟨rfl, HB1.out⟩
  have HFA := Lib.hid (far9_no hfa)
  clear hfa
  have h60 : len ≤ 60 := by rw [← HL.out]; exact HFA.out.1
  have HMA := Lib.hid (show Calls Tryz.prog 21 #[.slice a len cap] w1 (MadeD w1 1 l) from made12_any a len cap l w1 HL.out (HR.out.below HB1.out) (fun x hx => (HO.out x hx).below HB1.out) h60 HFA.out.2)
  unfold MadeD at HMA
  go_wp2_with fail
  refine HMA.out.mono ?_
  rintro e w2 ⟨vp, dp, F, val, d, v, ns, rfl, hvf, hfb, hvi, hrv, hac, hsz, hns, hb⟩
  have HVI := Lib.hid hvi
  have hvl : v.idx.length ≤ 60 := Nat.le_trans hvi.len (Nat.le_trans hns (by rw [HL.out]; exact h60))
  have HG := Lib.hid (VGood.made hvf hvi (Nat.le_trans hsz (by rw [HL.out]; omega)))
  obtain ⟨al, cl, ad, cd, xs, rfl, hat⟩ := hrv
  obtain ⟨R, hR⟩ : ∃ R, R = Rv.of v ns := ⟨_, rfl⟩
  rw [← hR] at hat ⊢
  have hRl : R.l = v.idx := by rw [hR]; rfl
  have HRD := Lib.hid hat.rl
  obtain ⟨num, most, epoch, size, shut, lv, dd⟩ := R
  simp only at hRl HRD
  subst hRl
  unfold rvV
  simp only
  obtain ⟨ln, hln⟩ : ∃ ln, ln = v.idx.length := ⟨_, rfl⟩
  obtain ⟨dn, hdn⟩ : ∃ dn, dn = dd.length := ⟨_, rfl⟩
  have HLN := Lib.hid hln
  rw [← hln] at HRD hvl ⊢
  rw [← hdn]
  have HB2 := Lib.hid (HB1.out.trans (hb.mono hz1))
  clear hvf hfb hvi hat hR hac hsz hns hb hln hdn
  go_upto_region 6 with fail
  obtain ⟨w3, hw3⟩ : ∃ w3 : World, w3 = w2.alloc (.cells #[.int .i64 num, .int .i64 most, .int .i64 epoch, .int .i64 size, .bool shut, .slice al ln cl, .slice ad dn cd] 30) := ⟨_, rfl⟩
  have HB23 := Lib.hid (show Below w2.heap.size w2 w3 by rw [hw3]; exact (by repeat (first | (with_reducible first | exact .refl _ _ | refine .setCell ?_ ?_ _ | refine .alloc ?_ ?_ _ | refine .drewN ?_ _ | refine .drew ?_ | exact Nat.le_refl _) | (focus (simp only [World.size_alloc, World.size_setCell, World.size_drew, World.size_drewN]; omega)) | omega | exact Nat.le_refl _ | (focus (simp; done)) | (focus (simp; omega)))))
  have KM3 := Lib.hid (show w3.heap[w2.heap.size]? = some (.cells #[.int .i64 num, .int .i64 most, .int .i64 epoch, .int .i64 size, .bool shut, .slice al ln cl, .slice ad dn cd] 30 (0, 0)) by rw [hw3]; exact heap_new w2 _)
  rw [← hw3]
  clear hw3
  obtain ⟨MB, hMB⟩ : ∃ MB, MB = w2.heap.size := ⟨_, rfl⟩
  have hMB2 : w2.heap.size ≤ MB := by omega
  rw [← hMB] at KM3 ⊢
  clear hMB
  go_wp2_with fail
  refine (scrnew_any vp w3).mono ?_
  rintro e w4 ⟨rfl, hs, hb⟩
  have HS4 := Lib.hid hs
  have KM4 := Lib.hid (blk_below' KM3.out hb)
  have HB24 := Lib.hid (HB23.out.trans (hb.mono HB23.out.size))
  clear hs hb
  have hSM : MB < w3.heap.size := blk_lt KM3.out
  have hS2 := HB23.out.size
  obtain ⟨SB, hSB⟩ : ∃ SB, SB = w3.heap.size := ⟨_, rfl⟩
  rw [← hSB] at HS4 hSM hS2 ⊢
  clear hSB
  by_cases hn : n < 1
  · have d1 : decide (n < 1) = true := by simp; omega
    go_wp2_with fail
    refine (step_bad HS4.out n hn).mono ?_
    rintro e wx ⟨rfl, rfl⟩
    rw [errV_ne (show (1 : Int) ≠ 0 by decide)]
    go_wp2_with fail
    refine (show Calls Tryz.prog 16 #[.iface 115 (.int .i64 1)] _ _ from code_some 1 (by decide) (by decide) _).mono ?_
    rintro e wx ⟨rfl, rfl⟩
    go_wp2_with fail
    refine (scrseen_any HS4.out).mono ?_
    rintro e wx ⟨rfl, rfl⟩
    go_wp2_with fail
    go_ret
    exact ⟨rfl, HB2.out.trans (HB24.out.mono HB2.out.size)⟩
  have d1 : decide (n < 1) = false := by simp; omega
  have hFS : ¬ F SB := fun e => by have := HG.out.vf.lt SB e; omega
  have HKZ := Lib.hid (keysZ_len (v := v) (n := n) (by omega))
  have HST := Lib.hid (step_good (HG.out.keeps (w' := w4) (R := fun _ => False) (keeps_below _ HB24.out) (fun _ _ h => h)) HS4.out hFS n (by omega) (by rw [HKZ.out, ← HLN.out]; omega))
  rw [HKZ.out, ← HLN.out] at HST
  obtain ⟨KN, hKN⟩ : ∃ KN, KN = min n.toNat ln := ⟨_, rfl⟩
  rw [← hKN] at HST
  have HKN := Lib.hid hKN
  clear hKN
  go_wp2_with fail
  refine HST.out.mono ?_
  rintro e w5 ⟨ov, nx, rfl, -, hs, hk⟩
  have HS5 := Lib.hid hs
  have KM5 := Lib.hid ((hk.block MB (blk_lt KM4.out) (by omega)).trans KM4.out)
  have HB25 := Lib.hid (show Below w2.heap.size w2 w5 from HB24.out.trans (hk.below HB24.out.size (fun k e => by have e' : k = SB := e; omega)))
  clear hs hk
  go_wp2_with fail
  refine (scrall_any (HG.out.keeps (w' := w5) (R := fun _ => False) (keeps_below _ HB25.out) (fun _ _ h => h)) (by rw [← HLN.out]; omega)).mono ?_
  rintro e w6 ⟨rfl, hb⟩
  have HS6 := Lib.hid (show ScrAt w6 SB vp nx ov KN from blk_below' HS5.out hb)
  have KM6 := Lib.hid (blk_below' KM5.out hb)
  have HB26 := Lib.hid (HB25.out.trans (hb.mono HB25.out.size))
  clear hb
  go_wp2_with fail
  go_loopw [15] (fun i wr => ∃ k : Nat, k ≤ ln ∧ i = .int .i64 k ∧ Below w6.heap.size w6 wr) (fun i _ => ln - (intOf i).toNat)
  case atStart => exact ⟨0, Nat.zero_le _, rfl, Below.refl _ _⟩
  case round =>
    obtain ⟨k, hk, rfl, hbr⟩ := hrel
    have HBR := Lib.hid (HB26.out.trans (hbr.mono HB26.out.size))
    have HB6R := Lib.hid hbr
    have KMR := Lib.hid (blk_below' KM6.out hbr)
    have HSR := Lib.hid (show ScrAt wr SB vp nx ov KN from blk_below' HS6.out hbr)
    clear hbr
    obtain ⟨m0, m1, m2, m3, m4, m5, m6⟩ := cells7' KMR.out
    have hlm := blk_lt KMR.out
    have HGR := Lib.hid (HG.out.keeps (w' := wr) (R := fun _ => False) (keeps_below _ HBR.out) (fun _ _ h => h))
    by_cases hlt : k < ln
    · obtain ⟨⟨pk, po, pl, pc, pg⟩, hp⟩ : ∃ p, v.idx[k]? = some p := ⟨_, List.getElem?_eq_getElem (by rw [← HLN.out]; exact hlt)⟩
      obtain ⟨b, o, c', e, hb, r0, r1, r2, r3, r4⟩ := ps_cells (HRD.out.below HBR.out) hp (by omega)
      obtain ⟨rfl, -, rfl⟩ := sl_inj e
      simp only at r0 r1 r2 r3 r4
      have hin := List.mem_of_getElem? hp
      have HIN := Lib.hid hin
      have hpl := (HGR.out.le _ hin).1
      have hpo := (HGR.out.le _ hin).2
      simp only at hpl hpo
      have HPX := Lib.hid hp
      have HLK := Lib.hid (HGR.out.look hin)
      unfold psV at HLK
      simp only at HLK
      have hj0 : (0 : Int) ≤ (k : Int) := by omega
      have hj1 : (k : Int) < (ln : Int) := by omega
      clear hp e hin
      go_wp2_with fail
      refine HLK.out.mono ?_
      rintro e w7 ⟨rfl, hb7⟩
      have HB7 := Lib.hid (HBR.out.trans (hb7.mono HBR.out.size))
      have HB67 := Lib.hid (HB6R.out.trans (hb7.mono HB6R.out.size))
      have KM7 := Lib.hid (blk_below' KMR.out hb7)
      have HSS := Lib.hid (HRD.out.below HB7.out)
      clear hb7 m0 m1 m2 m3 m4 m5 m6 r0 r1 r2 r3 r4 hlm hb
      go_wp2_with fail
      refine (code0 _).mono ?_
      rintro e wx ⟨rfl, rfl⟩
      obtain ⟨m0, m1, m2, m3, m4, m5, m6⟩ := cells7' KM7.out
      have hlm := blk_lt KM7.out
      obtain ⟨b2, o2, c2, e2, hb2, r0, r1, r2, r3, r4⟩ := ps_cells HSS.out HPX.out (by omega)
      obtain ⟨h1, -, rfl⟩ := sl_inj e2
      simp only [Option.some.injEq, Addr.mk.injEq, and_true] at h1
      obtain ⟨rfl, rfl⟩ := h1
      simp only at r0 r1 r2 r3 r4
      clear e2
      have hwp : IntKind.i64.wrap ((po : Int) + 8) = (po : Int) + 8 := by rw [IntKind.wrap_i64]; omega
      go_upto_region 20 with fail
      obtain ⟨w8, hw8⟩ : ∃ w8 : World, w8 = w7.alloc (.cells #[.int .u64 pk, .int .i64 ((po : Int) + 8), .int .i64 pl, .int .u32 pc, .bool pg] 71) := ⟨_, rfl⟩
      have hb8 : Below w7.heap.size w7 w8 := by rw [hw8]; exact (by repeat (first | (with_reducible first | exact .refl _ _ | refine .setCell ?_ ?_ _ | refine .alloc ?_ ?_ _ | refine .drewN ?_ _ | refine .drew ?_ | exact Nat.le_refl _) | (focus (simp only [World.size_alloc, World.size_setCell, World.size_drew, World.size_drewN]; omega)) | omega | exact Nat.le_refl _ | (focus (simp; done)) | (focus (simp; omega))))
      have KP8 := Lib.hid (show w8.heap[w7.heap.size]? = some (.cells #[.int .u64 pk, .int .i64 ((po : Int) + 8), .int .i64 pl, .int .u32 pc, .bool pg] 71 (0, 0)) by rw [hw8]; exact heap_new w7 _)
      have HB8 := Lib.hid (HB7.out.trans (hb8.mono HB7.out.size))
      have HB68 := Lib.hid (HB67.out.trans (hb8.mono HB67.out.size))
      rw [← hw8]
      clear hw8 hb8 m0 m1 m2 m3 m4 m5 m6 r0 r1 r2 r3 r4 hlm
      have HG8 := Lib.hid (HG.out.keeps (w' := w8) (R := fun _ => False) (keeps_below _ HB8.out) (fun _ _ h => h))
      have HL8 := Lib.hid (show Calls Tryz.prog 26 #[(.pointer (some ⟨vp, 0, none⟩)), .agg #[.int .u64 pk, .int .i64 ((po : Int) + 8), .int .i64 pl, .int .u32 pc, .bool pg]] w8 fun e w' => ∃ ev, e = .returned ev ∧ (∃ told, ErrIn w' ev (v.wrong d ⟨pk, po + 8, pl, pc, pg⟩) told) ∧ Below w8.heap.size w8 w' by
        obtain ⟨ix, vx, P, g1, g2, g4⟩ := HG8.out.vf.at'
        have h := look_any g1 g2 g4.names g4.long.1 ⟨pk, po + 8, pl, pc, pg⟩ hpl (by show po + 8 ≤ _; omega)
        unfold psV at h
        simp only at h
        rw [show (((po + 8 : Nat)) : Int) = (po : Int) + 8 by omega] at h
        exact h.mono fun e w' ⟨ev, h1, h2, h3⟩ => ⟨ev, h1, ⟨_, h2⟩, h3⟩)
      have HW8 := Lib.hid (show v.wrong d ⟨pk, po + 8, pl, pc, pg⟩ ≠ 0 from HVI.out.wrong8 HIN.out)
      have HC8 := Lib.hid (wrong_code v d ⟨pk, po + 8, pl, pc, pg⟩)
      obtain ⟨kc, hkc⟩ : ∃ kc, kc = v.wrong d ⟨pk, po + 8, pl, pc, pg⟩ := ⟨_, rfl⟩
      rw [← hkc] at HL8 HW8 HC8
      clear hkc
      obtain ⟨t0, t1, t2, t3, t4⟩ := pcells KP8.out
      have hlp := blk_lt KP8.out
      go_wp2_with fail
      refine HL8.out.mono ?_
      rintro e w9 ⟨ev, rfl, he, hb9⟩
      have HE9 := Lib.hid he
      have HB69 := Lib.hid (HB68.out.trans (hb9.mono HB68.out.size))
      clear he hb9
      go_wp2_with fail
      refine (show Calls Tryz.prog 16 #[ev] w9 fun e w' => e = .returned (.int .i64 kc) ∧ w9 = w' by obtain ⟨told, h⟩ := HE9.out; exact codeIn h HC8.out).mono ?_
      rintro e wx ⟨rfl, rfl⟩
      have hk0 : ((kc : Int) == 0) = false := by have := HW8.out; simp; exact this
      have hk1 : (kc == 0) = false := by have := HW8.out; simp; exact this
      go_wp2_with fail
      go_roundw
      case rel => exact ⟨k + 1, by omega, by go_num, HB69.out⟩
      case measure => simp [intOf]; omega
    · have hj1 : ¬ (k : Int) < (ln : Int) := by omega
      obtain rfl : k = ln := by omega
      have hj2 : decide ((k : Int) < (k : Int)) = false := by simp
      have hmin : min n (k : Int) = (KN : Int) := by rw [HKN.out]; omega
      go_upto_region 22 with fail
      obtain ⟨SS, HSD⟩ : ∃ SS : World → Prop, Hid (SS = fun w' => w' = wr.drew ∧ True) := ⟨_, Lib.hid rfl⟩
      refine wp_region_order0 SS [20] [(0, 0), (2, 0), (1, 1), (3, 1), (4, 0), (5, 0), (6, 0), (7, 0), (8, 0), (9, 0), (10, 1), (11, 0), (12, 0), (13, 0), (14, 0), (15, 0), (16, 0), (18, 0), (19, 0), (20, 2), (21, 0), (22, 0), (17, 1), (23, 0), (24, 0), (25, 0)] (by kernel_rfl) (by kernel_rfl) rfl (by kernel_rfl) ?_ ?_
      (focus (rw [HSD.out]; exact ⟨rfl, trivial⟩)); refine stepE0 rfl rfl fun K hK => ?_; go_simp; refine hK _ ?_; clear hK K; refine stepE0 rfl rfl fun K hK => ?_; go_simp; refine hK _ ?_; clear hK K; refine stepE1S rfl rfl fun K hK => ?_
      go_wp2_with fail; refine (code0 _).mono ?_; rintro e wx ⟨rfl, rfl⟩; go_wp2
      refine ⟨by rw [HSD.out]; exact (⟨rfl, trivial⟩), ?_⟩
      refine stepE1S rfl rfl fun K hK => ?_
      go_wp2_with fail; refine (code0 _).mono ?_; rintro e wx ⟨rfl, rfl⟩; go_wp2
      refine ⟨by rw [HSD.out]; exact (⟨rfl, trivial⟩), ?_⟩
      refine stepE0 rfl rfl fun K hK => ?_; go_simp; refine hK _ ?_; clear hK K; refine stepE0 rfl rfl fun K hK => ?_; go_simp; refine hK _ ?_; clear hK K; refine stepE0 rfl rfl fun K hK => ?_; go_simp; refine hK _ ?_; clear hK K; refine stepE0 rfl rfl fun K hK => ?_; go_simp; refine hK _ ?_; clear hK K; refine stepE0 rfl rfl fun K hK => ?_; go_simp; refine hK _ ?_; clear hK K; refine stepE0 rfl rfl fun K hK => ?_; go_simp; refine hK _ ?_; clear hK K; refine stepE1S rfl rfl fun K hK => ?_
      go_wp2_with fail; refine (scrbad_any (w := wr.drew) HSR.out).mono ?_; rintro e wx ⟨rfl, rfl⟩; go_wp2
      refine ⟨by rw [HSD.out]; exact (⟨rfl, trivial⟩), ?_⟩
      refine stepE0 rfl rfl fun K hK => ?_; go_simp; refine hK _ ?_; clear hK K; refine stepE0 rfl rfl fun K hK => ?_; go_simp; refine hK _ ?_; clear hK K; refine stepE0 rfl rfl fun K hK => ?_; go_simp; refine hK _ ?_; clear hK K; refine stepE0 rfl rfl fun K hK => ?_; go_simp; refine hK _ ?_; clear hK K; refine stepE0 rfl rfl fun K hK => ?_; go_simp; refine hK _ ?_; clear hK K; refine stepE0 rfl rfl fun K hK => ?_; go_simp; refine hK _ ?_; clear hK K; refine stepE0 rfl rfl fun K hK => ?_; go_simp; refine hK _ ?_; clear hK K; refine stepE0 rfl rfl fun K hK => ?_; go_simp; refine hK _ ?_; clear hK K; refine stepE2 rfl rfl ?_ (fun w1 hS => ?_) fun K hK => ?_; rotate_left; (focus (rw [HSD.out] at hS; obtain ⟨rfl, -⟩ := hS; go_simp; rfl)); go_simp; refine hK _ ?_; clear hK K; refine stepE0 rfl rfl fun K hK => ?_; go_simp; refine hK _ ?_; clear hK K; refine stepE0 rfl rfl fun K hK => ?_; go_simp; refine hK _ ?_; clear hK K; refine stepE1S rfl rfl fun K hK => ?_
      go_wp2_with fail; refine (scrseen_any (w := wr.drew) HSR.out).mono ?_; rintro e wx ⟨rfl, rfl⟩; go_wp2
      refine ⟨by rw [HSD.out]; exact (⟨rfl, trivial⟩), ?_⟩
      refine stepE0 rfl rfl fun K hK => ?_; go_simp; refine hK _ ?_; clear hK K; refine stepE0 rfl rfl fun K hK => ?_; go_simp; refine hK _ ?_; clear hK K; refine stepE0 rfl rfl fun K hK => ?_; go_simp; refine hK _ ?_; clear hK K
      try refine stepEnil0 ?_
      clear HSD SS
      go_wp2_with fail
      go_ret
      exact ⟨rfl, HB2.out.trans ((Below.drew HBR.out).mono HB2.out.size)⟩
end Go.Proofs.YtnhangmcnciffaaGreatDoor
