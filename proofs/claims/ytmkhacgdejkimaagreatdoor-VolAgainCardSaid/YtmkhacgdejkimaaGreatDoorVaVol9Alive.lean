/- Law 09: the chapter's example. -/
import Derived.Test.YtmkhacgdejkimaaGreatDoorVaReopen
import Derived.Test.YtmkhacgdejkimaaGreatDoorVa11
import Derived.Test.YtmkhacgdejkimaaGreatDoorVa20
namespace Go.Proofs.YtmkhacgdejkimaaGreatDoor
set_option maxRecDepth 100000
set_option maxHeartbeats 8000000
open Go.RowKit
theorem make_nil (w : World) : Calls Tryz.prog 32 #[.pointer none, .int .i64 1, .int .i64 1000, .int .i64 0] w fun e w' => e = .returned (.tuple #[.pointer none, errV 15]) ∧ w = w' := by
  have HN := Lib.hid (namesAt9 (v := 1) (g := 1) (by omega) (by omega))
  have HNV := Lib.hid (show namesV 1 1 = .tuple #[.string ⟨(vName 1 1).toArray⟩, .string ⟨(cName 1 1).toArray⟩, .string ⟨(mName 1).toArray⟩, .string ⟨(sName 1).toArray⟩] from rfl)
  go_enter Tryz.func32, Tryz.ntmps32
  go_wp2_with fail
  refine Calls.mono (show Calls Tryz.prog 67 #[.int .i64 1, .int .i64 1] w _ from HN.out _) ?_
  rintro e wx ⟨rfl, rfl⟩
  rw [HNV.out]
  go_wp2_with fail
  go_ret2
  exact ⟨rfl, rfl⟩
theorem alive_plain : ∃ d0 v0 d1 v1, (Dk.new 1048576).make 1 1000 0 = (0, d0, v0) ∧ v0.put d0 ⟨5, 0, false, [7]⟩ = (0, d1, v1) ∧ VD d1 v1 [⟨5, 0, false, [7]⟩] ∧ v1.num = 1 ∧ v1.most = 1000 ∧ v1.get d1 5 0 = (0, false, ⟨5, 0, false, [7]⟩) ∧ v1.idx.length ≤ 4096 ∧ (v1.find 5 0).2.len ≤ 4096 ∧ (v1.find 5 0).2.off ≤ 1000000000 := by
  obtain ⟨d0, h1, h2⟩ := VD.make (num := 1) (most := 1000) (epoch := 0) (by omega) (by omega) (by omega) (by omega)
  obtain ⟨d1, v1, ns1, e1, e2, e3, e4, e5⟩ := h2.vi.act ⟨0, 0, ⟨5, 0, false, [7]⟩⟩ (by decide) (by decide) (by decide)
  have hc : ((Rv.of ⟨1, 1, 0, false, 1000, 16, []⟩ []).act ⟨0, 0, ⟨5, 0, false, [7]⟩⟩) = (0, ⟨1, 1000, 0, 56, false, [⟨5, 16, 1, 0, false⟩], [⟨5, 0, false, [7]⟩]⟩) := by simp [Rv.act, Rv.put, Rv.of, lastOf, Rv.write, ndCheck, ndSize, padN, ixFind, ixPut, posOf]
  rw [hc] at e1 e3
  have hns : ns1 = [⟨5, 0, false, [7]⟩] := congrArg Rv.d e3
  have hnum : v1.num = 1 := congrArg Rv.num e3
  have hmost : v1.most = 1000 := congrArg Rv.most e3
  have hidx : v1.idx = [⟨5, 16, 1, 0, false⟩] := congrArg Rv.l e3
  subst hns
  have hvd := h2.act ⟨0, 0, ⟨5, 0, false, [7]⟩⟩ (by decide) e1 e2 hnum
  have hput : (⟨1, 1, 0, false, 1000, 16, []⟩ : Vl).put d0 ⟨5, 0, false, [7]⟩ = (0, d1, v1) := e1
  obtain ⟨g1, g2⟩ := e2.gets 5 0
  have hl : (Rv.of v1 [⟨5, 0, false, [7]⟩]).look 5 0 = 0 := by rfl
  obtain ⟨n, q1, -, -, q2⟩ := g2 hl
  have hn : (⟨5, 0, false, [7]⟩ : Nd) = n := Option.some.inj q1
  subst hn
  have hf : v1.find 5 0 = (0, ⟨5, 16, 1, 0, false⟩) := by
    unfold Vl.find
    rw [hidx]
    rfl
  exact ⟨d0, _, d1, v1, h1, hput, hvd, hnum, hmost, q2, by rw [hidx]; decide, by rw [hf]; decide, by rw [hf]; decide⟩
theorem alive09 (w : World) : Calls Tryz.prog 30 #[] w fun e w' => e = .returned (.bool true) ∧ Below w.heap.size w w' := by
  obtain ⟨d0, v0, d1, v1, h1, h2, h3, h4, h5, h6, h7, h8, h9⟩ := alive_plain
  have HVD := Lib.hid h3
  have HP := Lib.hid h2
  have H4 := Lib.hid h4
  have H5 := Lib.hid h5
  have H6 := Lib.hid h6
  have H7 := Lib.hid h7
  have H8 := Lib.hid h8
  have H9 := Lib.hid h9
  have HN := Lib.hid (namesAt9 (v := 1) (g := 1) (by omega) (by omega))
  have HMK := Lib.hid (fun (w1 : World) (dp : Nat) (P : Nat → Prop) (h : DS w1 dp P 0 (Dk.new 1048576)) (hP : ∀ k, P k → k < w1.heap.size) => make_ds h hP (by omega) 1 1000 0 (by omega) ⟨by omega, by omega⟩ (by omega) HN.out (long_names (by omega)))
  rw [h1] at HMK
  unfold MadeV at HMK
  clear h1 h2 h3 h4 h5 h6 h7 h8 h9
  go_enter Tryz.func30, Tryz.ntmps30
  go_wp2_with fail
  refine (new_ds 1048576 (by omega) w).mono ?_
  rintro e w1 ⟨rfl, hds, hb, hlt1⟩
  have HDS := Lib.hid hds
  have HB1 := Lib.hid hb
  have hz1 := hb.size
  clear hds hb
  obtain ⟨dp, hdp⟩ : ∃ dp, dp = w.heap.size + 2 := ⟨_, rfl⟩
  rw [← hdp] at HDS hlt1 ⊢
  clear hdp
  go_wp2_with fail
  refine (show Calls Tryz.prog 32 #[(.pointer (some ⟨dp, 0, none⟩)), .int .i64 1, .int .i64 1000, .int .i64 0] w1 _ from HMK.out w1 dp _ HDS.out (fun k hk => Nat.lt_of_lt_of_le hk hz1)).mono ?_
  rintro e w2 hmd
  obtain ⟨_, vp, rfl, hvt⟩ | ⟨h, _⟩ := hmd
  case inr => exact absurd rfl h
  have HVS := Lib.hid hvt.1
  have HB2 := Lib.hid (HB1.out.trans (hvt.2.below (B := w.heap.size) hz1 (fun k hk => hk)))
  clear hvt
  have hz2 := HB2.out.size
  go_upto_region 3 with fail
  go_wp2_with fail
  obtain ⟨w3, hw3⟩ : ∃ w3 : World, w3 = w2.alloc (.cells #[.int .u8 7] 5) := ⟨_, rfl⟩
  have hb23 : Below w2.heap.size w2 w3 := by rw [hw3]; exact (by repeat (first | (with_reducible first | exact .refl _ _ | refine .setCell ?_ ?_ _ | refine .alloc ?_ ?_ _ | refine .drewN ?_ _ | refine .drew ?_ | exact Nat.le_refl _) | (focus (simp only [World.size_alloc, World.size_setCell, World.size_drew, World.size_drewN]; omega)) | omega | exact Nat.le_refl _ | (focus (simp; done)) | (focus (simp; omega))))
  have HB3 := Lib.hid (HB2.out.trans (hb23.mono hz2))
  have HV3 := Lib.hid (HVS.out.below hb23)
  have HR3 := Lib.hid (show Reads w3 1 (.slice (some ⟨w2.heap.size, 0, none⟩) 1 1) 1 (([7] : List UInt8).map bv) by
    refine ⟨rfl, .inr ⟨_, _, rfl, by unfold maxLen; omega, fun j u hu => ?_⟩⟩
    match j, hu with
    | 0, hu =>
      cases hu
      rw [hw3]
      exact cell_of_row _ _ _ _ _ _ (heap_new w2 _)
    | k + 1, hu => simp at hu)
  rw [← hw3]
  clear hw3 hb23
  have hz3 := HB3.out.size
  have HPT := Lib.hid (put_vs HV3.out (fun k hk => Nat.lt_of_lt_of_le hk hz3) ⟨5, 0, false, [7]⟩ (some ⟨w2.heap.size, 0, none⟩) 1 (by decide) (by decide) (by decide) HR3.out)
  rw [HP.out] at HPT
  refine (show Calls Tryz.prog 65 #[(.pointer (some ⟨vp, 0, none⟩)), .agg #[.int .u64 5, .int .u32 0, .bool false, .slice (some ⟨w2.heap.size, 0, none⟩) 1 1]] w3 _ from HPT.out).mono ?_
  rintro e w4 ⟨rfl, hvt⟩
  obtain ⟨ix, vx, -, hd4, -, hok⟩ := hvt.1
  have HD4 := Lib.hid (hd4.less (fun k hk => .inl hk) : DS w4 dp (fun k => k < w.heap.size) _ _)
  have HOK := Lib.hid hok
  have HB4 := Lib.hid (HB3.out.trans (hvt.2.below (B := w.heap.size) hz3 (fun k hk => hk)))
  clear hvt hd4 hok HPT
  have hz4 := HB4.out.size
  rw [show errV ((0 : Nat) : Int) = .nilIface from rfl]
  go_wp2_with fail
  have HCR := Lib.hid (crash_ds HD4.out (fun k hk => Nat.lt_of_lt_of_le hk hz4) (by omega) ⟨0, []⟩ none 0 (reads_none _ _) (fun a h => by cases h) (by decide) (by decide) (fun x h => absurd h List.not_mem_nil))
  rw [HVD.out.crash] at HCR
  refine (show Calls Tryz.prog 37 #[(.pointer (some ⟨dp, 0, none⟩)), .agg #[.int .i64 0, .slice none 0 0]] w4 _ from HCR.out).mono ?_
  rintro e w5 ⟨rfl, ht⟩
  have HD5 := Lib.hid ht.1
  have HB5 := Lib.hid (HB4.out.trans (ht.2.below (B := w.heap.size) hz4 (fun k hk => hk)))
  clear ht HCR
  have hz5 := HB5.out.size
  have HOP := Lib.hid (reopen HD5.out (fun k hk => Nat.lt_of_lt_of_le hk hz5) (by omega) HVD.out HOK.out (by rw [H4.out]; exact HN.out) H7.out)
  rw [H4.out, H5.out] at HOP
  go_wp2_with fail
  refine (show Calls Tryz.prog 39 #[(.pointer (some ⟨dp, 0, none⟩)), .int .i64 1, .int .i64 1000] w5 _ from HOP.out).mono ?_
  rintro e w6 ⟨vp2, rfl, hv6, -, hk6⟩
  have HV6 := Lib.hid hv6
  have HB6 := Lib.hid (HB5.out.trans (hk6.below (B := w.heap.size) hz5 (fun k hk => hk)))
  clear hv6 hk6 HOP
  obtain ⟨ix2, vx2, hva, hds6, -, hok6⟩ := HV6.out
  have HGT := Lib.hid (vget_any hva hds6 hok6.names hok6.long.1 5 0 H8.out H9.out)
  rw [H6.out] at HGT
  clear hva hds6 hok6
  go_wp2_with fail
  refine (show Calls Tryz.prog 66 #[(.pointer (some ⟨vp2, 0, none⟩)), .int .u64 5, .int .u32 0] w6 _ from HGT.out).mono ?_
  rintro e w7 ⟨vd, ev, rfl, her, ho7, hb7⟩
  obtain ⟨-, rfl⟩ := her.resolve_right (fun h => by cases h.1)
  obtain ⟨ad, cd, rfl, -⟩ := slice_of ho7
  have HB7 := Lib.hid (HB6.out.trans (hb7.mono HB6.out.size))
  clear her ho7 hb7
  rw [show errV ((0 : Nat) : Int) = .nilIface from rfl]
  simp only [List.length_cons, List.length_nil]
  go_wp2_with fail
  refine (make_nil _).mono ?_
  rintro e wx ⟨rfl, rfl⟩
  rw [errV_ne (show (15 : Int) ≠ 0 by decide)]
  go_wp2_with fail
  refine (code0 _).mono ?_
  rintro e wx ⟨rfl, rfl⟩
  go_wp2_with fail
  refine (code0 _).mono ?_
  rintro e wx ⟨rfl, rfl⟩
  go_wp2_with fail
  refine (code0 _).mono ?_
  rintro e wx ⟨rfl, rfl⟩
  go_wp2_with fail
  refine (code0 _).mono ?_
  rintro e wx ⟨rfl, rfl⟩
  go_wp2_with fail
  refine (show Calls Tryz.prog 14 #[.iface 106 (.int .i64 15)] _ _ from code_some 15 (by decide) (by decide) _).mono ?_
  rintro e wx ⟨rfl, rfl⟩
  go_wp2_with fail
  go_ret
  have hz7 := HB7.out.size
  refine ⟨rfl, HB7.out.trans (by repeat (first | (with_reducible first | exact .refl _ _ | refine .setCell ?_ ?_ _ | refine .alloc ?_ ?_ _ | refine .drewN ?_ _ | refine .drew ?_ | exact Nat.le_refl _) | (focus (simp only [World.size_alloc, World.size_setCell, World.size_drew, World.size_drewN]; omega)) | omega | exact Nat.le_refl _ | (focus (simp; done)) | (focus (simp; omega))))⟩
end Go.Proofs.YtmkhacgdejkimaaGreatDoor
