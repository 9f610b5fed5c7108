/- Law CkptNil: the walk. -/
import Derived.Test.YtmkhacgdejkimaaGreatDoorCnCkptAlive
import Derived.Test.YtmkhacgdejkimaaGreatDoorCn22
import Derived.Test.YtmkhacgdejkimaaGreatDoorCnLaw09s
import Derived.Laws.OwnMore
namespace Go.Proofs.YtmkhacgdejkimaaGreatDoor
set_option maxRecDepth 100000
set_option maxHeartbeats 8000000
open Go.RowKit
theorem readsCells {w : World} {b n : Nat} {xs : Array Value} {t : TypeId} (h : w.heap[b]? = some (.cells xs t (0, 0))) (hn : xs.size = n) (hm : n ≤ maxLen) : Reads w 1 (.slice (some ⟨b, 0, none⟩) n n) n xs.toList := by
  refine ⟨by simp [hn], .inr ⟨_, _, rfl, hm, fun j u hu => ?_⟩⟩
  have := cell_of_row w b j _ _ _ h
  rw [show (⟨b, 0, none⟩ : Addr).add j = ⟨b, j, none⟩ by simp [Addr.add]; intro e; exact e.symm, this]
  simpa using hu
theorem ckptNil_walk (a : Option Addr) (len cap : Nat) (l : List ActE) (w : World) (hl : l.length = len) (hr : Reads w 6 (.slice a len cap) len (l.flatMap ActE.cs)) (ho : ∀ x ∈ l, ActArg w x) :
    Calls Tryz.prog 3 #[.slice a len cap] w fun e w' => e = .returned (.bool true) ∧ Below w.heap.size w w' := by
  have HL := Lib.hid hl
  have HR := Lib.hid hr
  have HO := Lib.hid ho
  clear hl hr ho
  go_enter Tryz.func3, Tryz.ntmps3
  go_wp2_with fail
  refine (alive10 w).mono ?_
  rintro e w1 ⟨rfl, hb⟩
  have HB1 := Lib.hid hb
  have hz1 := hb.size
  clear hb
  by_cases h8 : (8 : Int) < (len : Int)
  · have h8' : decide ((8 : Int) < (len : Int)) = true := by simpa using h8
    have h8'' : decide (8 < len) = true := by simp; omega
    go_wp2_with fail
    go_ret
    exact ⟨rfl, HB1.out⟩
  have h8' : decide ((8 : Int) < (len : Int)) = false := by simpa using h8
  have h8'' : decide (8 < len) = false := by simp; omega
  go_wp2_with fail
  refine (far9_any a len cap l w1 HL.out (HR.out.below HB1.out)).mono ?_
  rintro e wx ⟨rfl, rfl⟩
  cases hfa : far9 l
  case true =>
    go_wp2_with fail
    go_ret
    exact ⟨rfl, HB1.out⟩
  have HFA := Lib.hid (far9_no hfa)
  clear hfa
  have h60 : len ≤ 60 := by omega
  have HMA := Lib.hid (show Calls Tryz.prog 11 #[.slice a len cap] w1 (MadeD w1 1 l) from made10_any a len cap l w1 HL.out (HR.out.below HB1.out) (fun x hx => (HO.out x hx).below HB1.out) h60 HFA.out.2)
  unfold MadeD at HMA
  go_wp2_with fail
  refine HMA.out.mono ?_
  rintro e w2 ⟨vp, dp, F, val, d, v, ns, rfl, hvf, hfb, hvi, hrv, hac, hsz, hns, hb⟩
  have hnum : v.num = 1 := by
    have h3 := congrArg Rv.num hac
    rw [Rv.acts_num] at h3
    exact h3
  have hvs : v.size ≤ 100000 := by rw [HL.out] at hsz; omega
  have hvl : v.idx.length ≤ 60 := Nat.le_trans hvi.len (Nat.le_trans hns (by rw [HL.out]; exact h60))
  have HGD := Lib.hid (CkGood.of hvi hnum (by omega))
  have hok : DkOk 245 d := by obtain ⟨ix, vx, P, g1, g2, g4⟩ := hvf.at'; exact g2.ok
  have HFULL := Lib.hid (fun (zs : List UInt8) (hz : zs.length = 1048576 - d.used) => hvi.full hok hnum hvs (by omega) zs hz)
  have HUS := Lib.hid (show d.used ≤ 1048576 by rw [hvi.used]; omega)
  obtain ⟨al, cl, ad, cd, xs, rfl, hat⟩ := hrv
  have HRD := Lib.hid (show Reads w2 5 (.slice al v.idx.length cl) v.idx.length (v.idx.flatMap psC) from hat.rl)
  have HRB := Lib.hid (show ∀ x, al = some x → ¬ F x.block ∧ x.block < w2.heap.size from hat.bl)
  have HSM := Lib.hid (fun (w0 : World) (ix : Nat) (vx : Value) (hv : VolAt w0 vp dp ix vx v) (hr : Reads w0 5 (.slice al v.idx.length cl) v.idx.length (v.idx.flatMap psC)) => same09_any (ns := ns) hv al cl ad cd hr (by omega))
  unfold rvV at HSM ⊢
  obtain ⟨R, hR⟩ : ∃ R, R = Rv.of v ns := ⟨_, rfl⟩
  rw [← hR] at HSM ⊢
  obtain ⟨num, most, epoch, size, shut, lv, dd⟩ := R
  simp only at HSM ⊢
  obtain ⟨ln, hln⟩ : ∃ ln, ln = lv.length := ⟨_, rfl⟩
  obtain ⟨dn, hdn⟩ : ∃ dn, dn = dd.length := ⟨_, rfl⟩
  rw [← hln, ← hdn] at HSM ⊢
  have HVF := Lib.hid hvf
  have HFB := Lib.hid hfb
  have HB2 := Lib.hid (HB1.out.trans (hb.mono hz1))
  clear hvf hfb hvi hat hR hac hsz hns hb hln hdn hnum hvs hok
  go_upto_region 6 with fail
  obtain ⟨w3, hw3⟩ : ∃ w3 : World, w3 = w2.alloc (.cells #[.int .i64 num, .int .i64 most, .int .i64 epoch, .int .i64 size, .bool shut, .slice al ln cl, .slice ad dn cd] 30) := ⟨_, rfl⟩
  have HB23 := Lib.hid (show Below w2.heap.size w2 w3 by rw [hw3]; exact (by repeat (first | (with_reducible first | exact .refl _ _ | refine .setCell ?_ ?_ _ | refine .alloc ?_ ?_ _ | refine .drewN ?_ _ | refine .drew ?_ | exact Nat.le_refl _) | (focus (simp only [World.size_alloc, World.size_setCell, World.size_drew, World.size_drewN]; omega)) | omega | exact Nat.le_refl _ | (focus (simp; done)) | (focus (simp; omega)))))
  have KM3 := Lib.hid (show w3.heap[w2.heap.size]? = some (.cells #[.int .i64 num, .int .i64 most, .int .i64 epoch, .int .i64 size, .bool shut, .slice al ln cl, .slice ad dn cd] 30 (0, 0)) by rw [hw3]; exact heap_new w2 _)
  have HVF3 := Lib.hid (HVF.out.kp (KP.of HB23.out) (fun k hk => HVF.out.lt k hk))
  have HRD3 := Lib.hid (HRD.out.below HB23.out)
  rw [← hw3]
  clear hw3
  have hz23 := HB23.out.size
  obtain ⟨MB, hMB⟩ : ∃ MB, MB = w2.heap.size := ⟨_, rfl⟩
  have hMF := Lib.hid (show ¬ F MB from fun e => by have := HVF.out.lt MB e; omega)
  rw [← hMB] at KM3 ⊢
  clear hMB
  go_wp2_with fail
  refine (ckstep_nil w3).mono ?_
  rintro e wx ⟨rfl, rfl⟩
  rw [errV_ne (show (15 : Int) ≠ 0 by decide)]
  go_wp2_with fail
  refine (cknew_nil1 vp w3).mono ?_
  rintro e wx ⟨rfl, rfl⟩
  rw [errV_ne (show (15 : Int) ≠ 0 by decide)]
  go_wp2_with fail
  refine (cknew_nil2 dp w3).mono ?_
  rintro e wx ⟨rfl, rfl⟩
  rw [errV_ne (show (15 : Int) ≠ 0 by decide)]
  go_wp2_with fail
  refine (show Calls Tryz.prog 14 #[.iface 106 (.int .i64 15)] _ _ from code_some 15 (by decide) (by decide) _).mono ?_
  rintro e wx ⟨rfl, rfl⟩
  go_wp2_with fail
  refine (show Calls Tryz.prog 14 #[.iface 106 (.int .i64 15)] _ _ from code_some 15 (by decide) (by decide) _).mono ?_
  rintro e wx ⟨rfl, rfl⟩
  go_wp2_with fail
  refine (show Calls Tryz.prog 14 #[.iface 106 (.int .i64 15)] _ _ from code_some 15 (by decide) (by decide) _).mono ?_
  rintro e wx ⟨rfl, rfl⟩
  go_wp2_with fail
  refine (ckupto_nil w3).mono ?_
  rintro e wx ⟨rfl, rfl⟩
  obtain ⟨P, hP⟩ : ∃ P : Nat → Prop, P = fun k => k < w3.heap.size ∧ ¬ F k := ⟨_, rfl⟩
  have HPV := Lib.hid hP
  have HV3 := Lib.hid (show VS w3 vp dp P 245 d v from HVF3.out.vs (P := P) (fun k hk e => by rw [hP] at e; exact e.2 hk))
  have HPL := Lib.hid (show ∀ j, P j → j < w3.heap.size from fun j h => by rw [hP] at h; exact h.1)
  clear hP
  obtain ⟨R1, r1, r2, r3, r4⟩ := HV3.out.disk HPL.out
  have HCR := Lib.hid (create_ds r1 r3 (by omega) [98, 105, 103] (by decide))
  have HR4 := Lib.hid r4
  clear r1 r2 r3 r4
  obtain ⟨d1, d2, d3, e1, u1, e2, e3, e4⟩ := HFULL.out (List.replicate (1048576 - d.used) 0) (by simp)
  rw [e1] at HCR
  have HE2 := Lib.hid e2
  have HE3 := Lib.hid e3
  have HE4 := Lib.hid e4
  have HU1 := Lib.hid u1
  clear e1 e2 e3 e4 u1
  go_wp2_with fail
  refine HCR.out.mono ?_
  rintro e w4 ⟨rfl, ht⟩
  obtain ⟨hv4, hk4⟩ := HR4.out _ _ _ ht
  have HV4 := Lib.hid hv4
  have HK4 := Lib.hid hk4
  have HPL4 := Lib.hid (show ∀ j, P j → j < w4.heap.size from fun j h => Nat.lt_of_lt_of_le (HPL.out j h) hk4.size)
  clear ht hv4 hk4
  obtain ⟨R2, r1, r2, r3, r4⟩ := HV4.out.disk HPL4.out
  have HUD := Lib.hid (used_ds r1)
  rw [HU1.out] at HUD
  have hus := HUS.out
  clear r1 r2 r3 r4
  obtain ⟨U, hU⟩ : ∃ U, U = d.used := ⟨_, rfl⟩
  rw [← hU] at HUD HE2 hus
  clear hU
  obtain ⟨N, hN⟩ : ∃ N, N = 1048576 - U := ⟨_, rfl⟩
  rw [← hN] at HE2
  have hNl : N ≤ 1048576 := by omega
  have hwu : IntKind.i64.wrap (1048576 - (U : Int)) = (N : Int) := by rw [IntKind.wrap_i64]; omega
  clear hN
  go_wp2_with fail
  refine HUD.out.mono ?_
  rintro e w5 ⟨rfl, hb⟩
  have HB45 := Lib.hid hb
  clear hb
  obtain ⟨i0, hi, hz0, hz1, hz2⟩ := info_parts byte_info
  have hmk : (Instr.makeSlice 44 (.int .i64 (N : Int)) (.int .i64 (N : Int))).run Tryz.prog w5 = .ok (.slice (some ⟨w5.heap.size, 0, none⟩) N N) (w5.alloc (.cells (madeCells #[.int .u8 0] N) 5)) := by
    have h := run_makeSlice (P := Tryz.prog) (w := w5) 44 5 i0 (.int .u8 0) Tryz.underlying44 hi hz0 .i64 .i64 (N : Int) (N : Int) (by omega) (Int.le_refl _) (by rw [hz1]; omega) (by rw [hz2]; omega) (by omega)
    rw [hz1] at h
    simpa [Value.cells] using h
  clear hi hz0 hz1 hz2
  obtain ⟨w6, hw6⟩ : ∃ w6 : World, w6 = w5.alloc (.cells (madeCells #[.int .u8 0] N) 5) := ⟨_, rfl⟩
  have hb6 : Below w5.heap.size w5 w6 := by rw [hw6]; exact (by repeat (first | (with_reducible first | exact .refl _ _ | refine .setCell ?_ ?_ _ | refine .alloc ?_ ?_ _ | refine .drewN ?_ _ | refine .drew ?_ | exact Nat.le_refl _) | (focus (simp only [World.size_alloc, World.size_setCell, World.size_drew, World.size_drewN]; omega)) | omega | exact Nat.le_refl _ | (focus (simp; done)) | (focus (simp; omega))))
  have K6 := Lib.hid (show w6.heap[w5.heap.size]? = some (.cells (madeCells #[.int .u8 0] N) 5 (0, 0)) by rw [hw6]; exact heap_new w5 _)
  have HB46 := Lib.hid (HB45.out.trans (hb6.mono HB45.out.size))
  have HZR := Lib.hid (show Reads w6 1 (.slice (some ⟨w5.heap.size, 0, none⟩) N N) N ((List.replicate N (0 : UInt8)).map bv) by
    have h := readsCells (n := N) K6.out (by rw [size_madeCells]) (by unfold maxLen; omega)
    rw [toList_madeCells_one] at h
    simpa [bv] using h)
  rw [← hw6] at hmk
  clear hw6 hb6
  have HV6 := Lib.hid (HV4.out.below HB46.out)
  have HPL6 := Lib.hid (show ∀ j, P j → j < w6.heap.size from fun j h => Nat.lt_of_lt_of_le (HPL4.out j h) HB46.out.size)
  obtain ⟨R3, r1, r2, r3, r4⟩ := HV6.out.disk HPL6.out
  have HAP := Lib.hid (append_ds r1 r3 [98, 105, 103] (.slice (some ⟨w5.heap.size, 0, none⟩) N N) (List.replicate N (0 : UInt8)) (by decide) (by simpa using HZR.out))
  rw [HE2.out] at HAP
  have HR6 := Lib.hid r4
  clear r1 r2 r3 r4
  go_wp2_with fail
  refine HAP.out.mono ?_
  rintro e w7 ⟨rfl, ht⟩
  obtain ⟨hv7, hk7⟩ := HR6.out _ _ _ ht
  have HV7 := Lib.hid hv7
  have HK47 := Lib.hid (show KP P w3 w7 from (HK4.out.trans (KP.of HB46.out)).trans hk7)
  clear ht hv7 hk7 hmk
  have HPL7 := Lib.hid (show ∀ j, P j → j < w7.heap.size from fun j h => Nat.lt_of_lt_of_le (HPL.out j h) HK47.out.size)
  go_wp2_with fail
  refine (cknew_any dp vp w7).mono ?_
  rintro e w8 ⟨rfl, hcw, hb⟩
  have HS8 := Lib.hid (CkSt.start (Z := P) HV7.out HPL7.out (fun j hj => hj) hb hcw)
  have HK38 := Lib.hid (show KP P w3 w8 from HK47.out.trans (KP.of hb))
  clear hcw hb
  obtain ⟨wb, hwb⟩ : ∃ wb, wb = w7.heap.size := ⟨_, rfl⟩
  rw [← hwb] at HS8 ⊢
  clear hwb
  have HSP1 := Lib.hid (HS8.out.step HGD.out (by omega) (by omega) HE3.out)
  rw [if_pos rfl] at HSP1
  go_wp2_with fail
  refine HSP1.out.mono ?_
  rintro e w9 ⟨rfl, hst, hkp⟩
  have HS9 := Lib.hid hst
  have HK39 := Lib.hid (HK38.out.trans hkp)
  clear hst hkp
  have HSP2 := Lib.hid (HS9.out.step HGD.out (by omega) (by omega) HE4.out)
  rw [if_neg (by omega), errV_ne (show ((11 : Nat) : Int) ≠ 0 by decide)] at HSP2
  go_wp2_with fail
  refine HSP2.out.mono ?_
  rintro e w10 ⟨rfl, hst, hkp⟩
  have HS10 := Lib.hid hst
  have HK310 := Lib.hid (HK39.out.trans hkp)
  clear hst hkp
  go_wp2_with fail
  refine HS10.out.over.mono ?_
  rintro e wx ⟨rfl, rfl⟩
  rw [errV_ne (show (16 : Int) ≠ 0 by decide)]
  have KM10 := Lib.hid (KP.blk HK310.out KM3.out (by rw [HPV.out]; exact ⟨blk_lt KM3.out, hMF.out⟩))
  obtain ⟨m0, m1, m2, m3, m4, m5, m6⟩ := cells7' KM10.out
  have hlm := blk_lt KM10.out
  go_wp2_with fail
  refine (show Calls Tryz.prog 14 #[.iface 106 (.int .i64 11)] _ _ from code_some 11 (by decide) (by decide) _).mono ?_
  rintro e wx ⟨rfl, rfl⟩
  go_wp2_with fail
  refine (show Calls Tryz.prog 14 #[.iface 106 (.int .i64 16)] _ _ from code_some 16 (by decide) (by decide) _).mono ?_
  rintro e wx ⟨rfl, rfl⟩
  have HSA := Lib.hid (show Calls Tryz.prog 19 #[(.pointer (some ⟨vp, 0, none⟩)), .agg #[.int .i64 num, .int .i64 most, .int .i64 epoch, .int .i64 size, .bool shut, .slice al ln cl, .slice ad dn cd]] w10 fun e w' => e = .returned (.bool true) ∧ Below w10.heap.size w10 w' by
    obtain ⟨Q, q1, q2, ⟨ix, vx, g1, -⟩, -⟩ := HS10.out
    exact HSM.out w10 ix vx g1 (HRD3.out.keepsN (by omega) HK310.out (fun x e => ⟨Nat.lt_of_lt_of_le (HRB.out x e).2 hz23, fun e2 => e2 (by rw [HPV.out]; exact ⟨Nat.lt_of_lt_of_le (HRB.out x e).2 hz23, (HRB.out x e).1⟩)⟩)))
  go_wp2_with fail
  refine HSA.out.mono ?_
  rintro e w11 ⟨rfl, hb⟩
  have hz2 := HB2.out.size
  have HBF := Lib.hid (show Below w.heap.size w w11 from by
    have h3 : Below w.heap.size w w3 := HB2.out.trans (HB23.out.mono hz2)
    have h10 : Below w.heap.size w3 w10 := KP.below HK310.out h3.size (fun j hj => by rw [HPV.out]; exact ⟨by have := h3.size; omega, fun e => by have := HFB.out j e; omega⟩)
    exact (h3.trans h10).trans (hb.mono (h3.trans h10).size))
  clear hb
  go_wp2_with fail
  go_ret
  exact ⟨rfl, HBF.out⟩
end Go.Proofs.YtmkhacgdejkimaaGreatDoor
