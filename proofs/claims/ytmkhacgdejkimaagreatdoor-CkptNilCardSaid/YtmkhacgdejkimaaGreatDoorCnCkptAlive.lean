/- Law 10: the chapter's example. -/
import Derived.Test.YtmkhacgdejkimaaGreatDoorCn21
import Derived.Test.YtmkhacgdejkimaaGreatDoorCn23
namespace Go.Proofs.YtmkhacgdejkimaaGreatDoor
set_option maxRecDepth 100000
set_option maxHeartbeats 8000000
open Go.RowKit
theorem CkGood.of {d : Dk} {v : Vl} {ns : List Nd} (h : VI d v ns) (hn : v.num = 1) (hl : v.idx.length ≤ 4096) : CkGood v := by
  have hg := h.gen
  refine ⟨namesAt9 (by omega) (by omega), namesAt9 (by omega) (by omega), ?_, ?_, hl, h.keys64⟩
  · rw [hn, c10]; decide
  · rw [hn, hg, c11]; decide
theorem alive10 (w : World) : Calls Tryz.prog 9 #[] w fun e w' => e = .returned (.bool true) ∧ Below w.heap.size w w' := by
  have HM := Lib.hid (made10_any none 0 0 [] w rfl (reads_none _ _) (fun x hx => absurd hx List.not_mem_nil) (by omega) (fun x hx => absurd hx List.not_mem_nil))
  go_enter Tryz.func9, Tryz.ntmps9
  go_wp2_with fail
  refine (show Calls Tryz.prog 11 #[.slice none 0 0] w (MadeD w 1 []) from HM.out).mono ?_
  rintro e w1 ⟨vp, dp, F, val, d, v, ns, rfl, hvf, hfb, hvi, hrv, hac, hsz, hns, hb⟩
  obtain ⟨c0, c1, c2, c3, c4, c5a, c5n, c5c, c6a, c6n, c6c, rfl⟩ := RvIn.agg hrv
  have hnum : v.num = 1 := congrArg Rv.num hac
  have hidx : v.idx = [] := congrArg Rv.l hac
  have hsz2 : v.size = 16 := congrArg Rv.size hac
  have HGD := Lib.hid (CkGood.of hvi hnum (by rw [hidx]; simp))
  have hok : DkOk 245 d := by obtain ⟨ix, vx, P, g1, g2, g4⟩ := hvf.at'; exact g2.ok
  obtain ⟨d1, d2, d3, d4, d5, e1, e2, e3, e4, e5, e6⟩ := hvi.ckAll hok hnum (by rw [hidx]; simp) (by rw [hidx, hsz2]; decide)
  obtain ⟨D, hD⟩ : ∃ D : Nat → Dk, D = fun k => match k with | 0 => d | 1 => d1 | 2 => d2 | 3 => d3 | 4 => d4 | _ => d5 := ⟨_, rfl⟩
  have HDK := Lib.hid (show ∀ k, k ≤ 4 → ckDo (ckSnap v) k (D k) = (0, D (k + 1)) from fun k hk => by
    rw [hD]
    match k, hk with
    | 0, _ => exact e1
    | 1, _ => exact e2
    | 2, _ => exact e3
    | 3, _ => exact e4
    | 4, _ => exact e5)
  have HD0 := Lib.hid (show D 0 = d from congrFun hD 0)
  have HD5 := Lib.hid (show ((D 5).size (cName 1 1)).1 = 0 by rw [hD]; exact e6)
  have HVF := Lib.hid hvf
  have HFB := Lib.hid hfb
  have HB1 := Lib.hid hb
  clear hvf hvi hrv hac hb hsz hns hnum hidx hsz2 hok e1 e2 e3 e4 e5 e6 hD hfb
  go_upto_region 2 with fail
  obtain ⟨w2, hw2⟩ : ∃ w2 : World, w2 = w1.alloc (.cells #[.int .i64 c0, .int .i64 c1, .int .i64 c2, .int .i64 c3, .bool c4, .slice c5a c5n c5c, .slice c6a c6n c6c] 30) := ⟨_, rfl⟩
  have HB12 := Lib.hid (show Below w1.heap.size w1 w2 by rw [hw2]; exact (by repeat (first | (with_reducible first | exact .refl _ _ | refine .setCell ?_ ?_ _ | refine .alloc ?_ ?_ _ | refine .drewN ?_ _ | refine .drew ?_ | exact Nat.le_refl _) | (focus (simp only [World.size_alloc, World.size_setCell, World.size_drew, World.size_drewN]; omega)) | omega | exact Nat.le_refl _ | (focus (simp; done)) | (focus (simp; omega)))))
  have HB2 := Lib.hid (HB1.out.trans (HB12.out.mono HB1.out.size))
  rw [← hw2]
  clear hw2
  have hz2 := HB2.out.size
  go_wp2_with fail
  refine (cknew_any dp vp w2).mono ?_
  rintro e w3 ⟨rfl, hcw, hb⟩
  have HVS2 := Lib.hid ((HVF.out.kp (KP.of HB12.out) (fun k hk => HVF.out.lt k hk)).vs (P := fun k => k < w2.heap.size ∧ ¬ F k) (fun k hk e => e.2 hk))
  have HST3 := Lib.hid (CkSt.start (Z := fun k => k < w.heap.size) HVS2.out (fun j hj => hj.1) (fun j hj => ⟨by have : j < w.heap.size := hj; omega, fun e => by have := HFB.out j e; have h : j < w.heap.size := hj; omega⟩) hb hcw)
  have HB3 := Lib.hid (HB2.out.trans (hb.mono hz2))
  clear hcw hb
  obtain ⟨wb, hwb⟩ : ∃ wb, wb = w2.heap.size := ⟨_, rfl⟩
  rw [← hwb] at HST3 ⊢
  clear hwb
  go_wp2_with fail
  go_loopw [7, 8] (fun n i wr => ∃ k : Nat, k ≤ 5 ∧ n = .int .i64 k ∧ i = .int .i64 k ∧ CkSt wr (fun k => k < w.heap.size) wb dp vp v (245 + 2 * k) (D k) k ∧ Below w.heap.size w wr) (fun _ i _ => 5 - (intOf i).toNat)
  case atStart => exact ⟨0, by omega, rfl, rfl, by rw [HD0.out]; exact HST3.out, HB3.out⟩
  case round =>
    obtain ⟨k, hk, rfl, rfl, hst, hbr⟩ := hrel
    have HSTR := Lib.hid hst
    have HBR := Lib.hid hbr
    clear hst hbr
    by_cases hlt : k < 5
    · have hj1 : (k : Int) < 5 := by omega
      have HSP := Lib.hid (HSTR.out.step HGD.out (by omega) (by omega) (HDK.out k (by omega)))
      rw [if_pos rfl, show errV ((0 : Nat) : Int) = .nilIface from rfl] at HSP
      obtain ⟨B4, hB4⟩ : ∃ B4, B4 = ((0 : Nat) == 0 && k == 4) := ⟨_, rfl⟩
      rw [← hB4] at HSP
      have hB5 : ((k : Int) == 4) = B4 := by
        rw [hB4]
        by_cases h : k = 4
        · subst h; rfl
        · rw [show (k == 4) = false by simpa using h, show ((k : Int) == 4) = false by simp; omega]
          rfl
      have hBB : (B4 == B4) = true := by simp
      clear hB4
      go_wp2_with fail
      refine HSP.out.mono ?_
      rintro e w4 ⟨rfl, hst, hkp⟩
      have HST4 := Lib.hid hst
      have HB4 := Lib.hid (show Below w.heap.size w w4 from HBR.out.trans (hkp.below HBR.out.size (fun j hj => hj)))
      clear hst hkp
      go_wp2_with fail
      refine (code0 _).mono ?_
      rintro e wx ⟨rfl, rfl⟩
      go_wp2_with fail
      go_roundw
      case rel => exact ⟨k + 1, by omega, by go_num, by go_num, by rw [show 245 + 2 * (k + 1) = 245 + 2 * k + 2 by omega]; exact HST4.out, HB4.out⟩
      case measure => simp [intOf]; omega
    · have hj1 : ¬ (k : Int) < 5 := by omega
      obtain rfl : k = 5 := by omega
      obtain ⟨Q, q1, q2, q3, q4, q5⟩ := HSTR.out
      obtain ⟨R, r1, r2, r3, r4⟩ := q3.disk q1
      have HSZ := Lib.hid (size_ds r1 (cName 1 1) (by rw [c11]; decide))
      obtain ⟨sz, hsz⟩ : ∃ sz, sz = ((D 5).size (cName 1 1)).2 := ⟨_, rfl⟩
      rw [HD5.out, ← hsz, c11, show errV ((0 : Nat) : Int) = .nilIface from rfl] at HSZ
      clear hsz q1 q2 q3 q4 q5 r1 r2 r3 r4
      go_wp2_with fail
      refine HSTR.out.over.mono ?_
      rintro e wx ⟨rfl, rfl⟩
      rw [errV_ne (show (16 : Int) ≠ 0 by decide)]
      go_wp2_with fail
      refine HSZ.out.mono ?_
      rintro e wx ⟨rfl, rfl⟩
      go_wp2_with fail
      refine (code0 _).mono ?_
      rintro e wx ⟨rfl, rfl⟩
      go_wp2_with fail
      refine (show Calls Tryz.prog 14 #[.iface 106 (.int .i64 16)] _ _ from code_some 16 (by decide) (by decide) _).mono ?_
      rintro e wx ⟨rfl, rfl⟩
      go_wp2_with fail
      refine (code0 _).mono ?_
      rintro e wx ⟨rfl, rfl⟩
      go_wp2_with fail
      go_ret
      exact ⟨rfl, HBR.out⟩
end Go.Proofs.YtmkhacgdejkimaaGreatDoor
