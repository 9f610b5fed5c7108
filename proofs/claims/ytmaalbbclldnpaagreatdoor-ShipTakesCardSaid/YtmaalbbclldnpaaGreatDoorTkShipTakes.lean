/- Law ShipTakes: the walk. -/
import Derived.Test.YtmaalbbclldnpaaGreatDoorTkShipPages
import Derived.Test.YtmaalbbclldnpaaGreatDoorTkRef13t
namespace Go.Proofs.YtmaalbbclldnpaaGreatDoor
open Go.RowKit
set_option maxRecDepth 100000 in
set_option maxHeartbeats 8000000 in
theorem shipTakes_walk (a : Option Addr) (len cap : Nat) (l : List ActE) (fr : Nat) (m : Int) (w : World) (hl : l.length = len) (hr : Reads w 6 (.slice a len cap) len (l.flatMap ActE.cs)) (ho : ∀ x ∈ l, ActArg w x) :
    Calls Tryz.prog 3 #[.slice a len cap, .int .u64 fr, .int .i64 m] w fun e w' => e = .returned (.bool true) ∧ Below w.heap.size w w' := by
  have HL := Lib.hid hl
  have HR := Lib.hid hr
  have HO := Lib.hid ho
  clear hl hr ho
  go_enter Tryz.func3, Tryz.ntmps3
  go_wp2_with fail
  refine (alive13 w).mono ?_
  rintro e w1 ⟨rfl, hb⟩
  have HB1 := Lib.hid hb
  have hz1 := hb.size
  clear hb
  go_wp2_with fail
  refine (far9_any a len cap l w1 HL.out (HR.out.below HB1.out)).mono ?_
  rintro e wx ⟨rfl, rfl⟩
  cases hf : far9 l
  case true =>
    go_wp2_with fail
    go_ret
    exact ⟨rfl, HB1.out⟩
  have HF9 := Lib.hid (far9_no hf)
  clear hf
  have h60 : len ≤ 60 := by rw [← HL.out]; exact HF9.out.1
  have HMD := Lib.hid (show Calls Tryz.prog 11 #[.int .i64 1, .int .i64 1048576, .slice a len cap] w1 (MadeL w1 1 1048576 l) from made_any 1 1048576 (.inl rfl) (by omega) (by omega) a len cap l w1 HL.out (HR.out.below HB1.out) (fun x hx => (HO.out x hx).below HB1.out) h60 HF9.out.2)
  go_wp2_with fail
  refine HMD.out.mono ?_
  rintro e w2 ⟨vp, dp, F, val, d, v, ns, rfl, hvf, hfb, hvi, hrv, hac, hsz, hns, hb⟩
  have HVI := Lib.hid hvi
  have HB2 := Lib.hid (HB1.out.trans (hb.mono hz1))
  obtain ⟨al, cl, ad, cd, xs, rfl, hat⟩ := hrv
  have HRT := Lib.hid (fun (w0 : World) (hb : Below w2.heap.size w2 w0) (q : Nat) => rtake_any (fun k => ¬ F k) (Rv.of v ns) al cl ad cd xs fr q w0 (hat.kp (KP.of hb)) hvi.srt (by show v.idx.length ≤ _; have := hvi.len; have := HL.out; omega))
  obtain ⟨N, hN⟩ : ∃ N, N = v.idx.length := ⟨_, rfl⟩
  have HN := Lib.hid hN
  have hN60 : N ≤ 60 := by
    have := hvi.len
    have := HL.out
    omega
  have hv9 : v.size ≤ 1000000000 := by have := HL.out; omega
  have HV9 := Lib.hid hv9
  have HRL := Lib.hid (show Reads w2 5 (.slice al N cl) N (v.idx.flatMap psC) by rw [hN]; exact hat.rl)
  have HBL := Lib.hid (show ∀ ad, al = some ad → ad.block < w2.heap.size from fun ad e => (hat.bl ad e).2)
  have HVF := Lib.hid hvf
  have hlv : vp < w2.heap.size := by
    obtain ⟨ix, vx, _, _, h1, _⟩ := hvf
    exact h1.lt
  obtain ⟨i0, i1, i2, i3, i4, i6n, hrvv⟩ : ∃ (i0 i1 i2 i3 : Int) (i4 : Bool) (i6n : Nat), rvV (Rv.of v ns) al cl ad cd = .agg #[.int .i64 i0, .int .i64 i1, .int .i64 i2, .int .i64 i3, .bool i4, .slice al N cl, .slice ad i6n cd] := ⟨_, _, _, _, _, _, by rw [hN]; rfl⟩
  rw [hrvv] at HRT ⊢
  have hz2 := hb.size
  clear hrvv hvf hfb hvi hac hsz hns hb hat hN hv9
  go_upto_region 6 with fail
  obtain ⟨w3, hw3⟩ : ∃ w3 : World, w3 = w2.alloc (.cells #[.int .i64 i0, .int .i64 i1, .int .i64 i2, .int .i64 i3, .bool i4, .slice al N cl, .slice ad i6n cd] 30) := ⟨_, rfl⟩
  have HB23 := Lib.hid (show Below w2.heap.size w2 w3 by rw [hw3]; exact (by repeat (first | (with_reducible exact Below.refl _ _) | (with_reducible refine Below.setCell ?_ ?_ _) | (with_reducible refine Below.alloc ?_ ?_ _) | (with_reducible refine Below.drewN ?_ _) | (with_reducible refine Below.drew ?_) | (with_reducible exact Nat.le_refl _) | (focus (simp only [World.size_alloc, World.size_setCell, World.size_drew, World.size_drewN]; omega)) | omega | exact Nat.le_refl _ | (focus (simp; done)) | (focus (simp; omega)))))
  have KM3 := Lib.hid (show w3.heap[w2.heap.size]? = some (.cells #[.int .i64 i0, .int .i64 i1, .int .i64 i2, .int .i64 i3, .bool i4, .slice al N cl, .slice ad i6n cd] 30 (0, 0)) by rw [hw3]; exact heap_new w2 _)
  rw [← hw3]
  clear hw3
  obtain ⟨MB, hMB⟩ : ∃ MB, MB = w2.heap.size := ⟨_, rfl⟩
  rw [← hMB] at KM3 ⊢
  have HMB := Lib.hid hMB
  clear hMB
  have HTK := Lib.hid (fun (w0 : World) (hb : Below w2.heap.size w2 w0) (s : Nat) (h1 : 1 ≤ s) (h2 : s ≤ 64) => show Calls Tryz.prog 12 #[(.pointer (some ⟨vp, 0, none⟩)), .int .u64 fr, .int .i64 s] w0 (TakeTo w0 ((Rv.of v ns).load fr s)) by
    obtain ⟨ix, vx, P, g1, g2, g4⟩ := (HVF.out.keeps (R := fun k => w2.heap.size ≤ k) (Keeps.of_below hb fun k _ hk => by omega) (fun k hf e => by have := HVF.out.lt k hf; omega)).at'
    have g9 := take_any g1 g2 g4.names g4.long.1 (HVI.out.idx_pos HV9.out) fr s h1 h2
    rw [HVI.out.load fr s] at g9
    exact g9)
  have hz3 := HB23.out.size
  have HB3 := Lib.hid (HB2.out.trans (HB23.out.mono (by have := HB2.out.size; omega)))
  have hlm3 := blk_lt KM3.out
  by_cases hbad : m < 1 ∨ 64 < m
  · have d1 : decide (m < 1) = true ∨ decide (m < 1) = false ∧ decide (64 < m) = true := by
      rcases hbad with h | h
      · exact .inl (by simp; omega)
      · by_cases h' : m < 1
        · exact .inl (by simp; omega)
        · exact .inr ⟨by simp; omega, by simp; omega⟩
    have HBAD := Lib.hid hbad
    clear hbad
    go_wp2_with fail
    refine (take_bad vp fr m HBAD.out w3).mono ?_
    rintro e w4 ⟨rfl, hb⟩
    rw [errV_ne (show (1 : Int) ≠ 0 by decide)]
    have HB4 := Lib.hid (HB3.out.trans (hb.mono HB3.out.size))
    clear hb
    rcases d1 with d1 | ⟨d1, d2⟩
    · go_wp2_with fail
      refine (show Calls Tryz.prog 13 #[.iface 92 (.int .i64 1)] _ _ from code_some 1 (by decide) (by decide) _).mono ?_
      rintro e wx ⟨rfl, rfl⟩
      go_wp2_with fail
      go_ret
      exact ⟨rfl, HB4.out.alloc (HB4.out.size) _⟩
    · go_wp2_with fail
      refine (show Calls Tryz.prog 13 #[.iface 92 (.int .i64 1)] _ _ from code_some 1 (by decide) (by decide) _).mono ?_
      rintro e wx ⟨rfl, rfl⟩
      go_wp2_with fail
      go_ret
      exact ⟨rfl, HB4.out.alloc (HB4.out.size) _⟩
  · obtain ⟨s, rfl⟩ : ∃ s : Nat, m = s := ⟨m.toNat, by omega⟩
    have hs1 : 1 ≤ s := by omega
    have hs2 : s ≤ 64 := by omega
    have d1 : decide ((s : Int) < 1) = false := by simp; omega
    have d2 : decide ((64 : Int) < (s : Int)) = false := by simp; omega
    clear hbad
    have HT9 := Lib.hid (HTK.out w3 HB23.out s hs1 hs2)
    have HR9 := Lib.hid (fun (w0 : World) (hb : Below w2.heap.size w2 w0) => HRT.out w0 hb s)
    obtain ⟨LD, hLD⟩ : ∃ LD, LD = (Rv.of v ns).load fr s := ⟨_, rfl⟩
    rw [← hLD] at HT9 HR9
    have hbad0 : LD.bad = 0 := by rw [hLD]; rfl
    obtain ⟨LL, nx, mo, bd⟩ := LD
    simp only at hbad0
    subst hbad0
    clear hLD
    go_wp2_with fail
    refine HT9.out.mono ?_
    rintro e w4 ⟨vl, ys, rfl, hys, hnr, hb⟩
    simp only
    obtain ⟨nl, hnl⟩ : ∃ nl, nl = ys.length := ⟨_, rfl⟩
    have hrow := hnr.row
    rw [← hnl] at hrow
    obtain ⟨xl, xc, rfl, -⟩ := slice_of hrow
    have hnlm := (reads_of_owns hrow).le
    unfold maxLen at hnlm
    have HNL := Lib.hid hnl
    have HYS := Lib.hid (show ys.map NdE.n = LL from hys)
    have HNR := Lib.hid hnr
    have KM4 := Lib.hid (blk_below' KM3.out hb)
    have HB24 := Lib.hid (HB23.out.trans (hb.mono hz3))
    have HB4 := Lib.hid (HB3.out.trans (hb.mono HB3.out.size))
    have hz4 := hb.size
    clear hnl hys hnr hrow hb
    go_upto_region 9 with fail
    obtain ⟨w5, hw5⟩ : ∃ w5 : World, w5 = w4.alloc (.cells #[.slice xl nl xc, .int .u64 nx, .bool mo, .int .i64 0] 35) := ⟨_, rfl⟩
    have hb5 : Below w4.heap.size w4 w5 := by rw [hw5]; exact (by repeat (first | (with_reducible exact Below.refl _ _) | (with_reducible refine Below.setCell ?_ ?_ _) | (with_reducible refine Below.alloc ?_ ?_ _) | (with_reducible refine Below.drewN ?_ _) | (with_reducible refine Below.drew ?_) | (with_reducible exact Nat.le_refl _) | (focus (simp only [World.size_alloc, World.size_setCell, World.size_drew, World.size_drewN]; omega)) | omega | exact Nat.le_refl _ | (focus (simp; done)) | (focus (simp; omega))))
    have KL5 := Lib.hid (show w5.heap[w4.heap.size]? = some (.cells #[.slice xl nl xc, .int .u64 nx, .bool mo, .int .i64 0] 35 (0, 0)) by rw [hw5]; exact heap_new w4 _)
    have KM5 := Lib.hid (blk_below' KM4.out hb5)
    have HNR5 := Lib.hid (HNR.out.below hb5)
    have HB25 := Lib.hid (HB24.out.trans (hb5.mono (Nat.le_trans hz3 hz4)))
    have HB5 := Lib.hid (HB4.out.trans (hb5.mono HB4.out.size))
    have hz5 := hb5.size
    rw [← hw5]
    clear hw5 hb5
    obtain ⟨LB, hLB⟩ : ∃ LB, LB = w4.heap.size := ⟨_, rfl⟩
    rw [← hLB] at KL5 ⊢
    clear hLB
    obtain ⟨m0, m1, m2, m3, m4, m5, m6⟩ := cells7' KM5.out
    have hlm5 := blk_lt KM5.out
    go_wp2_with fail
    refine (HR9.out w5 HB25.out).mono ?_
    rintro e w6 ⟨vl2, zs, rfl, hzs, hrz, hza, hb⟩
    simp only
    have hnl2 : nl = zs.length := by
      have h1 := congrArg List.length hzs
      have h2 := congrArg List.length HYS.out
      rw [List.length_map] at h1 h2
      rw [HNL.out, h1, h2]
    rw [← hnl2] at hrz
    obtain ⟨zl, zc, rfl⟩ := reads_slice hrz
    have HZL := Lib.hid hnl2
    have HZS := Lib.hid (show zs.map NdE.n = LL from hzs)
    have HRZ := Lib.hid hrz
    have HZA := Lib.hid hza
    have KL6 := Lib.hid (blk_below' KL5.out hb)
    have HNR6 := Lib.hid (HNR5.out.below hb)
    have HB6 := Lib.hid (HB5.out.trans (hb.mono HB5.out.size))
    have hz6 := hb.size
    clear hnl2 hzs hrz hza hb m0 m1 m2 m3 m4 m5 m6
    obtain ⟨l0, l1, l2, l3⟩ := ncells KL6.out
    have hll := blk_lt KL6.out
    go_wp2_with fail
    refine (code0 _).mono ?_
    rintro e wx ⟨rfl, rfl⟩
    go_wp2_with fail
    go_loopw [15] (fun i wr => ∃ q : Nat, q ≤ nl ∧ i = .int .i64 q ∧ Below w6.heap.size w6 wr) (fun i _ => nl - (intOf i).toNat)
    case atStart => exact ⟨0, Nat.zero_le _, rfl, Below.refl _ _⟩
    case round =>
      obtain ⟨q, hq, rfl, hbz⟩ := hrel
      have HBZ := Lib.hid hbz
      have KLZ := Lib.hid (blk_below' KL6.out hbz)
      have hnz := HNR6.out.below hbz
      have hzz := hbz.size
      clear l0 l1 l2 l3
      obtain ⟨l0, l1, l2, l3⟩ := ncells KLZ.out
      have hllz := blk_lt KLZ.out
      by_cases hqn : q < nl
      · obtain ⟨y, hy⟩ : ∃ y, ys[q]? = some y := ⟨_, List.getElem?_eq_getElem (by rw [← HNL.out]; exact hqn)⟩
        obtain ⟨z, hz⟩ : ∃ z, zs[q]? = some z := ⟨_, List.getElem?_eq_getElem (by rw [← HZL.out]; exact hqn)⟩
        have hyz : y.n = z.n := by
          have h1 : (ys.map NdE.n)[q]? = some y.n := by rw [List.getElem?_map, hy]; rfl
          have h2 : (zs.map NdE.n)[q]? = some z.n := by rw [List.getElem?_map, hz]; rfl
          rw [HYS.out] at h1
          rw [HZS.out, h1] at h2
          exact Option.some.inj h2
        have hrz := hnz.row
        rw [← HNL.out] at hrz
        obtain ⟨g2, hg2⟩ : ∃ g2, xl = some ⟨g2, 0, none⟩ := by
          rcases hrz.2 with ⟨_, h0⟩ | ⟨g2, cap, cur, e, _⟩
          · omega
          · exact ⟨g2, (sl_inj e).1⟩
        subst hg2
        have y0 : wr.cell? ⟨g2, q * 4 + 0, none⟩ = some (.int .u64 y.n.key) := ownsRow_cell NdE.cs 4 NdE.cs_len ys hrz q 0 y hy (by omega)
        have y1 : wr.cell? ⟨g2, q * 4 + 1, none⟩ = some (.int .u32 y.n.cookie) := ownsRow_cell NdE.cs 4 NdE.cs_len ys hrz q 1 y hy (by omega)
        have y2 : wr.cell? ⟨g2, q * 4 + 2, none⟩ = some (.bool y.n.gone) := ownsRow_cell NdE.cs 4 NdE.cs_len ys hrz q 2 y hy (by omega)
        have y3 : wr.cell? ⟨g2, q * 4 + 3, none⟩ = some (.slice y.a y.n.data.length y.c) := ownsRow_cell NdE.cs 4 NdE.cs_len ys hrz q 3 y hy (by omega)
        rw [Nat.add_zero] at y0
        obtain ⟨b, o, c', e, hblt, r0, r1, r2, r3⟩ := nd_cells (HRZ.out.below hbz) hz (by omega)
        obtain ⟨rfl, -, rfl⟩ := sl_inj e
        have HYD := Lib.hid (show ∀ w', Below wr.heap.size wr w' → Reads w' 1 (.slice y.a y.n.data.length y.c) y.n.data.length (y.n.data.map bv) from fun w' hb => ((hnz.ins y (List.mem_of_getElem? hy)).below hb).1)
        have HZD := Lib.hid (show ∀ w', Below wr.heap.size wr w' → Reads w' 1 (.slice z.a z.n.data.length z.c) z.n.data.length (z.n.data.map bv) from fun w' hb => (((HZA.out z (List.mem_of_getElem? hz)).below hbz).below hb).data)
        have hj0 : (0 : Int) ≤ (q : Int) := by omega
        have hj1 : (q : Int) < (nl : Int) := by omega
        clear e hy hz hnz hrz
        obtain ⟨⟨yk, yc, yg, yd⟩, ya, yp⟩ := y
        obtain ⟨⟨zk, zc2, zg, zd⟩, za, zp⟩ := z
        simp only at hyz HYD HZD y0 y1 y2 y3 r0 r1 r2 r3
        cases hyz
        have HSM := Lib.hid (fun (w0 : World) (hb : Below wr.heap.size wr w0) => rsame03_any yk yc yg yd ya yp yk yc yg yd za zp w0 (HYD.out w0 hb) (HZD.out w0 hb))
        rw [decide_eq_true (rfl : (⟨yk, yc, yg, yd⟩ : Nd) = ⟨yk, yc, yg, yd⟩)] at HSM
        obtain ⟨dl, hdl⟩ : ∃ dl, dl = yd.length := ⟨_, rfl⟩
        rw [← hdl] at y3 r3 HSM
        clear hdl
        go_upto_region 17 with fail
        refine wp_region_mask0 (fun w1 => w1 = _) [1, 4, 8] [0, 1, 0, 7, 15, 0, 0, 96, 224, 511, 1023] (.op 0 0 (.op 1 2 (.op 2 0 (.op 3 0 (.op 4 2 (.op 5 0 (.op 6 0 (.op 7 0 (.op 8 2 (.op 9 1 (.op 10 0 .nil))))))))))) (by kernel_rfl) (by kernel_rfl) rfl (by kernel_rfl) (by kernel_rfl) rfl ?_
        refine stepM0 rfl rfl (fun K hK => ?_)
        go_simp
        refine hK _ ?_
        clear hK K
        refine stepM2 rfl rfl ?_ (fun w1 hS => ?_) (fun K hK => ?_)
        rotate_left
        focus (obtain rfl : w1 = _ := hS; go_simp; rfl)
        go_simp
        refine hK _ ?_
        clear hK K
        refine stepM0 rfl rfl (fun K hK => ?_)
        go_simp
        refine hK _ ?_
        clear hK K
        refine stepM0 rfl rfl (fun K hK => ?_)
        go_simp
        refine hK _ ?_
        clear hK K
        refine stepM2 rfl rfl ?_ (fun w1 hS => ?_) (fun K hK => ?_)
        rotate_left
        focus (obtain rfl : w1 = _ := hS; go_simp; rfl)
        go_simp
        refine hK _ ?_
        clear hK K
        refine stepM0 rfl rfl (fun K hK => ?_)
        go_simp
        refine hK _ ?_
        clear hK K
        refine stepM0 rfl rfl (fun K hK => ?_)
        go_simp
        refine hK _ ?_
        clear hK K
        refine stepM0 rfl rfl (fun K hK => ?_)
        go_simp
        refine hK _ ?_
        clear hK K
        refine stepM2 rfl rfl ?_ (fun w1 hS => ?_) (fun K hK => ?_)
        rotate_left
        focus (obtain rfl : w1 = _ := hS; go_simp; rfl)
        go_simp
        refine hK _ ?_
        clear hK K
        refine stepM1 rfl rfl (by kernel_rfl) (fun K hK => ?_)
        (go_wp2_with fail; refine (HSM.out _ (by repeat (first | (with_reducible exact Below.refl _ _) | (with_reducible refine Below.setCell ?_ ?_ _) | (with_reducible refine Below.alloc ?_ ?_ _) | (with_reducible refine Below.drewN ?_ _) | (with_reducible refine Below.drew ?_) | (with_reducible exact Nat.le_refl _) | (focus (simp only [World.size_alloc, World.size_setCell, World.size_drew, World.size_drewN]; omega)) | omega | exact Nat.le_refl _ | (focus (simp; done)) | (focus (simp; omega))))).mono ?_; rintro e wq ⟨rfl, hbq⟩; have HBQ := Lib.hid (show Below wr.heap.size wr wq from Below.trans (show Below wr.heap.size wr wr.drew from Below.drew (Below.refl _ _)) (hbq.mono (by simp))); clear hbq; go_wp2)
        refine stepM0 rfl rfl (fun K hK => ?_)
        go_simp
        refine hK _ ?_
        clear hK K
        try refine stepMnil0 ?_
        go_wp2_with fail
        go_roundw
        case rel => exact ⟨q + 1, by omega, by go_num, HBZ.out.trans (HBQ.out.mono hzz)⟩
        case measure => simp [intOf]; omega
      · have hqe : ¬ (q : Int) < (nl : Int) := by omega
        have hqe2 : decide ((q : Int) < (nl : Int)) = false := by simp; omega
        have hqe3 : decide (q < nl) = false := by simp; omega
        clear hnz
        go_wp2_with fail
        go_ret
        exact ⟨rfl, HB6.out.trans (HBZ.out.mono HB6.out.size)⟩
end Go.Proofs.YtmaalbbclldnpaaGreatDoor
