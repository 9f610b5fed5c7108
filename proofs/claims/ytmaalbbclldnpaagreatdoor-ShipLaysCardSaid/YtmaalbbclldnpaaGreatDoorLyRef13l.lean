/- Reference 13: Lay. (Written by wip/genref13l.py.) -/
import Derived.Test.YtmaalbbclldnpaaGreatDoorLy20
import Derived.Test.YtmaalbbclldnpaaGreatDoorLy18
namespace Go.Proofs.YtmaalbbclldnpaaGreatDoor
set_option maxRecDepth 100000
set_option maxHeartbeats 8000000
open Go.RowKit
theorem rlay13_any (P : Nat → Prop) (v : Rv) (al : Option Addr) (cl : Nat) (ad : Option Addr) (cd : Nat) (xs : List NdE) (x : NdE) (w : World) (h : RvAt w P v al cl ad cd xs) (hx : NdP w P x) (hdl : x.n.data.length ≤ 1000000000) (hs : IxS v.l) (hz : v.size ≤ 1000000000) (hm : v.most ≤ 1000000000) (hf : v.l.length ≤ 4096) (hdn : v.d.length ≤ 1000000) :
    Calls Tryz.prog 21 #[rvV v al cl ad cd, .agg x.cs.toArray] w (RWTo w P (v.layN x.n)) := by
  have HCK := Lib.hid (fun w0 : World => rcheck_any x hdl w0)
  have HNW := Lib.hid (fun (w0 : World) (hb : Below w.heap.size w w0) => rnewest_any v.num v.most v.epoch v.size v.shut (.slice al v.l.length cl) ad v.d.length cd xs x.n.key w0 h.rd.len (h.rd.row.below hb) ⟨_, _, _, rfl⟩)
  have HWR := Lib.hid (fun (w0 : World) (hb : Below w.heap.size w w0) (hd : x.n.data.length ≤ 100000) => rwrite_any (POld P w) v al cl ad cd xs x w0 (h.old hb) (hx.old hb) hs hd hz hm hf hdn)
  have HO := Lib.hid (fun (w' : World) (hb : Below w.heap.size w w') => h.out' hb)
  have HIN := Lib.hid (fun (w' : World) (hb : Below w.heap.size w w') (y : NdE) (hy : y ∈ xs) => (NdP.below (show NdP w P y from h.rd.ins y hy) hb).1)
  have HXD := Lib.hid (fun (w' : World) (hb : Below w.heap.size w w') => hx.1.data.below hb)
  have HCD := Lib.hid (show ndCheck x.n = 0 → x.n.data.length ≤ 100000 from fun e => by
    have := (ndCheck_ok e).1
    omega)
  have HSE := Lib.hid (show v.layN x.n = if ndCheck x.n ≠ 0 then (ndCheck x.n, v) else match lastOf v.d x.n.key with | none => v.write x.n | some o => if o.cookie ≠ x.n.cookie then (9, v) else if o.gone = true then (0, v) else if x.n.gone = true then v.write x.n else if o = x.n then (0, v) else (8, v) from rfl)
  obtain ⟨R, hR⟩ : ∃ R, R = v.layN x.n := ⟨_, rfl⟩
  rw [← hR] at HSE ⊢
  obtain ⟨K, hK⟩ : ∃ K, K = ndCheck x.n := ⟨_, rfl⟩
  rw [← hK] at HSE HCK HCD
  obtain ⟨WR, hWR⟩ : ∃ WR, WR = v.write x.n := ⟨_, rfl⟩
  rw [← hWR] at HSE HWR
  rw [← h.eq] at HSE
  have hnd : NdE.cs x = [.int .u64 x.n.key, .int .u32 x.n.cookie, .bool x.n.gone, .slice x.a x.n.data.length x.c] := rfl
  rw [hnd] at HCK HWR ⊢
  obtain ⟨⟨key, cookie, gone, data⟩, xa, xc⟩ := x
  obtain ⟨num, most, epoch, size, shut, l, dd⟩ := v
  unfold rvV at HWR HO ⊢
  simp only at HCK HNW HWR HO HSE HCD HXD ⊢
  obtain ⟨ln, hln⟩ : ∃ ln, ln = l.length := ⟨_, rfl⟩
  obtain ⟨dn, hdn2⟩ : ∃ dn, dn = dd.length := ⟨_, rfl⟩
  obtain ⟨xn, hxn⟩ : ∃ xn, xn = data.length := ⟨_, rfl⟩
  have HXN := Lib.hid hxn
  rw [← hln, ← hdn2] at HNW HWR HO ⊢
  rw [← hxn] at HCK HWR HCD ⊢
  clear h hR hK hWR hln hdn2 hx hxn hnd
  go_enter Tryz.func21, Tryz.ntmps21
  go_upto_region 1 with fail
  obtain ⟨w0, hw0⟩ : ∃ w0 : World, w0 = ((w.alloc (.cells #[.int .i64 num, .int .i64 most, .int .i64 epoch, .int .i64 size, .bool shut, .slice al ln cl, .slice ad dn cd] 30)).alloc (.cells #[.int .u64 key, .int .u32 cookie, .bool gone, .slice xa xn xc] 47)).alloc (.cells #[.int .i64 0, .int .i64 0, .int .i64 0, .int .i64 0, .bool false, .slice none 0 0, .slice none 0 0] 30) := ⟨_, rfl⟩
  have HB0 := Lib.hid (show Below w.heap.size w w0 by rw [hw0]; exact (by repeat (first | (with_reducible first | exact .refl _ _ | refine .setCell ?_ ?_ _ | refine .alloc ?_ ?_ _ | refine .drewN ?_ _ | refine .drew ?_ | exact Nat.le_refl _) | (focus (simp only [World.size_alloc, World.size_setCell, World.size_drew, World.size_drewN]; omega)) | omega | exact Nat.le_refl _ | (focus (simp; done)) | (focus (simp; omega)))))
  have KV0 := Lib.hid (show w0.heap[w.heap.size]? = some (.cells #[.int .i64 num, .int .i64 most, .int .i64 epoch, .int .i64 size, .bool shut, .slice al ln cl, .slice ad dn cd] 30 (0, 0)) by rw [hw0]; exact blk_alloc (blk_alloc (heap_new w _) _) _)
  have KX0 := Lib.hid (show w0.heap[w.heap.size + 1]? = some (.cells #[.int .u64 key, .int .u32 cookie, .bool gone, .slice xa xn xc] 47 (0, 0)) by rw [hw0]; exact blk_alloc (blk_new _ (by simp)) _)
  have KR0 := Lib.hid (show w0.heap[w.heap.size + 2]? = some (.cells #[.int .i64 0, .int .i64 0, .int .i64 0, .int .i64 0, .bool false, .slice none 0 0, .slice none 0 0] 30 (0, 0)) by rw [hw0]; exact blk_new _ (by simp))
  rw [← hw0, show w.heap.size + 1 + 1 = w.heap.size + 2 from rfl]
  clear hw0
  have hz0 := HB0.out.size
  obtain ⟨v0, v1, v2, v3, v4, v5, v6⟩ := cells7' KV0.out
  obtain ⟨x0, x1, x2, x3⟩ := ncells KX0.out
  obtain ⟨r0, r1, r2, r3, r4, r5, r6⟩ := cells7' KR0.out
  obtain ⟨g0, g1, g2, g3, g4, g5, g6⟩ := free7 KR0.out
  have hl0 := blk_lt KR0.out
  go_wp2_with fail
  refine (HCK.out w0).mono ?_
  rintro e w1 ⟨rfl, hb⟩
  have KV1 := Lib.hid (blk_below' KV0.out hb)
  have KX1 := Lib.hid (blk_below' KX0.out hb)
  have KR1 := Lib.hid (blk_below' KR0.out hb)
  have HB1 := Lib.hid (HB0.out.trans (hb.mono hz0))
  have hz1 := hb.size
  clear hb v0 v1 v2 v3 v4 v5 v6 x0 x1 x2 x3 r0 r1 r2 r3 r4 r5 r6 g0 g1 g2 g3 g4 g5 g6
  obtain ⟨v0, v1, v2, v3, v4, v5, v6⟩ := cells7' KV1.out
  obtain ⟨x0, x1, x2, x3⟩ := ncells KX1.out
  obtain ⟨r0, r1, r2, r3, r4, r5, r6⟩ := cells7' KR1.out
  obtain ⟨g0, g1, g2, g3, g4, g5, g6⟩ := free7 KR1.out
  have hl1 := blk_lt KR1.out
  by_cases hk0 : K = 0
  case neg =>
    have e1 : ((K : Int) != 0) = true := by simp; omega
    have HE := Lib.hid (HSE.out.trans (if_pos hk0))
    clear hk0
    go_wp2_with fail
    obtain ⟨wx, hwx⟩ : ∃ wx, wx = set7i w1 (w.heap.size + 2) (.int .i64 num) (.int .i64 most) (.int .i64 epoch) (.int .i64 size) (.bool shut) (.slice al ln cl) (.slice ad dn cd) := ⟨_, rfl⟩
    have HBX := Lib.hid (show Below w.heap.size w wx by rw [hwx]; exact HB1.out.trans (set7i_below (by omega) _ _ _ _ _ _ _))
    have kbx := store7i (KR1.out) (.int .i64 num) (.int .i64 most) (.int .i64 epoch) (.int .i64 size) (.bool shut) (.slice al ln cl) (.slice ad dn cd)
    rw [← hwx] at kbx
    unfold set7i at hwx
    rw [← hwx]
    clear hwx
    obtain ⟨s0, s1, s2, s3, s4, s5, s6⟩ := cells7' kbx
    refine bodyPost_ret (v := ?_) ?_ rfl ?_
    rotate_left; (focus (simp [results, Tryz.results21, go_sem, s0, s1, s2, s3, s4, s5, s6]; exact rfl))
    rw [HE.out]
    exact ⟨_, rfl, HO.out _ HBX.out, HBX.out⟩
  case pos =>
  have e1 : ((K : Int) != 0) = false := by simp; omega
  have hxn := HCD.out hk0
  replace HSE := Lib.hid (HSE.out.trans (if_neg (by omega)))
  clear hk0
  go_upto_region 4 with fail
  go_wp2_with fail
  refine (HNW.out w1 HB1.out).mono ?_
  rintro e w2 ⟨r, rfl, hr, hrm, hb⟩
  have KV2 := Lib.hid (blk_below' KV1.out hb)
  have KX2 := Lib.hid (blk_below' KX1.out hb)
  have KR2 := Lib.hid (blk_below' KR1.out hb)
  have HB2 := Lib.hid (HB1.out.trans (hb.mono (by omega)))
  have hz2 := hb.size
  have HRM := Lib.hid hrm
  clear hb hrm v0 v1 v2 v3 v4 v5 v6 x0 x1 x2 x3 r0 r1 r2 r3 r4 r5 r6 g0 g1 g2 g3 g4 g5 g6
  rw [← hr] at HSE
  clear hr
  cases r with
  | none =>
    have HE := Lib.hid (show R = WR from HSE.out)
    unfold ndOV
    simp only [Option.isSome_none]
    obtain ⟨w3, hw3⟩ : ∃ w3 : World, w3 = w2.alloc (.cells #[.int .u64 0, .int .u32 0, .bool false, .slice none 0 0] 47) := ⟨_, rfl⟩
    have HB3 := Lib.hid (show Below w.heap.size w w3 by rw [hw3]; exact HB2.out.alloc (by omega) _)
    have KV3 := Lib.hid (show w3.heap[w.heap.size]? = some (.cells #[.int .i64 num, .int .i64 most, .int .i64 epoch, .int .i64 size, .bool shut, .slice al ln cl, .slice ad dn cd] 30 (0, 0)) by rw [hw3]; exact blk_alloc KV2.out _)
    have KX3 := Lib.hid (show w3.heap[w.heap.size + 1]? = some (.cells #[.int .u64 key, .int .u32 cookie, .bool gone, .slice xa xn xc] 47 (0, 0)) by rw [hw3]; exact blk_alloc KX2.out _)
    have KR3 := Lib.hid (show w3.heap[w.heap.size + 2]? = some (.cells #[.int .i64 0, .int .i64 0, .int .i64 0, .int .i64 0, .bool false, .slice none 0 0, .slice none 0 0] 30 (0, 0)) by rw [hw3]; exact blk_alloc KR2.out _)
    have KY3 := Lib.hid (show w3.heap[w2.heap.size]? = some (.cells #[.int .u64 0, .int .u32 0, .bool false, .slice none 0 0] 47 (0, 0)) by rw [hw3]; exact heap_new w2 _)
    obtain ⟨v0, v1, v2, v3, v4, v5, v6⟩ := cells7' KV3.out
    obtain ⟨x0, x1, x2, x3⟩ := ncells KX3.out
    obtain ⟨y0, y1, y2, y3⟩ := ncells KY3.out
    obtain ⟨r0, r1, r2, r3, r4, r5, r6⟩ := cells7' KR3.out
    obtain ⟨g0, g1, g2, g3, g4, g5, g6⟩ := free7 KR3.out
    have hl3 := blk_lt KR3.out
    have hly := blk_lt KY3.out
    go_upto_region 5 with fail
    rw [← hw3]
    clear hw3
    go_wp2_with fail
    refine (HWR.out w3 HB3.out hxn).mono ?_
    rintro e w4 ⟨val, rfl, hin, hb⟩
    obtain ⟨N2, W2⟩ := WR
    have hin0 := hin
    obtain ⟨al2, cl2, ad2, cd2, xs2, rfl, -⟩ := hin0
    have HIN4 := Lib.hid hin
    clear hin
    obtain ⟨num2, most2, epoch2, size2, shut2, l2, dd2⟩ := W2
    unfold rvV at HIN4 ⊢
    simp only at HIN4 ⊢
    have KR4 := Lib.hid (blk_below' KR3.out hb)
    have HB4 := Lib.hid (HB3.out.trans (hb.mono HB3.out.size))
    obtain ⟨ln2, hln2⟩ : ∃ ln2, ln2 = l2.length := ⟨_, rfl⟩
    obtain ⟨dn2, hdn2⟩ : ∃ dn2, dn2 = dd2.length := ⟨_, rfl⟩
    rw [← hln2, ← hdn2] at HIN4 ⊢
    have hz4 := hb.size
    clear hb hln2 hdn2 v0 v1 v2 v3 v4 v5 v6 x0 x1 x2 x3 r0 r1 r2 r3 r4 r5 r6 g0 g1 g2 g3 g4 g5 g6
    obtain ⟨g0, g1, g2, g3, g4, g5, g6⟩ := free7 KR4.out
    obtain ⟨r0, r1, r2, r3, r4, r5, r6⟩ := cells7' KR4.out
    have hl4 := blk_lt KR4.out
    go_wp2_with fail
    obtain ⟨wx, hwx⟩ : ∃ wx, wx = set7i w4 (w.heap.size + 2) (.int .i64 num2) (.int .i64 most2) (.int .i64 epoch2) (.int .i64 size2) (.bool shut2) (.slice al2 ln2 cl2) (.slice ad2 dn2 cd2) := ⟨_, rfl⟩
    have HBX := Lib.hid (show Below w.heap.size w wx by rw [hwx]; exact HB4.out.trans (set7i_below (by omega) _ _ _ _ _ _ _))
    have hkx := set7i_keeps w4 (w.heap.size + 2) (.int .i64 num2) (.int .i64 most2) (.int .i64 epoch2) (.int .i64 size2) (.bool shut2) (.slice al2 ln2 cl2) (.slice ad2 dn2 cd2)
    have kbx := store7i (KR4.out) (.int .i64 num2) (.int .i64 most2) (.int .i64 epoch2) (.int .i64 size2) (.bool shut2) (.slice al2 ln2 cl2) (.slice ad2 dn2 cd2)
    rw [← hwx] at kbx hkx
    unfold set7i at hwx
    rw [← hwx]
    clear hwx
    obtain ⟨s0, s1, s2, s3, s4, s5, s6⟩ := cells7' kbx
    refine bodyPost_ret (v := ?_) ?_ rfl ?_
    rotate_left; (focus (simp [results, Tryz.results21, go_sem, s0, s1, s2, s3, s4, s5, s6]; exact rfl))
    rw [HE.out]
    exact ⟨_, rfl, HIN4.out.ret (by omega) hl3 hkx, HBX.out⟩
  | some y =>
    obtain ⟨⟨yk, yc, yg, yd⟩, ya, ycp⟩ := y
    replace HSE := Lib.hid (show R = if yc ≠ cookie then (9, _) else if yg = true then (0, _) else if gone = true then WR else if (⟨yk, yc, yg, yd⟩ : Nd) = ⟨key, cookie, gone, data⟩ then (0, _) else (8, _) from HSE.out)
    have HYD := Lib.hid (fun (w' : World) (hb : Below w.heap.size w w') => (HIN.out w' hb ⟨⟨yk, yc, yg, yd⟩, ya, ycp⟩ (HRM.out _ rfl)).data)
    simp only at HYD
    have HSM := Lib.hid (fun (w' : World) (hb : Below w.heap.size w w') => rsame03_any yk yc yg yd ya ycp key cookie gone data xa xc w' (HYD.out w' hb) (HXD.out w' hb))
    unfold ndOV NdE.cs
    simp only [Option.isSome_some]
    obtain ⟨yn, hyn⟩ : ∃ yn, yn = yd.length := ⟨_, rfl⟩
    rw [← hyn, ← HXN.out] at HSM
    rw [← hyn]
    clear hyn HYD
    obtain ⟨w3, hw3⟩ : ∃ w3 : World, w3 = w2.alloc (.cells #[.int .u64 yk, .int .u32 yc, .bool yg, .slice ya yn ycp] 47) := ⟨_, rfl⟩
    have HB3 := Lib.hid (show Below w.heap.size w w3 by rw [hw3]; exact HB2.out.alloc (by omega) _)
    have KV3 := Lib.hid (show w3.heap[w.heap.size]? = some (.cells #[.int .i64 num, .int .i64 most, .int .i64 epoch, .int .i64 size, .bool shut, .slice al ln cl, .slice ad dn cd] 30 (0, 0)) by rw [hw3]; exact blk_alloc KV2.out _)
    have KX3 := Lib.hid (show w3.heap[w.heap.size + 1]? = some (.cells #[.int .u64 key, .int .u32 cookie, .bool gone, .slice xa xn xc] 47 (0, 0)) by rw [hw3]; exact blk_alloc KX2.out _)
    have KR3 := Lib.hid (show w3.heap[w.heap.size + 2]? = some (.cells #[.int .i64 0, .int .i64 0, .int .i64 0, .int .i64 0, .bool false, .slice none 0 0, .slice none 0 0] 30 (0, 0)) by rw [hw3]; exact blk_alloc KR2.out _)
    have KY3 := Lib.hid (show w3.heap[w2.heap.size]? = some (.cells #[.int .u64 yk, .int .u32 yc, .bool yg, .slice ya yn ycp] 47 (0, 0)) by rw [hw3]; exact heap_new w2 _)
    obtain ⟨v0, v1, v2, v3, v4, v5, v6⟩ := cells7' KV3.out
    obtain ⟨x0, x1, x2, x3⟩ := ncells KX3.out
    obtain ⟨y0, y1, y2, y3⟩ := ncells KY3.out
    obtain ⟨r0, r1, r2, r3, r4, r5, r6⟩ := cells7' KR3.out
    obtain ⟨g0, g1, g2, g3, g4, g5, g6⟩ := free7 KR3.out
    have hl3 := blk_lt KR3.out
    have hly := blk_lt KY3.out
    go_upto_region 5 with fail
    rw [← hw3]
    clear hw3
    by_cases hc : yc = cookie
    case neg =>
      have HE := Lib.hid (HSE.out.trans (if_pos hc))
      have e2 : ((yc : Int) != (cookie : Int)) = true := by simp; omega
      clear hc
      go_wp2_with fail
      obtain ⟨wx, hwx⟩ : ∃ wx, wx = set7i w3 (w.heap.size + 2) (.int .i64 num) (.int .i64 most) (.int .i64 epoch) (.int .i64 size) (.bool shut) (.slice al ln cl) (.slice ad dn cd) := ⟨_, rfl⟩
      have HBX := Lib.hid (show Below w.heap.size w wx by rw [hwx]; exact HB3.out.trans (set7i_below (by omega) _ _ _ _ _ _ _))
      have kbx := store7i (KR3.out) (.int .i64 num) (.int .i64 most) (.int .i64 epoch) (.int .i64 size) (.bool shut) (.slice al ln cl) (.slice ad dn cd)
      rw [← hwx] at kbx
      unfold set7i at hwx
      rw [← hwx]
      clear hwx
      obtain ⟨s0, s1, s2, s3, s4, s5, s6⟩ := cells7' kbx
      refine bodyPost_ret (v := ?_) ?_ rfl ?_
      rotate_left; (focus (simp [results, Tryz.results21, go_sem, s0, s1, s2, s3, s4, s5, s6]; exact rfl))
      rw [HE.out]
      exact ⟨_, rfl, HO.out _ HBX.out, HBX.out⟩
    case pos =>
    have e2 : ((yc : Int) != (cookie : Int)) = false := by simp; omega
    replace HSE := Lib.hid (HSE.out.trans (if_neg (fun e => e hc)))
    clear hc
    cases yg with
    | true =>
      have HE := Lib.hid (HSE.out.trans (if_pos rfl))
      go_wp2_with fail
      obtain ⟨wx, hwx⟩ : ∃ wx, wx = set7i w3 (w.heap.size + 2) (.int .i64 num) (.int .i64 most) (.int .i64 epoch) (.int .i64 size) (.bool shut) (.slice al ln cl) (.slice ad dn cd) := ⟨_, rfl⟩
      have HBX := Lib.hid (show Below w.heap.size w wx by rw [hwx]; exact HB3.out.trans (set7i_below (by omega) _ _ _ _ _ _ _))
      have kbx := store7i (KR3.out) (.int .i64 num) (.int .i64 most) (.int .i64 epoch) (.int .i64 size) (.bool shut) (.slice al ln cl) (.slice ad dn cd)
      rw [← hwx] at kbx
      unfold set7i at hwx
      rw [← hwx]
      clear hwx
      obtain ⟨s0, s1, s2, s3, s4, s5, s6⟩ := cells7' kbx
      refine bodyPost_ret (v := ?_) ?_ rfl ?_
      rotate_left; (focus (simp [results, Tryz.results21, go_sem, s0, s1, s2, s3, s4, s5, s6]; exact rfl))
      rw [HE.out]
      exact ⟨_, rfl, HO.out _ HBX.out, HBX.out⟩
    | false =>
    replace HSE := Lib.hid (HSE.out.trans (if_neg (by simp)))
    cases gone with
    | true =>
      have HE := Lib.hid (HSE.out.trans (if_pos rfl))
      go_wp2_with fail
      refine (HWR.out w3 HB3.out hxn).mono ?_
      rintro e w4 ⟨val, rfl, hin, hb⟩
      obtain ⟨N2, W2⟩ := WR
      have hin0 := hin
      obtain ⟨al2, cl2, ad2, cd2, xs2, rfl, -⟩ := hin0
      have HIN4 := Lib.hid hin
      clear hin
      obtain ⟨num2, most2, epoch2, size2, shut2, l2, dd2⟩ := W2
      unfold rvV at HIN4 ⊢
      simp only at HIN4 ⊢
      have KR4 := Lib.hid (blk_below' KR3.out hb)
      have HB4 := Lib.hid (HB3.out.trans (hb.mono HB3.out.size))
      obtain ⟨ln2, hln2⟩ : ∃ ln2, ln2 = l2.length := ⟨_, rfl⟩
      obtain ⟨dn2, hdn2⟩ : ∃ dn2, dn2 = dd2.length := ⟨_, rfl⟩
      rw [← hln2, ← hdn2] at HIN4 ⊢
      have hz4 := hb.size
      clear hb hln2 hdn2 v0 v1 v2 v3 v4 v5 v6 x0 x1 x2 x3 r0 r1 r2 r3 r4 r5 r6 g0 g1 g2 g3 g4 g5 g6
      obtain ⟨g0, g1, g2, g3, g4, g5, g6⟩ := free7 KR4.out
      obtain ⟨r0, r1, r2, r3, r4, r5, r6⟩ := cells7' KR4.out
      have hl4 := blk_lt KR4.out
      go_wp2_with fail
      obtain ⟨wx, hwx⟩ : ∃ wx, wx = set7i w4 (w.heap.size + 2) (.int .i64 num2) (.int .i64 most2) (.int .i64 epoch2) (.int .i64 size2) (.bool shut2) (.slice al2 ln2 cl2) (.slice ad2 dn2 cd2) := ⟨_, rfl⟩
      have HBX := Lib.hid (show Below w.heap.size w wx by rw [hwx]; exact HB4.out.trans (set7i_below (by omega) _ _ _ _ _ _ _))
      have hkx := set7i_keeps w4 (w.heap.size + 2) (.int .i64 num2) (.int .i64 most2) (.int .i64 epoch2) (.int .i64 size2) (.bool shut2) (.slice al2 ln2 cl2) (.slice ad2 dn2 cd2)
      have kbx := store7i (KR4.out) (.int .i64 num2) (.int .i64 most2) (.int .i64 epoch2) (.int .i64 size2) (.bool shut2) (.slice al2 ln2 cl2) (.slice ad2 dn2 cd2)
      rw [← hwx] at kbx hkx
      unfold set7i at hwx
      rw [← hwx]
      clear hwx
      obtain ⟨s0, s1, s2, s3, s4, s5, s6⟩ := cells7' kbx
      refine bodyPost_ret (v := ?_) ?_ rfl ?_
      rotate_left; (focus (simp [results, Tryz.results21, go_sem, s0, s1, s2, s3, s4, s5, s6]; exact rfl))
      rw [HE.out]
      exact ⟨_, rfl, HIN4.out.ret (by omega) hl3 hkx, HBX.out⟩
    | false =>
    replace HSE := Lib.hid (HSE.out.trans (if_neg (by simp)))
    go_wp2_with fail
    refine (HSM.out w3 HB3.out).mono ?_
    rintro e w4 ⟨rfl, hb⟩
    have KV4 := Lib.hid (blk_below' KV3.out hb)
    have KR4 := Lib.hid (blk_below' KR3.out hb)
    have HB4 := Lib.hid (HB3.out.trans (hb.mono HB3.out.size))
    have hz4 := hb.size
    clear hb v0 v1 v2 v3 v4 v5 v6 x0 x1 x2 x3 y0 y1 y2 y3 r0 r1 r2 r3 r4 r5 r6 g0 g1 g2 g3 g4 g5 g6
    obtain ⟨v0, v1, v2, v3, v4, v5, v6⟩ := cells7' KV4.out
    obtain ⟨r0, r1, r2, r3, r4, r5, r6⟩ := cells7' KR4.out
    obtain ⟨g0, g1, g2, g3, g4, g5, g6⟩ := free7 KR4.out
    have hl4 := blk_lt KR4.out
    by_cases hyx : (⟨yk, yc, false, yd⟩ : Nd) = ⟨key, cookie, false, data⟩
    · have HE := Lib.hid (HSE.out.trans (if_pos hyx))
      rw [decide_eq_true hyx]
      clear hyx
      go_wp2_with fail
      obtain ⟨wx, hwx⟩ : ∃ wx, wx = set7i w4 (w.heap.size + 2) (.int .i64 num) (.int .i64 most) (.int .i64 epoch) (.int .i64 size) (.bool shut) (.slice al ln cl) (.slice ad dn cd) := ⟨_, rfl⟩
      have HBX := Lib.hid (show Below w.heap.size w wx by rw [hwx]; exact HB4.out.trans (set7i_below (by omega) _ _ _ _ _ _ _))
      have kbx := store7i (KR4.out) (.int .i64 num) (.int .i64 most) (.int .i64 epoch) (.int .i64 size) (.bool shut) (.slice al ln cl) (.slice ad dn cd)
      rw [← hwx] at kbx
      unfold set7i at hwx
      rw [← hwx]
      clear hwx
      obtain ⟨s0, s1, s2, s3, s4, s5, s6⟩ := cells7' kbx
      refine bodyPost_ret (v := ?_) ?_ rfl ?_
      rotate_left; (focus (simp [results, Tryz.results21, go_sem, s0, s1, s2, s3, s4, s5, s6]; exact rfl))
      rw [HE.out]
      exact ⟨_, rfl, HO.out _ HBX.out, HBX.out⟩
    · have HE := Lib.hid (HSE.out.trans (if_neg hyx))
      rw [decide_eq_false hyx]
      clear hyx
      go_wp2_with fail
      obtain ⟨wx, hwx⟩ : ∃ wx, wx = set7i w4 (w.heap.size + 2) (.int .i64 num) (.int .i64 most) (.int .i64 epoch) (.int .i64 size) (.bool shut) (.slice al ln cl) (.slice ad dn cd) := ⟨_, rfl⟩
      have HBX := Lib.hid (show Below w.heap.size w wx by rw [hwx]; exact HB4.out.trans (set7i_below (by omega) _ _ _ _ _ _ _))
      have kbx := store7i (KR4.out) (.int .i64 num) (.int .i64 most) (.int .i64 epoch) (.int .i64 size) (.bool shut) (.slice al ln cl) (.slice ad dn cd)
      rw [← hwx] at kbx
      unfold set7i at hwx
      rw [← hwx]
      clear hwx
      obtain ⟨s0, s1, s2, s3, s4, s5, s6⟩ := cells7' kbx
      refine bodyPost_ret (v := ?_) ?_ rfl ?_
      rotate_left; (focus (simp [results, Tryz.results21, go_sem, s0, s1, s2, s3, s4, s5, s6]; exact rfl))
      rw [HE.out]
      exact ⟨_, rfl, HO.out _ HBX.out, HBX.out⟩
end Go.Proofs.YtmaalbbclldnpaaGreatDoor
