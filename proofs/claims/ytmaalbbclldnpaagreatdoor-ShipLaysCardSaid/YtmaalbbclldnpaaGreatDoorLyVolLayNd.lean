/- Package vol: Lay. (Written by wip/genvollaynd.py.) -/
import Derived.Test.YtmaalbbclldnpaaGreatDoorLy16
import Derived.Test.YtmaalbbclldnpaaGreatDoorLy15
namespace Go.Proofs.YtmaalbbclldnpaaGreatDoor
set_option maxRecDepth 100000
set_option maxHeartbeats 8000000
open Go.RowKit
theorem lay_eq (v : Vl) (d : Dk) (n : Nd) (hc : ndCheck n = 0) : v.lay d n = match ixFind v.idx n.key with
    | none => v.write d n
    | some p => if p.cookie ≠ n.cookie then (9, d, v) else if p.gone = true then (0, d, v) else if n.gone = true then v.write d n else if (v.get d n.key n.cookie).1 ≠ 0 then ((v.get d n.key n.cookie).1, d, v) else if (v.get d n.key n.cookie).2.2 = n then (0, d, v) else (8, d, v) := by
  unfold Vl.lay
  rw [if_neg (by simpa using hc)]
  cases ixFind v.idx n.key <;> rfl
theorem set5_keeps (w : World) (b : Nat) (u0 u1 u2 u3 u4 : Value) : Keeps (fun k => k = b) w (set5 w b u0 u1 u2 u3 u4) := by
  unfold set5
  exact (((((Keeps.refl (fun k => k = b) w).setCell ⟨b, 0, none⟩ u0 (fun _ => rfl)).setCell ⟨b, 1, none⟩ u1 (fun _ => rfl)).setCell ⟨b, 2, none⟩ u2 (fun _ => rfl)).setCell ⟨b, 3, none⟩ u3 (fun _ => rfl)).setCell ⟨b, 4, none⟩ u4 (fun _ => rfl)
theorem laynd_vs {w : World} {vp dp K : Nat} {P : Nat → Prop} {d : Dk} {v : Vl} (h : VS w vp dp P K d v) (hP : ∀ k, P k → k < w.heap.size) (n : Nd) (a : Option Addr) (c : Nat) (hk : n.key < 18446744073709551616) (hck : n.cookie < 4294967296) (hd : n.data.length ≤ 1000000000) (hr : Reads w 1 (.slice a n.data.length c) n.data.length (n.data.map bv))
    (hp : ∀ p ∈ v.idx, p.len ≤ 4096 ∧ p.off ≤ 1000000000) (htold : (v.get d n.key n.cookie).2.1 = false) :
    Calls Tryz.prog 28 #[(.pointer (some ⟨vp, 0, none⟩)), ndV n a c] w fun e w' => e = .returned (errV (v.lay d n).1) ∧ VTo w w' vp dp P K (v.lay d n).2.1 (v.lay d n).2.2 := by
  have HH := Lib.hid h
  have hlt : vp < w.heap.size := by obtain ⟨_, _, h1, _⟩ := h; exact h1.lt
  have HWR := Lib.hid (fun (w0 : World) (hb : Below w.heap.size w w0) => write_vs (h.below hb) (fun k hk => Nat.lt_of_lt_of_le (hP k hk) hb.size) n a c hk hck hd (hr.below hb))
  have HCK := Lib.hid (fun w0 => ncheck_any n a c hd w0)
  obtain ⟨ix, vx, hv, hds, -, hok⟩ := h
  have HV := Lib.hid hv
  have HR := Lib.hid hr
  have hfl : (v.find n.key n.cookie).2.len ≤ 4096 ∧ (v.find n.key n.cookie).2.off ≤ 1000000000 := by
    unfold Vl.find
    cases e : ixFind v.idx n.key with
    | none => exact ⟨by simp, by simp⟩
    | some p =>
      have := hp p (mem_of_ixFind e).1
      simp only
      split
      · exact ⟨by simp, by simp⟩
      split
      · exact ⟨by simp, by simp⟩
      · exact this
  have HGT := Lib.hid (fun (w0 : World) (hb : Below w.heap.size w w0) => vget_any (hv.below hb) (hds.below hb) hok.names hok.long.1 n.key n.cookie hfl.1 hfl.2)
  have HFN := Lib.hid (fun (w0 : World) (hb : Below w.heap.size w w0) (hx : ixFind v.idx n.key = none) => ifind_no 0 ix vx v.idx n.key w0 (hv.below hb).idx hx)
  have HFS := Lib.hid (fun (w0 : World) (hb : Below w.heap.size w w0) (x : Ps) (hx : ixFind v.idx n.key = some x) => ifind_yes 0 ix vx v.idx n.key x w0 (hv.below hb).idx hx)
  have HLE := Lib.hid (lay_eq v d n)
  obtain ⟨LY, hLY⟩ : ∃ LY, LY = v.lay d n := ⟨_, rfl⟩
  have HCE := Lib.hid (show ndCheck n ≠ 0 → LY = (ndCheck n, d, v) from fun e => by rw [hLY]; unfold Vl.lay; exact if_pos e)
  rw [← hLY] at HLE ⊢
  obtain ⟨wr, hwr⟩ : ∃ wr, wr = v.write d n := ⟨_, rfl⟩
  rw [← hwr] at HWR HLE
  obtain ⟨gt, hgt⟩ : ∃ gt, gt = v.get d n.key n.cookie := ⟨_, rfl⟩
  rw [← hgt] at HGT HLE htold
  obtain ⟨gk, gtold, go⟩ := gt
  simp only at htold HLE
  subst htold
  unfold GotV at HGT
  simp only at HGT
  obtain ⟨k1, hk1⟩ : ∃ k1, k1 = ndCheck n := ⟨_, rfl⟩
  rw [← hk1] at HCK HLE HCE
  obtain ⟨key, cookie, gone, data⟩ := n
  unfold ndV at HWR HCK ⊢
  simp only at HWR HCK HGT HFN HFS HLE HR ⊢
  obtain ⟨dl, hdl⟩ : ∃ dl, dl = data.length := ⟨_, rfl⟩
  have HDL := Lib.hid hdl
  obtain ⟨c0, c1, c2, c3, c4, c5, c6, c7⟩ := hv.cells
  clear hv hds hok hP hk hck hd hr hp hfl hLY hwr hgt hk1 hdl
  go_enter Tryz.func28, Tryz.ntmps28
  go_wp2_with fail
  obtain ⟨w0, hw0⟩ : ∃ w0 : World, w0 = w.alloc (.cells #[.int .u64 key, .int .u32 cookie, .bool gone, .slice a data.length c] 48) := ⟨_, rfl⟩
  have HB0 := Lib.hid (show Below w.heap.size w w0 by rw [hw0]; exact (by repeat (first | (with_reducible first | exact .refl _ _ | refine .setCell ?_ ?_ _ | refine .alloc ?_ ?_ _ | refine .drewN ?_ _ | refine .drew ?_ | exact Nat.le_refl _) | (focus (simp only [World.size_alloc, World.size_setCell, World.size_drew, World.size_drewN]; omega)) | omega | exact Nat.le_refl _ | (focus (simp; done)) | (focus (simp; omega)))))
  have KN0 := Lib.hid (show w0.heap[w.heap.size]? = some (.cells #[.int .u64 key, .int .u32 cookie, .bool gone, .slice a data.length c] 48 (0, 0)) by rw [hw0]; exact heap_new w _)
  rw [← hw0]
  clear hw0
  have hz0 := HB0.out.size
  refine (HCK.out _).mono ?_
  rintro e w1 ⟨rfl, hb⟩
  have HB1 := Lib.hid (HB0.out.trans (hb.mono hz0))
  have KN1 := Lib.hid (blk_below' KN0.out hb)
  have hz1 := HB1.out.size
  clear hb
  have hlt1 := blk_lt KN1.out
  by_cases hk0 : k1 = 0
  case neg =>
    have HNE := Lib.hid (errV_ne (k := (k1 : Int)) (by omega))
    have HE := Lib.hid (HCE.out hk0)
    rw [HNE.out]
    clear hk0
    go_wp2_with fail
    go_ret
    rw [HE.out]
    exact ⟨by rw [HNE.out]; rfl, HH.out.same HB1.out⟩
  have HL2 := Lib.hid (HLE.out hk0)
  rw [hk0, show errV ((0 : Nat) : Int) = .nilIface from rfl]
  clear hk0
  obtain ⟨x0, x1, x2, x3⟩ := ncells KN1.out
  have e7 := ((bcell HB1.out).1 vp 7 hlt).trans c7
  have hlv : vp < w1.heap.size := by omega
  clear c0 c1 c2 c3 c4 c5 c6 c7
  go_upto_region 6 with fail
  by_cases hx : ∃ x, ixFind v.idx key = some x
  case neg =>
    have hx' : ixFind v.idx key = none := by
      cases e : ixFind v.idx key with
      | none => rfl
      | some x => exact absurd ⟨x, e⟩ hx
    have HX := Lib.hid hx'
    have HE := Lib.hid (show LY = wr by rw [HL2.out, hx'])
    clear hx hx'
    unfold psV at HFN
    simp only [errV_6, Int.natCast_zero] at HFN
    obtain ⟨SS, HSD⟩ : ∃ SS : World → Prop, Hid (SS = fun w' => w'.cell? ⟨vp, 7, none⟩ = some (.pointer (some ⟨ix, 0, none⟩)) ∧ w'.cell? ⟨w.heap.size, 0, none⟩ = some (.int .u64 key)) := ⟨_, Lib.hid rfl⟩
    refine wp_region_mask0 SS [3, 5] [0, 1, 3, 7, 0, 16, 63, 127, 255, 255, 0, 1535, 4095] (.op 0 0 (.op 1 0 (.op 2 0 (.op 3 2 (.op 4 0 (.op 5 2 (.two 6 (.op 7 0 (.op 8 0 (.op 9 0 (.op 10 1 (.op 11 1 (.op 12 0 .nil)))))) 10 (.op 6 1 (.op 7 0 (.op 8 0 (.op 9 0 (.op 11 1 (.op 12 0 .nil))))))))))))) (by kernel_rfl) (by kernel_rfl) rfl (by kernel_rfl) (by kernel_rfl) ?_ ?_
    (focus (rw [HSD.out]; exact ⟨e7, x0⟩)); refine stepM0 rfl rfl fun K hK => ?_; go_simp; refine hK _ ?_; clear hK K; refine stepM0 rfl rfl fun K hK => ?_; go_simp; refine hK _ ?_; clear hK K; refine stepM0 rfl rfl fun K hK => ?_; go_simp; refine hK _ ?_; clear hK K; refine stepM2 rfl rfl ?_ (fun w1 hS => ?_) fun K hK => ?_; rotate_left; (focus (rw [HSD.out] at hS; obtain ⟨s1, s2⟩ := hS; go_simp; rfl)); go_simp; refine hK _ ?_; clear hK K; refine stepM0 rfl rfl fun K hK => ?_; go_simp; refine hK _ ?_; clear hK K; refine stepM2 rfl rfl ?_ (fun w1 hS => ?_) fun K hK => ?_; rotate_left; (focus (rw [HSD.out] at hS; obtain ⟨s1, s2⟩ := hS; go_simp; rfl)); go_simp; refine hK _ ?_; clear hK K
    refine stepMtwo ?_ ?_ (by kernel_rfl) (by kernel_rfl)
    ·
      refine stepM1 rfl rfl (by kernel_rfl) fun K hK => ?_
      (go_wp2_with fail; refine (HFN.out w1.drew (Below.drew HB1.out) HX.out).mono ?_; rintro e wa ⟨rfl, hb⟩; have HBA := Lib.hid ((Below.drew HB1.out).trans (hb.mono HB1.out.size)); have KNA := Lib.hid (blk_below' (w := w1.drew) KN1.out hb); have hza := HBA.out.size; have hlta := blk_lt KNA.out; have hz1a : w1.heap.size ≤ wa.heap.size := hb.size; have e7a := ((bcell (W := w1.drew) hb).1 vp 7 hlv).trans e7; have x0a := ((bcell (W := w1.drew) hb).1 _ 0 hlt1).trans x0; clear hb; go_wp2)
      refine stepM0 rfl rfl fun K hK => ?_; go_simp; refine hK _ ?_; clear hK K; refine stepM0 rfl rfl fun K hK => ?_; go_simp; refine hK _ ?_; clear hK K; refine stepM0 rfl rfl fun K hK => ?_; go_simp; refine hK _ ?_; clear hK K; refine stepM1S rfl rfl fun K hK => ?_; go_wp2
      refine ⟨by rw [HSD.out]; exact (⟨((bcell (W := wa) (Below.alloc (Below.refl _ _) (Nat.le_refl _) _)).1 vp 7 (Nat.lt_of_lt_of_le hlv hz1a)).trans e7a, ((bcell (W := wa) (Below.alloc (Below.refl _ _) (Nat.le_refl _) _)).1 _ 0 hlta).trans x0a⟩), ?_⟩
      refine stepM1 rfl rfl (by kernel_rfl) fun K hK => ?_; go_wp2; refine stepM0 rfl rfl fun K hK => ?_; go_simp; refine hK _ ?_; clear hK K
      try refine stepMnil0 ?_
      clear HSD SS
      obtain ⟨w2, hw2⟩ : ∃ w2 : World, w2 = wa.alloc (.cells #[.int .u64 0, .int .i64 0, .int .i64 0, .int .u32 0, .bool false] 64) := ⟨_, rfl⟩
      have hb2 : Below wa.heap.size wa w2 := by rw [hw2]; exact (by repeat (first | (with_reducible first | exact .refl _ _ | refine .setCell ?_ ?_ _ | refine .alloc ?_ ?_ _ | refine .drewN ?_ _ | refine .drew ?_ | exact Nat.le_refl _) | (focus (simp only [World.size_alloc, World.size_setCell, World.size_drew, World.size_drewN]; omega)) | omega | exact Nat.le_refl _ | (focus (simp; done)) | (focus (simp; omega))))
      have HB2 := Lib.hid (HBA.out.trans (hb2.mono hza))
      have KN2 := Lib.hid (blk_below' KNA.out hb2)
      have KP2 := Lib.hid (show w2.heap[wa.heap.size]? = some (.cells #[.int .u64 0, .int .i64 0, .int .i64 0, .int .u32 0, .bool false] 64 (0, 0)) by rw [hw2]; exact heap_new wa _)
      rw [← hw2]
      clear hw2 hb2 e7a x0a x0 x1 x2 x3 e7
      have hz2 := HB2.out.size
      have hlt2 := blk_lt KN2.out
      have hltp := blk_lt KP2.out
      obtain ⟨x0, x1, x2, x3⟩ := ncells KN2.out
      obtain ⟨t0, t1, t2, t3, t4⟩ := pcells KP2.out
      go_wp2_with fail
      refine (HWR.out _ HB2.out).mono ?_
      rintro e w3 ⟨rfl, ht⟩
      have HT := Lib.hid ht
      clear ht
      go_wp2_with fail
      go_ret
      rw [HE.out]
      exact ⟨rfl, HT.out.1, KP.trans (KP.of HB2.out) HT.out.2⟩
    ·
      refine stepM1S rfl rfl fun K hK => ?_; go_wp2
      refine ⟨by rw [HSD.out]; exact (⟨((bcell (W := w1.drew) (Below.alloc (Below.refl _ _) (Nat.le_refl _) _)).1 vp 7 hlv).trans e7, ((bcell (W := w1.drew) (Below.alloc (Below.refl _ _) (Nat.le_refl _) _)).1 _ 0 hlt1).trans x0⟩), ?_⟩
      refine stepM1 rfl rfl (by kernel_rfl) fun K hK => ?_
      (go_wp2_with fail; refine (HFN.out (w1.drew.alloc (.cells #[.int .u64 0, .int .i64 0, .int .i64 0, .int .u32 0, .bool false] 64)) (Below.alloc (Below.drew HB1.out) HB1.out.size _) HX.out).mono ?_; rintro e wa ⟨rfl, hb⟩; have HBA := Lib.hid ((Below.alloc (Below.drew HB1.out) HB1.out.size _).trans (hb.mono (by simp; omega))); have KNA := Lib.hid (blk_below' (alloc_blk (w := w1.drew) KN1.out _) hb); have KPA := Lib.hid (show wa.heap[w1.heap.size]? = some (.cells #[.int .u64 0, .int .i64 0, .int .i64 0, .int .u32 0, .bool false] 64 (0, 0)) from blk_below' (heap_new w1.drew (.cells #[.int .u64 0, .int .i64 0, .int .i64 0, .int .u32 0, .bool false] 64)) hb); have hza := HBA.out.size; have hlta := blk_lt KNA.out; have hltpa := blk_lt KPA.out; obtain ⟨f0, f1, f2, f3, f4⟩ := pfree KPA.out; obtain ⟨t0, t1, t2, t3, t4⟩ := pcells KPA.out; clear hb; go_wp2)
      refine stepM0 rfl rfl fun K hK => ?_; go_simp; refine hK _ ?_; clear hK K; refine stepM0 rfl rfl fun K hK => ?_; go_simp; refine hK _ ?_; clear hK K; refine stepM0 rfl rfl fun K hK => ?_; go_simp; refine hK _ ?_; clear hK K; refine stepM1 rfl rfl (by kernel_rfl) fun K hK => ?_; go_wp2; refine stepM0 rfl rfl fun K hK => ?_; go_simp; refine hK _ ?_; clear hK K
      try refine stepMnil0 ?_
      clear HSD SS
      obtain ⟨w2, hw2⟩ : ∃ w2 : World, w2 = set5 wa w1.heap.size (.int .u64 0) (.int .i64 0) (.int .i64 0) (.int .u32 0) (.bool false) := ⟨_, rfl⟩
      have KP2' := store5 KPA.out (.int .u64 0) (.int .i64 0) (.int .i64 0) (.int .u32 0) (.bool false)
      have hb2 := set5_below (w := wa) (Nat.le_refl w1.heap.size) (.int .u64 0) (.int .i64 0) (.int .i64 0) (.int .u32 0) (.bool false)
      have hkn := (Keeps.block (set5_keeps wa w1.heap.size (.int .u64 0) (.int .i64 0) (.int .i64 0) (.int .u32 0) (.bool false)) w.heap.size hlta (by omega)).trans KNA.out
      rw [← hw2] at KP2' hb2 hkn
      have HB2 := Lib.hid (HBA.out.trans (hb2.mono hz1))
      have KN2 := Lib.hid hkn
      have KP2 := Lib.hid KP2'
      unfold set5 at hw2
      rw [← hw2]
      clear hw2 hb2 hkn KP2' f0 f1 f2 f3 f4 t0 t1 t2 t3 t4 x0 x1 x2 x3 e7
      have hz2 := HB2.out.size
      have hlt2 := blk_lt KN2.out
      have hltp := blk_lt KP2.out
      obtain ⟨x0, x1, x2, x3⟩ := ncells KN2.out
      obtain ⟨t0, t1, t2, t3, t4⟩ := pcells KP2.out
      go_wp2_with fail
      refine (HWR.out _ HB2.out).mono ?_
      rintro e w3 ⟨rfl, ht⟩
      have HT := Lib.hid ht
      clear ht
      go_wp2_with fail
      go_ret
      rw [HE.out]
      exact ⟨rfl, HT.out.1, KP.trans (KP.of HB2.out) HT.out.2⟩
  obtain ⟨⟨xk, xo, xl, xc, xg⟩, hx⟩ := hx
  have HF := Lib.hid (fun (w0 : World) (hb : Below w.heap.size w w0) => HFS.out w0 hb ⟨xk, xo, xl, xc, xg⟩ hx)
  unfold psV at HF
  simp only at HF
  rw [hx] at HL2
  simp only at HL2
  clear hx
  by_cases hc : xc = cookie
  case neg =>
    have HE := Lib.hid (HL2.out.trans (if_pos hc))
    have d1 : ((xc : Int) != (cookie : Int)) = true := by simp; omega
    clear hc
    obtain ⟨SS, HSD⟩ : ∃ SS : World → Prop, Hid (SS = fun w' => w'.cell? ⟨vp, 7, none⟩ = some (.pointer (some ⟨ix, 0, none⟩)) ∧ w'.cell? ⟨w.heap.size, 0, none⟩ = some (.int .u64 key)) := ⟨_, Lib.hid rfl⟩
    refine wp_region_mask0 SS [3, 5] [0, 1, 3, 7, 0, 16, 63, 127, 255, 255, 0, 1535, 4095] (.op 0 0 (.op 1 0 (.op 2 0 (.op 3 2 (.op 4 0 (.op 5 2 (.two 6 (.op 7 0 (.op 8 0 (.op 9 0 (.op 10 1 (.op 11 1 (.op 12 0 .nil)))))) 10 (.op 6 1 (.op 7 0 (.op 8 0 (.op 9 0 (.op 11 1 (.op 12 0 .nil))))))))))))) (by kernel_rfl) (by kernel_rfl) rfl (by kernel_rfl) (by kernel_rfl) ?_ ?_
    (focus (rw [HSD.out]; exact ⟨e7, x0⟩)); refine stepM0 rfl rfl fun K hK => ?_; go_simp; refine hK _ ?_; clear hK K; refine stepM0 rfl rfl fun K hK => ?_; go_simp; refine hK _ ?_; clear hK K; refine stepM0 rfl rfl fun K hK => ?_; go_simp; refine hK _ ?_; clear hK K; refine stepM2 rfl rfl ?_ (fun w1 hS => ?_) fun K hK => ?_; rotate_left; (focus (rw [HSD.out] at hS; obtain ⟨s1, s2⟩ := hS; go_simp; rfl)); go_simp; refine hK _ ?_; clear hK K; refine stepM0 rfl rfl fun K hK => ?_; go_simp; refine hK _ ?_; clear hK K; refine stepM2 rfl rfl ?_ (fun w1 hS => ?_) fun K hK => ?_; rotate_left; (focus (rw [HSD.out] at hS; obtain ⟨s1, s2⟩ := hS; go_simp; rfl)); go_simp; refine hK _ ?_; clear hK K
    refine stepMtwo ?_ ?_ (by kernel_rfl) (by kernel_rfl)
    ·
      refine stepM1 rfl rfl (by kernel_rfl) fun K hK => ?_
      (go_wp2_with fail; refine (HF.out w1.drew (Below.drew HB1.out)).mono ?_; rintro e wa ⟨rfl, hb⟩; have HBA := Lib.hid ((Below.drew HB1.out).trans (hb.mono HB1.out.size)); have KNA := Lib.hid (blk_below' (w := w1.drew) KN1.out hb); have hza := HBA.out.size; have hlta := blk_lt KNA.out; have hz1a : w1.heap.size ≤ wa.heap.size := hb.size; have e7a := ((bcell (W := w1.drew) hb).1 vp 7 hlv).trans e7; have x0a := ((bcell (W := w1.drew) hb).1 _ 0 hlt1).trans x0; clear hb; go_wp2)
      refine stepM0 rfl rfl fun K hK => ?_; go_simp; refine hK _ ?_; clear hK K; refine stepM0 rfl rfl fun K hK => ?_; go_simp; refine hK _ ?_; clear hK K; refine stepM0 rfl rfl fun K hK => ?_; go_simp; refine hK _ ?_; clear hK K; refine stepM1S rfl rfl fun K hK => ?_; go_wp2
      refine ⟨by rw [HSD.out]; exact (⟨((bcell (W := wa) (Below.alloc (Below.refl _ _) (Nat.le_refl _) _)).1 vp 7 (Nat.lt_of_lt_of_le hlv hz1a)).trans e7a, ((bcell (W := wa) (Below.alloc (Below.refl _ _) (Nat.le_refl _) _)).1 _ 0 hlta).trans x0a⟩), ?_⟩
      refine stepM1 rfl rfl (by kernel_rfl) fun K hK => ?_; go_wp2; refine stepM0 rfl rfl fun K hK => ?_; go_simp; refine hK _ ?_; clear hK K
      try refine stepMnil0 ?_
      clear HSD SS
      obtain ⟨w2, hw2⟩ : ∃ w2 : World, w2 = wa.alloc (.cells #[.int .u64 xk, .int .i64 xo, .int .i64 xl, .int .u32 xc, .bool xg] 64) := ⟨_, rfl⟩
      have hb2 : Below wa.heap.size wa w2 := by rw [hw2]; exact (by repeat (first | (with_reducible first | exact .refl _ _ | refine .setCell ?_ ?_ _ | refine .alloc ?_ ?_ _ | refine .drewN ?_ _ | refine .drew ?_ | exact Nat.le_refl _) | (focus (simp only [World.size_alloc, World.size_setCell, World.size_drew, World.size_drewN]; omega)) | omega | exact Nat.le_refl _ | (focus (simp; done)) | (focus (simp; omega))))
      have HB2 := Lib.hid (HBA.out.trans (hb2.mono hza))
      have KN2 := Lib.hid (blk_below' KNA.out hb2)
      have KP2 := Lib.hid (show w2.heap[wa.heap.size]? = some (.cells #[.int .u64 xk, .int .i64 xo, .int .i64 xl, .int .u32 xc, .bool xg] 64 (0, 0)) by rw [hw2]; exact heap_new wa _)
      rw [← hw2]
      clear hw2 hb2 e7a x0a x0 x1 x2 x3 e7
      have hz2 := HB2.out.size
      have hlt2 := blk_lt KN2.out
      have hltp := blk_lt KP2.out
      obtain ⟨x0, x1, x2, x3⟩ := ncells KN2.out
      obtain ⟨t0, t1, t2, t3, t4⟩ := pcells KP2.out
      go_wp2_with fail
      go_ret
      rw [HE.out]
      exact ⟨rfl, HH.out.same HB2.out⟩
    ·
      refine stepM1S rfl rfl fun K hK => ?_; go_wp2
      refine ⟨by rw [HSD.out]; exact (⟨((bcell (W := w1.drew) (Below.alloc (Below.refl _ _) (Nat.le_refl _) _)).1 vp 7 hlv).trans e7, ((bcell (W := w1.drew) (Below.alloc (Below.refl _ _) (Nat.le_refl _) _)).1 _ 0 hlt1).trans x0⟩), ?_⟩
      refine stepM1 rfl rfl (by kernel_rfl) fun K hK => ?_
      (go_wp2_with fail; refine (HF.out (w1.drew.alloc (.cells #[.int .u64 0, .int .i64 0, .int .i64 0, .int .u32 0, .bool false] 64)) (Below.alloc (Below.drew HB1.out) HB1.out.size _)).mono ?_; rintro e wa ⟨rfl, hb⟩; have HBA := Lib.hid ((Below.alloc (Below.drew HB1.out) HB1.out.size _).trans (hb.mono (by simp; omega))); have KNA := Lib.hid (blk_below' (alloc_blk (w := w1.drew) KN1.out _) hb); have KPA := Lib.hid (show wa.heap[w1.heap.size]? = some (.cells #[.int .u64 0, .int .i64 0, .int .i64 0, .int .u32 0, .bool false] 64 (0, 0)) from blk_below' (heap_new w1.drew (.cells #[.int .u64 0, .int .i64 0, .int .i64 0, .int .u32 0, .bool false] 64)) hb); have hza := HBA.out.size; have hlta := blk_lt KNA.out; have hltpa := blk_lt KPA.out; obtain ⟨f0, f1, f2, f3, f4⟩ := pfree KPA.out; obtain ⟨t0, t1, t2, t3, t4⟩ := pcells KPA.out; clear hb; go_wp2)
      refine stepM0 rfl rfl fun K hK => ?_; go_simp; refine hK _ ?_; clear hK K; refine stepM0 rfl rfl fun K hK => ?_; go_simp; refine hK _ ?_; clear hK K; refine stepM0 rfl rfl fun K hK => ?_; go_simp; refine hK _ ?_; clear hK K; refine stepM1 rfl rfl (by kernel_rfl) fun K hK => ?_; go_wp2; refine stepM0 rfl rfl fun K hK => ?_; go_simp; refine hK _ ?_; clear hK K
      try refine stepMnil0 ?_
      clear HSD SS
      obtain ⟨w2, hw2⟩ : ∃ w2 : World, w2 = set5 wa w1.heap.size (.int .u64 xk) (.int .i64 xo) (.int .i64 xl) (.int .u32 xc) (.bool xg) := ⟨_, rfl⟩
      have KP2' := store5 KPA.out (.int .u64 xk) (.int .i64 xo) (.int .i64 xl) (.int .u32 xc) (.bool xg)
      have hb2 := set5_below (w := wa) (Nat.le_refl w1.heap.size) (.int .u64 xk) (.int .i64 xo) (.int .i64 xl) (.int .u32 xc) (.bool xg)
      have hkn := (Keeps.block (set5_keeps wa w1.heap.size (.int .u64 xk) (.int .i64 xo) (.int .i64 xl) (.int .u32 xc) (.bool xg)) w.heap.size hlta (by omega)).trans KNA.out
      rw [← hw2] at KP2' hb2 hkn
      have HB2 := Lib.hid (HBA.out.trans (hb2.mono hz1))
      have KN2 := Lib.hid hkn
      have KP2 := Lib.hid KP2'
      unfold set5 at hw2
      rw [← hw2]
      clear hw2 hb2 hkn KP2' f0 f1 f2 f3 f4 t0 t1 t2 t3 t4 x0 x1 x2 x3 e7
      have hz2 := HB2.out.size
      have hlt2 := blk_lt KN2.out
      have hltp := blk_lt KP2.out
      obtain ⟨x0, x1, x2, x3⟩ := ncells KN2.out
      obtain ⟨t0, t1, t2, t3, t4⟩ := pcells KP2.out
      go_wp2_with fail
      go_ret
      rw [HE.out]
      exact ⟨rfl, HH.out.same HB2.out⟩
  subst hc
  have HL3 := Lib.hid (HL2.out.trans (if_neg (by simp)))
  cases xg
  case true =>
    have HE := Lib.hid (HL3.out.trans (if_pos rfl))
    obtain ⟨SS, HSD⟩ : ∃ SS : World → Prop, Hid (SS = fun w' => w'.cell? ⟨vp, 7, none⟩ = some (.pointer (some ⟨ix, 0, none⟩)) ∧ w'.cell? ⟨w.heap.size, 0, none⟩ = some (.int .u64 key)) := ⟨_, Lib.hid rfl⟩
    refine wp_region_mask0 SS [3, 5] [0, 1, 3, 7, 0, 16, 63, 127, 255, 255, 0, 1535, 4095] (.op 0 0 (.op 1 0 (.op 2 0 (.op 3 2 (.op 4 0 (.op 5 2 (.two 6 (.op 7 0 (.op 8 0 (.op 9 0 (.op 10 1 (.op 11 1 (.op 12 0 .nil)))))) 10 (.op 6 1 (.op 7 0 (.op 8 0 (.op 9 0 (.op 11 1 (.op 12 0 .nil))))))))))))) (by kernel_rfl) (by kernel_rfl) rfl (by kernel_rfl) (by kernel_rfl) ?_ ?_
    (focus (rw [HSD.out]; exact ⟨e7, x0⟩)); refine stepM0 rfl rfl fun K hK => ?_; go_simp; refine hK _ ?_; clear hK K; refine stepM0 rfl rfl fun K hK => ?_; go_simp; refine hK _ ?_; clear hK K; refine stepM0 rfl rfl fun K hK => ?_; go_simp; refine hK _ ?_; clear hK K; refine stepM2 rfl rfl ?_ (fun w1 hS => ?_) fun K hK => ?_; rotate_left; (focus (rw [HSD.out] at hS; obtain ⟨s1, s2⟩ := hS; go_simp; rfl)); go_simp; refine hK _ ?_; clear hK K; refine stepM0 rfl rfl fun K hK => ?_; go_simp; refine hK _ ?_; clear hK K; refine stepM2 rfl rfl ?_ (fun w1 hS => ?_) fun K hK => ?_; rotate_left; (focus (rw [HSD.out] at hS; obtain ⟨s1, s2⟩ := hS; go_simp; rfl)); go_simp; refine hK _ ?_; clear hK K
    refine stepMtwo ?_ ?_ (by kernel_rfl) (by kernel_rfl)
    ·
      refine stepM1 rfl rfl (by kernel_rfl) fun K hK => ?_
      (go_wp2_with fail; refine (HF.out w1.drew (Below.drew HB1.out)).mono ?_; rintro e wa ⟨rfl, hb⟩; have HBA := Lib.hid ((Below.drew HB1.out).trans (hb.mono HB1.out.size)); have KNA := Lib.hid (blk_below' (w := w1.drew) KN1.out hb); have hza := HBA.out.size; have hlta := blk_lt KNA.out; have hz1a : w1.heap.size ≤ wa.heap.size := hb.size; have e7a := ((bcell (W := w1.drew) hb).1 vp 7 hlv).trans e7; have x0a := ((bcell (W := w1.drew) hb).1 _ 0 hlt1).trans x0; clear hb; go_wp2)
      refine stepM0 rfl rfl fun K hK => ?_; go_simp; refine hK _ ?_; clear hK K; refine stepM0 rfl rfl fun K hK => ?_; go_simp; refine hK _ ?_; clear hK K; refine stepM0 rfl rfl fun K hK => ?_; go_simp; refine hK _ ?_; clear hK K; refine stepM1S rfl rfl fun K hK => ?_; go_wp2
      refine ⟨by rw [HSD.out]; exact (⟨((bcell (W := wa) (Below.alloc (Below.refl _ _) (Nat.le_refl _) _)).1 vp 7 (Nat.lt_of_lt_of_le hlv hz1a)).trans e7a, ((bcell (W := wa) (Below.alloc (Below.refl _ _) (Nat.le_refl _) _)).1 _ 0 hlta).trans x0a⟩), ?_⟩
      refine stepM1 rfl rfl (by kernel_rfl) fun K hK => ?_; go_wp2; refine stepM0 rfl rfl fun K hK => ?_; go_simp; refine hK _ ?_; clear hK K
      try refine stepMnil0 ?_
      clear HSD SS
      obtain ⟨w2, hw2⟩ : ∃ w2 : World, w2 = wa.alloc (.cells #[.int .u64 xk, .int .i64 xo, .int .i64 xl, .int .u32 xc, .bool true] 64) := ⟨_, rfl⟩
      have hb2 : Below wa.heap.size wa w2 := by rw [hw2]; exact (by repeat (first | (with_reducible first | exact .refl _ _ | refine .setCell ?_ ?_ _ | refine .alloc ?_ ?_ _ | refine .drewN ?_ _ | refine .drew ?_ | exact Nat.le_refl _) | (focus (simp only [World.size_alloc, World.size_setCell, World.size_drew, World.size_drewN]; omega)) | omega | exact Nat.le_refl _ | (focus (simp; done)) | (focus (simp; omega))))
      have HB2 := Lib.hid (HBA.out.trans (hb2.mono hza))
      have KN2 := Lib.hid (blk_below' KNA.out hb2)
      have KP2 := Lib.hid (show w2.heap[wa.heap.size]? = some (.cells #[.int .u64 xk, .int .i64 xo, .int .i64 xl, .int .u32 xc, .bool true] 64 (0, 0)) by rw [hw2]; exact heap_new wa _)
      rw [← hw2]
      clear hw2 hb2 e7a x0a x0 x1 x2 x3 e7
      have hz2 := HB2.out.size
      have hlt2 := blk_lt KN2.out
      have hltp := blk_lt KP2.out
      obtain ⟨x0, x1, x2, x3⟩ := ncells KN2.out
      obtain ⟨t0, t1, t2, t3, t4⟩ := pcells KP2.out
      go_wp2_with fail
      go_ret
      rw [HE.out]
      exact ⟨rfl, HH.out.same HB2.out⟩
    ·
      refine stepM1S rfl rfl fun K hK => ?_; go_wp2
      refine ⟨by rw [HSD.out]; exact (⟨((bcell (W := w1.drew) (Below.alloc (Below.refl _ _) (Nat.le_refl _) _)).1 vp 7 hlv).trans e7, ((bcell (W := w1.drew) (Below.alloc (Below.refl _ _) (Nat.le_refl _) _)).1 _ 0 hlt1).trans x0⟩), ?_⟩
      refine stepM1 rfl rfl (by kernel_rfl) fun K hK => ?_
      (go_wp2_with fail; refine (HF.out (w1.drew.alloc (.cells #[.int .u64 0, .int .i64 0, .int .i64 0, .int .u32 0, .bool false] 64)) (Below.alloc (Below.drew HB1.out) HB1.out.size _)).mono ?_; rintro e wa ⟨rfl, hb⟩; have HBA := Lib.hid ((Below.alloc (Below.drew HB1.out) HB1.out.size _).trans (hb.mono (by simp; omega))); have KNA := Lib.hid (blk_below' (alloc_blk (w := w1.drew) KN1.out _) hb); have KPA := Lib.hid (show wa.heap[w1.heap.size]? = some (.cells #[.int .u64 0, .int .i64 0, .int .i64 0, .int .u32 0, .bool false] 64 (0, 0)) from blk_below' (heap_new w1.drew (.cells #[.int .u64 0, .int .i64 0, .int .i64 0, .int .u32 0, .bool false] 64)) hb); have hza := HBA.out.size; have hlta := blk_lt KNA.out; have hltpa := blk_lt KPA.out; obtain ⟨f0, f1, f2, f3, f4⟩ := pfree KPA.out; obtain ⟨t0, t1, t2, t3, t4⟩ := pcells KPA.out; clear hb; go_wp2)
      refine stepM0 rfl rfl fun K hK => ?_; go_simp; refine hK _ ?_; clear hK K; refine stepM0 rfl rfl fun K hK => ?_; go_simp; refine hK _ ?_; clear hK K; refine stepM0 rfl rfl fun K hK => ?_; go_simp; refine hK _ ?_; clear hK K; refine stepM1 rfl rfl (by kernel_rfl) fun K hK => ?_; go_wp2; refine stepM0 rfl rfl fun K hK => ?_; go_simp; refine hK _ ?_; clear hK K
      try refine stepMnil0 ?_
      clear HSD SS
      obtain ⟨w2, hw2⟩ : ∃ w2 : World, w2 = set5 wa w1.heap.size (.int .u64 xk) (.int .i64 xo) (.int .i64 xl) (.int .u32 xc) (.bool true) := ⟨_, rfl⟩
      have KP2' := store5 KPA.out (.int .u64 xk) (.int .i64 xo) (.int .i64 xl) (.int .u32 xc) (.bool true)
      have hb2 := set5_below (w := wa) (Nat.le_refl w1.heap.size) (.int .u64 xk) (.int .i64 xo) (.int .i64 xl) (.int .u32 xc) (.bool true)
      have hkn := (Keeps.block (set5_keeps wa w1.heap.size (.int .u64 xk) (.int .i64 xo) (.int .i64 xl) (.int .u32 xc) (.bool true)) w.heap.size hlta (by omega)).trans KNA.out
      rw [← hw2] at KP2' hb2 hkn
      have HB2 := Lib.hid (HBA.out.trans (hb2.mono hz1))
      have KN2 := Lib.hid hkn
      have KP2 := Lib.hid KP2'
      unfold set5 at hw2
      rw [← hw2]
      clear hw2 hb2 hkn KP2' f0 f1 f2 f3 f4 t0 t1 t2 t3 t4 x0 x1 x2 x3 e7
      have hz2 := HB2.out.size
      have hlt2 := blk_lt KN2.out
      have hltp := blk_lt KP2.out
      obtain ⟨x0, x1, x2, x3⟩ := ncells KN2.out
      obtain ⟨t0, t1, t2, t3, t4⟩ := pcells KP2.out
      go_wp2_with fail
      go_ret
      rw [HE.out]
      exact ⟨rfl, HH.out.same HB2.out⟩
  have HL4 := Lib.hid (HL3.out.trans (if_neg (by simp)))
  cases gone
  case true =>
    have HE := Lib.hid (HL4.out.trans (if_pos rfl))
    obtain ⟨SS, HSD⟩ : ∃ SS : World → Prop, Hid (SS = fun w' => w'.cell? ⟨vp, 7, none⟩ = some (.pointer (some ⟨ix, 0, none⟩)) ∧ w'.cell? ⟨w.heap.size, 0, none⟩ = some (.int .u64 key)) := ⟨_, Lib.hid rfl⟩
    refine wp_region_mask0 SS [3, 5] [0, 1, 3, 7, 0, 16, 63, 127, 255, 255, 0, 1535, 4095] (.op 0 0 (.op 1 0 (.op 2 0 (.op 3 2 (.op 4 0 (.op 5 2 (.two 6 (.op 7 0 (.op 8 0 (.op 9 0 (.op 10 1 (.op 11 1 (.op 12 0 .nil)))))) 10 (.op 6 1 (.op 7 0 (.op 8 0 (.op 9 0 (.op 11 1 (.op 12 0 .nil))))))))))))) (by kernel_rfl) (by kernel_rfl) rfl (by kernel_rfl) (by kernel_rfl) ?_ ?_
    (focus (rw [HSD.out]; exact ⟨e7, x0⟩)); refine stepM0 rfl rfl fun K hK => ?_; go_simp; refine hK _ ?_; clear hK K; refine stepM0 rfl rfl fun K hK => ?_; go_simp; refine hK _ ?_; clear hK K; refine stepM0 rfl rfl fun K hK => ?_; go_simp; refine hK _ ?_; clear hK K; refine stepM2 rfl rfl ?_ (fun w1 hS => ?_) fun K hK => ?_; rotate_left; (focus (rw [HSD.out] at hS; obtain ⟨s1, s2⟩ := hS; go_simp; rfl)); go_simp; refine hK _ ?_; clear hK K; refine stepM0 rfl rfl fun K hK => ?_; go_simp; refine hK _ ?_; clear hK K; refine stepM2 rfl rfl ?_ (fun w1 hS => ?_) fun K hK => ?_; rotate_left; (focus (rw [HSD.out] at hS; obtain ⟨s1, s2⟩ := hS; go_simp; rfl)); go_simp; refine hK _ ?_; clear hK K
    refine stepMtwo ?_ ?_ (by kernel_rfl) (by kernel_rfl)
    ·
      refine stepM1 rfl rfl (by kernel_rfl) fun K hK => ?_
      (go_wp2_with fail; refine (HF.out w1.drew (Below.drew HB1.out)).mono ?_; rintro e wa ⟨rfl, hb⟩; have HBA := Lib.hid ((Below.drew HB1.out).trans (hb.mono HB1.out.size)); have KNA := Lib.hid (blk_below' (w := w1.drew) KN1.out hb); have hza := HBA.out.size; have hlta := blk_lt KNA.out; have hz1a : w1.heap.size ≤ wa.heap.size := hb.size; have e7a := ((bcell (W := w1.drew) hb).1 vp 7 hlv).trans e7; have x0a := ((bcell (W := w1.drew) hb).1 _ 0 hlt1).trans x0; clear hb; go_wp2)
      refine stepM0 rfl rfl fun K hK => ?_; go_simp; refine hK _ ?_; clear hK K; refine stepM0 rfl rfl fun K hK => ?_; go_simp; refine hK _ ?_; clear hK K; refine stepM0 rfl rfl fun K hK => ?_; go_simp; refine hK _ ?_; clear hK K; refine stepM1S rfl rfl fun K hK => ?_; go_wp2
      refine ⟨by rw [HSD.out]; exact (⟨((bcell (W := wa) (Below.alloc (Below.refl _ _) (Nat.le_refl _) _)).1 vp 7 (Nat.lt_of_lt_of_le hlv hz1a)).trans e7a, ((bcell (W := wa) (Below.alloc (Below.refl _ _) (Nat.le_refl _) _)).1 _ 0 hlta).trans x0a⟩), ?_⟩
      refine stepM1 rfl rfl (by kernel_rfl) fun K hK => ?_; go_wp2; refine stepM0 rfl rfl fun K hK => ?_; go_simp; refine hK _ ?_; clear hK K
      try refine stepMnil0 ?_
      clear HSD SS
      obtain ⟨w2, hw2⟩ : ∃ w2 : World, w2 = wa.alloc (.cells #[.int .u64 xk, .int .i64 xo, .int .i64 xl, .int .u32 xc, .bool false] 64) := ⟨_, rfl⟩
      have hb2 : Below wa.heap.size wa w2 := by rw [hw2]; exact (by repeat (first | (with_reducible first | exact .refl _ _ | refine .setCell ?_ ?_ _ | refine .alloc ?_ ?_ _ | refine .drewN ?_ _ | refine .drew ?_ | exact Nat.le_refl _) | (focus (simp only [World.size_alloc, World.size_setCell, World.size_drew, World.size_drewN]; omega)) | omega | exact Nat.le_refl _ | (focus (simp; done)) | (focus (simp; omega))))
      have HB2 := Lib.hid (HBA.out.trans (hb2.mono hza))
      have KN2 := Lib.hid (blk_below' KNA.out hb2)
      have KP2 := Lib.hid (show w2.heap[wa.heap.size]? = some (.cells #[.int .u64 xk, .int .i64 xo, .int .i64 xl, .int .u32 xc, .bool false] 64 (0, 0)) by rw [hw2]; exact heap_new wa _)
      rw [← hw2]
      clear hw2 hb2 e7a x0a x0 x1 x2 x3 e7
      have hz2 := HB2.out.size
      have hlt2 := blk_lt KN2.out
      have hltp := blk_lt KP2.out
      obtain ⟨x0, x1, x2, x3⟩ := ncells KN2.out
      obtain ⟨t0, t1, t2, t3, t4⟩ := pcells KP2.out
      go_wp2_with fail
      refine (HWR.out _ HB2.out).mono ?_
      rintro e w3 ⟨rfl, ht⟩
      have HT := Lib.hid ht
      clear ht
      go_wp2_with fail
      go_ret
      rw [HE.out]
      exact ⟨rfl, HT.out.1, KP.trans (KP.of HB2.out) HT.out.2⟩
    ·
      refine stepM1S rfl rfl fun K hK => ?_; go_wp2
      refine ⟨by rw [HSD.out]; exact (⟨((bcell (W := w1.drew) (Below.alloc (Below.refl _ _) (Nat.le_refl _) _)).1 vp 7 hlv).trans e7, ((bcell (W := w1.drew) (Below.alloc (Below.refl _ _) (Nat.le_refl _) _)).1 _ 0 hlt1).trans x0⟩), ?_⟩
      refine stepM1 rfl rfl (by kernel_rfl) fun K hK => ?_
      (go_wp2_with fail; refine (HF.out (w1.drew.alloc (.cells #[.int .u64 0, .int .i64 0, .int .i64 0, .int .u32 0, .bool false] 64)) (Below.alloc (Below.drew HB1.out) HB1.out.size _)).mono ?_; rintro e wa ⟨rfl, hb⟩; have HBA := Lib.hid ((Below.alloc (Below.drew HB1.out) HB1.out.size _).trans (hb.mono (by simp; omega))); have KNA := Lib.hid (blk_below' (alloc_blk (w := w1.drew) KN1.out _) hb); have KPA := Lib.hid (show wa.heap[w1.heap.size]? = some (.cells #[.int .u64 0, .int .i64 0, .int .i64 0, .int .u32 0, .bool false] 64 (0, 0)) from blk_below' (heap_new w1.drew (.cells #[.int .u64 0, .int .i64 0, .int .i64 0, .int .u32 0, .bool false] 64)) hb); have hza := HBA.out.size; have hlta := blk_lt KNA.out; have hltpa := blk_lt KPA.out; obtain ⟨f0, f1, f2, f3, f4⟩ := pfree KPA.out; obtain ⟨t0, t1, t2, t3, t4⟩ := pcells KPA.out; clear hb; go_wp2)
      refine stepM0 rfl rfl fun K hK => ?_; go_simp; refine hK _ ?_; clear hK K; refine stepM0 rfl rfl fun K hK => ?_; go_simp; refine hK _ ?_; clear hK K; refine stepM0 rfl rfl fun K hK => ?_; go_simp; refine hK _ ?_; clear hK K; refine stepM1 rfl rfl (by kernel_rfl) fun K hK => ?_; go_wp2; refine stepM0 rfl rfl fun K hK => ?_; go_simp; refine hK _ ?_; clear hK K
      try refine stepMnil0 ?_
      clear HSD SS
      obtain ⟨w2, hw2⟩ : ∃ w2 : World, w2 = set5 wa w1.heap.size (.int .u64 xk) (.int .i64 xo) (.int .i64 xl) (.int .u32 xc) (.bool false) := ⟨_, rfl⟩
      have KP2' := store5 KPA.out (.int .u64 xk) (.int .i64 xo) (.int .i64 xl) (.int .u32 xc) (.bool false)
      have hb2 := set5_below (w := wa) (Nat.le_refl w1.heap.size) (.int .u64 xk) (.int .i64 xo) (.int .i64 xl) (.int .u32 xc) (.bool false)
      have hkn := (Keeps.block (set5_keeps wa w1.heap.size (.int .u64 xk) (.int .i64 xo) (.int .i64 xl) (.int .u32 xc) (.bool false)) w.heap.size hlta (by omega)).trans KNA.out
      rw [← hw2] at KP2' hb2 hkn
      have HB2 := Lib.hid (HBA.out.trans (hb2.mono hz1))
      have KN2 := Lib.hid hkn
      have KP2 := Lib.hid KP2'
      unfold set5 at hw2
      rw [← hw2]
      clear hw2 hb2 hkn KP2' f0 f1 f2 f3 f4 t0 t1 t2 t3 t4 x0 x1 x2 x3 e7
      have hz2 := HB2.out.size
      have hlt2 := blk_lt KN2.out
      have hltp := blk_lt KP2.out
      obtain ⟨x0, x1, x2, x3⟩ := ncells KN2.out
      obtain ⟨t0, t1, t2, t3, t4⟩ := pcells KP2.out
      go_wp2_with fail
      refine (HWR.out _ HB2.out).mono ?_
      rintro e w3 ⟨rfl, ht⟩
      have HT := Lib.hid ht
      clear ht
      go_wp2_with fail
      go_ret
      rw [HE.out]
      exact ⟨rfl, HT.out.1, KP.trans (KP.of HB2.out) HT.out.2⟩
  have HE := Lib.hid (HL4.out.trans (if_neg (by simp)))
  obtain ⟨SS, HSD⟩ : ∃ SS : World → Prop, Hid (SS = fun w' => w'.cell? ⟨vp, 7, none⟩ = some (.pointer (some ⟨ix, 0, none⟩)) ∧ w'.cell? ⟨w.heap.size, 0, none⟩ = some (.int .u64 key)) := ⟨_, Lib.hid rfl⟩
  refine wp_region_mask0 SS [3, 5] [0, 1, 3, 7, 0, 16, 63, 127, 255, 255, 0, 1535, 4095] (.op 0 0 (.op 1 0 (.op 2 0 (.op 3 2 (.op 4 0 (.op 5 2 (.two 6 (.op 7 0 (.op 8 0 (.op 9 0 (.op 10 1 (.op 11 1 (.op 12 0 .nil)))))) 10 (.op 6 1 (.op 7 0 (.op 8 0 (.op 9 0 (.op 11 1 (.op 12 0 .nil))))))))))))) (by kernel_rfl) (by kernel_rfl) rfl (by kernel_rfl) (by kernel_rfl) ?_ ?_
  (focus (rw [HSD.out]; exact ⟨e7, x0⟩)); refine stepM0 rfl rfl fun K hK => ?_; go_simp; refine hK _ ?_; clear hK K; refine stepM0 rfl rfl fun K hK => ?_; go_simp; refine hK _ ?_; clear hK K; refine stepM0 rfl rfl fun K hK => ?_; go_simp; refine hK _ ?_; clear hK K; refine stepM2 rfl rfl ?_ (fun w1 hS => ?_) fun K hK => ?_; rotate_left; (focus (rw [HSD.out] at hS; obtain ⟨s1, s2⟩ := hS; go_simp; rfl)); go_simp; refine hK _ ?_; clear hK K; refine stepM0 rfl rfl fun K hK => ?_; go_simp; refine hK _ ?_; clear hK K; refine stepM2 rfl rfl ?_ (fun w1 hS => ?_) fun K hK => ?_; rotate_left; (focus (rw [HSD.out] at hS; obtain ⟨s1, s2⟩ := hS; go_simp; rfl)); go_simp; refine hK _ ?_; clear hK K
  refine stepMtwo ?_ ?_ (by kernel_rfl) (by kernel_rfl)
  ·
    refine stepM1 rfl rfl (by kernel_rfl) fun K hK => ?_
    (go_wp2_with fail; refine (HF.out w1.drew (Below.drew HB1.out)).mono ?_; rintro e wa ⟨rfl, hb⟩; have HBA := Lib.hid ((Below.drew HB1.out).trans (hb.mono HB1.out.size)); have KNA := Lib.hid (blk_below' (w := w1.drew) KN1.out hb); have hza := HBA.out.size; have hlta := blk_lt KNA.out; have hz1a : w1.heap.size ≤ wa.heap.size := hb.size; have e7a := ((bcell (W := w1.drew) hb).1 vp 7 hlv).trans e7; have x0a := ((bcell (W := w1.drew) hb).1 _ 0 hlt1).trans x0; clear hb; go_wp2)
    refine stepM0 rfl rfl fun K hK => ?_; go_simp; refine hK _ ?_; clear hK K; refine stepM0 rfl rfl fun K hK => ?_; go_simp; refine hK _ ?_; clear hK K; refine stepM0 rfl rfl fun K hK => ?_; go_simp; refine hK _ ?_; clear hK K; refine stepM1S rfl rfl fun K hK => ?_; go_wp2
    refine ⟨by rw [HSD.out]; exact (⟨((bcell (W := wa) (Below.alloc (Below.refl _ _) (Nat.le_refl _) _)).1 vp 7 (Nat.lt_of_lt_of_le hlv hz1a)).trans e7a, ((bcell (W := wa) (Below.alloc (Below.refl _ _) (Nat.le_refl _) _)).1 _ 0 hlta).trans x0a⟩), ?_⟩
    refine stepM1 rfl rfl (by kernel_rfl) fun K hK => ?_; go_wp2; refine stepM0 rfl rfl fun K hK => ?_; go_simp; refine hK _ ?_; clear hK K
    try refine stepMnil0 ?_
    clear HSD SS
    obtain ⟨w2, hw2⟩ : ∃ w2 : World, w2 = wa.alloc (.cells #[.int .u64 xk, .int .i64 xo, .int .i64 xl, .int .u32 xc, .bool false] 64) := ⟨_, rfl⟩
    have hb2 : Below wa.heap.size wa w2 := by rw [hw2]; exact (by repeat (first | (with_reducible first | exact .refl _ _ | refine .setCell ?_ ?_ _ | refine .alloc ?_ ?_ _ | refine .drewN ?_ _ | refine .drew ?_ | exact Nat.le_refl _) | (focus (simp only [World.size_alloc, World.size_setCell, World.size_drew, World.size_drewN]; omega)) | omega | exact Nat.le_refl _ | (focus (simp; done)) | (focus (simp; omega))))
    have HB2 := Lib.hid (HBA.out.trans (hb2.mono hza))
    have KN2 := Lib.hid (blk_below' KNA.out hb2)
    have KP2 := Lib.hid (show w2.heap[wa.heap.size]? = some (.cells #[.int .u64 xk, .int .i64 xo, .int .i64 xl, .int .u32 xc, .bool false] 64 (0, 0)) by rw [hw2]; exact heap_new wa _)
    rw [← hw2]
    clear hw2 hb2 e7a x0a x0 x1 x2 x3 e7
    have hz2 := HB2.out.size
    have hlt2 := blk_lt KN2.out
    have hltp := blk_lt KP2.out
    obtain ⟨x0, x1, x2, x3⟩ := ncells KN2.out
    obtain ⟨t0, t1, t2, t3, t4⟩ := pcells KP2.out
    go_wp2_with fail
    refine (HGT.out _ HB2.out).mono ?_
    rintro e w3 ⟨vd, ev, rfl, hev, ho, hb⟩
    obtain rfl : ev = errV gk := by
      rcases hev with ⟨-, h⟩ | ⟨h, -⟩
      · exact h
      · cases h
    obtain ⟨ad, cd, rfl, -⟩ := slice_of ho
    have HB3 := Lib.hid (HB2.out.trans (hb.mono hz2))
    have KN3 := Lib.hid (blk_below' KN2.out hb)
    have HO3 := Lib.hid (reads_of_owns ho)
    have hz3 := HB3.out.size
    clear hb ho hev x0 x1 x2 x3 t0 t1 t2 t3 t4
    obtain ⟨x0, x1, x2, x3⟩ := ncells KN3.out
    have hlt3 := blk_lt KN3.out
    by_cases hk0 : gk = 0
    case neg =>
      have HNE := Lib.hid (errV_ne (k := (gk : Int)) (by omega))
      have HE2 := Lib.hid (HE.out.trans (if_pos hk0))
      rw [HNE.out]
      clear hk0
      go_wp2_with fail
      go_ret
      rw [HE2.out]
      exact ⟨by rw [HNE.out]; rfl, HH.out.same ((HB3.out.alloc hz3 _))⟩
    have HE2 := Lib.hid (HE.out.trans (if_neg (by simpa using hk0)))
    rw [hk0, show errV ((0 : Nat) : Int) = .nilIface from rfl]
    clear hk0
    have HSM := Lib.hid (fun (w0 : World) (hb : Below w3.heap.size w3 w0) => nsame_any go ⟨key, xc, false, data⟩ ad a cd c w0 (HO3.out.below hb) ((HR.out.below HB3.out).below hb))
    unfold ndV at HSM
    simp only at HSM
    obtain ⟨q, hq⟩ : ∃ q, q = decide (go = ⟨key, xc, false, data⟩) := ⟨_, rfl⟩
    rw [← hq] at HSM
    have HQ := Lib.hid hq
    clear hq
    obtain ⟨gky, gck, ggn, gdt⟩ := go
    simp only at HSM
    go_wp2_with fail
    refine (HSM.out _ (by repeat (first | (with_reducible first | exact .refl _ _ | refine .setCell ?_ ?_ _ | refine .alloc ?_ ?_ _ | refine .drewN ?_ _ | refine .drew ?_ | exact Nat.le_refl _) | (focus (simp only [World.size_alloc, World.size_setCell, World.size_drew, World.size_drewN]; omega)) | omega | exact Nat.le_refl _ | (focus (simp; done)) | (focus (simp; omega))))).mono ?_
    rintro e w4 ⟨rfl, hb⟩
    have HB4 := Lib.hid (show Below w.heap.size w w4 from HB3.out.trans (Below.trans (Below.alloc (Below.refl _ _) hz3 _) (hb.mono (by simp; omega))))
    clear hb
    cases q
    · have HE3 := Lib.hid (HE2.out.trans (if_neg (by intro e; rw [e] at HQ; exact absurd HQ.out (by simp))))
      go_wp2_with fail
      go_ret
      rw [HE3.out]
      exact ⟨rfl, HH.out.same HB4.out⟩
    · have HE3 := Lib.hid (HE2.out.trans (if_pos (by simpa using HQ.out.symm)))
      go_wp2_with fail
      go_ret
      rw [HE3.out]
      exact ⟨rfl, HH.out.same HB4.out⟩
  ·
    refine stepM1S rfl rfl fun K hK => ?_; go_wp2
    refine ⟨by rw [HSD.out]; exact (⟨((bcell (W := w1.drew) (Below.alloc (Below.refl _ _) (Nat.le_refl _) _)).1 vp 7 hlv).trans e7, ((bcell (W := w1.drew) (Below.alloc (Below.refl _ _) (Nat.le_refl _) _)).1 _ 0 hlt1).trans x0⟩), ?_⟩
    refine stepM1 rfl rfl (by kernel_rfl) fun K hK => ?_
    (go_wp2_with fail; refine (HF.out (w1.drew.alloc (.cells #[.int .u64 0, .int .i64 0, .int .i64 0, .int .u32 0, .bool false] 64)) (Below.alloc (Below.drew HB1.out) HB1.out.size _)).mono ?_; rintro e wa ⟨rfl, hb⟩; have HBA := Lib.hid ((Below.alloc (Below.drew HB1.out) HB1.out.size _).trans (hb.mono (by simp; omega))); have KNA := Lib.hid (blk_below' (alloc_blk (w := w1.drew) KN1.out _) hb); have KPA := Lib.hid (show wa.heap[w1.heap.size]? = some (.cells #[.int .u64 0, .int .i64 0, .int .i64 0, .int .u32 0, .bool false] 64 (0, 0)) from blk_below' (heap_new w1.drew (.cells #[.int .u64 0, .int .i64 0, .int .i64 0, .int .u32 0, .bool false] 64)) hb); have hza := HBA.out.size; have hlta := blk_lt KNA.out; have hltpa := blk_lt KPA.out; obtain ⟨f0, f1, f2, f3, f4⟩ := pfree KPA.out; obtain ⟨t0, t1, t2, t3, t4⟩ := pcells KPA.out; clear hb; go_wp2)
    refine stepM0 rfl rfl fun K hK => ?_; go_simp; refine hK _ ?_; clear hK K; refine stepM0 rfl rfl fun K hK => ?_; go_simp; refine hK _ ?_; clear hK K; refine stepM0 rfl rfl fun K hK => ?_; go_simp; refine hK _ ?_; clear hK K; refine stepM1 rfl rfl (by kernel_rfl) fun K hK => ?_; go_wp2; refine stepM0 rfl rfl fun K hK => ?_; go_simp; refine hK _ ?_; clear hK K
    try refine stepMnil0 ?_
    clear HSD SS
    obtain ⟨w2, hw2⟩ : ∃ w2 : World, w2 = set5 wa w1.heap.size (.int .u64 xk) (.int .i64 xo) (.int .i64 xl) (.int .u32 xc) (.bool false) := ⟨_, rfl⟩
    have KP2' := store5 KPA.out (.int .u64 xk) (.int .i64 xo) (.int .i64 xl) (.int .u32 xc) (.bool false)
    have hb2 := set5_below (w := wa) (Nat.le_refl w1.heap.size) (.int .u64 xk) (.int .i64 xo) (.int .i64 xl) (.int .u32 xc) (.bool false)
    have hkn := (Keeps.block (set5_keeps wa w1.heap.size (.int .u64 xk) (.int .i64 xo) (.int .i64 xl) (.int .u32 xc) (.bool false)) w.heap.size hlta (by omega)).trans KNA.out
    rw [← hw2] at KP2' hb2 hkn
    have HB2 := Lib.hid (HBA.out.trans (hb2.mono hz1))
    have KN2 := Lib.hid hkn
    have KP2 := Lib.hid KP2'
    unfold set5 at hw2
    rw [← hw2]
    clear hw2 hb2 hkn KP2' f0 f1 f2 f3 f4 t0 t1 t2 t3 t4 x0 x1 x2 x3 e7
    have hz2 := HB2.out.size
    have hlt2 := blk_lt KN2.out
    have hltp := blk_lt KP2.out
    obtain ⟨x0, x1, x2, x3⟩ := ncells KN2.out
    obtain ⟨t0, t1, t2, t3, t4⟩ := pcells KP2.out
    go_wp2_with fail
    refine (HGT.out _ HB2.out).mono ?_
    rintro e w3 ⟨vd, ev, rfl, hev, ho, hb⟩
    obtain rfl : ev = errV gk := by
      rcases hev with ⟨-, h⟩ | ⟨h, -⟩
      · exact h
      · cases h
    obtain ⟨ad, cd, rfl, -⟩ := slice_of ho
    have HB3 := Lib.hid (HB2.out.trans (hb.mono hz2))
    have KN3 := Lib.hid (blk_below' KN2.out hb)
    have HO3 := Lib.hid (reads_of_owns ho)
    have hz3 := HB3.out.size
    clear hb ho hev x0 x1 x2 x3 t0 t1 t2 t3 t4
    obtain ⟨x0, x1, x2, x3⟩ := ncells KN3.out
    have hlt3 := blk_lt KN3.out
    by_cases hk0 : gk = 0
    case neg =>
      have HNE := Lib.hid (errV_ne (k := (gk : Int)) (by omega))
      have HE2 := Lib.hid (HE.out.trans (if_pos hk0))
      rw [HNE.out]
      clear hk0
      go_wp2_with fail
      go_ret
      rw [HE2.out]
      exact ⟨by rw [HNE.out]; rfl, HH.out.same ((HB3.out.alloc hz3 _))⟩
    have HE2 := Lib.hid (HE.out.trans (if_neg (by simpa using hk0)))
    rw [hk0, show errV ((0 : Nat) : Int) = .nilIface from rfl]
    clear hk0
    have HSM := Lib.hid (fun (w0 : World) (hb : Below w3.heap.size w3 w0) => nsame_any go ⟨key, xc, false, data⟩ ad a cd c w0 (HO3.out.below hb) ((HR.out.below HB3.out).below hb))
    unfold ndV at HSM
    simp only at HSM
    obtain ⟨q, hq⟩ : ∃ q, q = decide (go = ⟨key, xc, false, data⟩) := ⟨_, rfl⟩
    rw [← hq] at HSM
    have HQ := Lib.hid hq
    clear hq
    obtain ⟨gky, gck, ggn, gdt⟩ := go
    simp only at HSM
    go_wp2_with fail
    refine (HSM.out _ (by repeat (first | (with_reducible first | exact .refl _ _ | refine .setCell ?_ ?_ _ | refine .alloc ?_ ?_ _ | refine .drewN ?_ _ | refine .drew ?_ | exact Nat.le_refl _) | (focus (simp only [World.size_alloc, World.size_setCell, World.size_drew, World.size_drewN]; omega)) | omega | exact Nat.le_refl _ | (focus (simp; done)) | (focus (simp; omega))))).mono ?_
    rintro e w4 ⟨rfl, hb⟩
    have HB4 := Lib.hid (show Below w.heap.size w w4 from HB3.out.trans (Below.trans (Below.alloc (Below.refl _ _) hz3 _) (hb.mono (by simp; omega))))
    clear hb
    cases q
    · have HE3 := Lib.hid (HE2.out.trans (if_neg (by intro e; rw [e] at HQ; exact absurd HQ.out (by simp))))
      go_wp2_with fail
      go_ret
      rw [HE3.out]
      exact ⟨rfl, HH.out.same HB4.out⟩
    · have HE3 := Lib.hid (HE2.out.trans (if_pos (by simpa using HQ.out.symm)))
      go_wp2_with fail
      go_ret
      rw [HE3.out]
      exact ⟨rfl, HH.out.same HB4.out⟩
end Go.Proofs.YtmaalbbclldnpaaGreatDoor
