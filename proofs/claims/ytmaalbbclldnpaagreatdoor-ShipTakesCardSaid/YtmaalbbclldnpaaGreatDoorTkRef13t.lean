/- Reference 13: Take. (Written by wip/genref13t.py.) -/
import Derived.Test.YtmaalbbclldnpaaGreatDoorTkRef03s
import Derived.Test.YtmaalbbclldnpaaGreatDoorTkShipMadeL
namespace Go.Proofs.YtmaalbbclldnpaaGreatDoor
open Go.RowKit
/-- What the document's Take leaves. -/
def RTakeTo (w : World) (r : Ld) (e : Ending) (w' : World) : Prop :=
  ∃ (vl : Value) (ys : List NdE), e = .returned (.tuple #[vl, .bool r.more, .int .u64 r.next]) ∧ ys.map NdE.n = r.l ∧ Reads w' 4 vl ys.length (ys.flatMap NdE.cs) ∧ (∀ y ∈ ys, NdArg w' y) ∧ Below w.heap.size w w'
theorem ndE_of {y : Option NdE} {d : List Nd} {key : Nat} (h : y.map NdE.n = lastOf d key) : ∃ E : NdE, ndOV y = .agg #[.int .u64 E.n.key, .int .u32 E.n.cookie, .bool E.n.gone, .slice E.a E.n.data.length E.c] ∧ E.n = (lastOf d key).getD ⟨0, 0, false, []⟩ ∧ (y = some E ∨ (y = none ∧ E = ⟨⟨0, 0, false, []⟩, none, 0⟩)) := by
  cases y with
  | none => exact ⟨⟨⟨0, 0, false, []⟩, none, 0⟩, rfl, by rw [← h]; rfl, .inr ⟨rfl, rfl⟩⟩
  | some E => exact ⟨E, rfl, by rw [← h]; rfl, .inl rfl⟩
theorem td_more {l : List Ps} {k X : Nat} {x : Ps} (h : l[k]? = some x) (hX : X ≤ k) : (l.take (k + 1)).drop X = (l.take k).drop X ++ [x] := by
  have hk : k < l.length := (List.getElem?_eq_some_iff.1 h).1
  rw [List.take_add_one, h, List.drop_append_of_le_length (by rw [List.length_take]; omega)]
  rfl
theorem td_low {l : List Ps} {k X : Nat} (hX : k < X) : (l.take (k + 1)).drop X = (l.take k).drop X := by
  rw [List.drop_eq_nil_of_le (by rw [List.length_take]; omega), List.drop_eq_nil_of_le (by rw [List.length_take]; omega)]
set_option maxRecDepth 100000 in
set_option maxHeartbeats 4000000 in
theorem rtake_any (P : Nat → Prop) (v : Rv) (al : Option Addr) (cl : Nat) (ad : Option Addr) (cd : Nat) (xs : List NdE) (fr m : Nat) (w : World) (h : RvAt w P v al cl ad cd xs) (hs : IxS v.l) (hf : v.l.length ≤ 4096) :
    Calls Tryz.prog 14 #[rvV v al cl ad cd, .int .u64 fr, .int .i64 m] w (RTakeTo w (v.load fr m)) := by
  obtain ⟨i0, hi, hzz0, hzz1, hzz2⟩ := info_parts n03info
  have HI := Lib.hid hi
  have HZ0 := Lib.hid hzz0
  have HZ1 := Lib.hid hzz1
  have HZ2 := Lib.hid hzz2
  have HNW := Lib.hid (fun (w0 : World) (hb : Below w.heap.size w w0) (key : Nat) => rnewest_any v.num v.most v.epoch v.size v.shut (.slice al v.l.length cl) ad v.d.length cd xs key w0 h.rd.len (h.rd.row.below hb) ⟨_, _, _, rfl⟩)
  rw [h.eq] at HNW
  have HIN := Lib.hid (fun (w' : World) (hb : Below w.heap.size w w') (y : NdE) (hy : y ∈ xs) => (NdP.below (show NdP w P y from h.rd.ins y hy) hb).1)
  have HR := Lib.hid h.rl
  have HS := Lib.hid hs
  obtain ⟨num, most, epoch, size, shut, l, dd⟩ := v
  unfold rvV
  simp only at HNW HR HS hf ⊢
  obtain ⟨LD, hLD⟩ : ∃ LD, LD = Rv.load ⟨num, most, epoch, size, shut, l, dd⟩ fr m := ⟨_, rfl⟩
  rw [← hLD]
  unfold Rv.load at hLD
  obtain ⟨X, hX⟩ : ∃ X, X = ixAt l fr := ⟨_, rfl⟩
  simp only at hLD
  rw [← hX] at hLD
  have HLD := Lib.hid hLD
  have HX := Lib.hid hX
  obtain ⟨ln, hln⟩ : ∃ ln, ln = l.length := ⟨_, rfl⟩
  obtain ⟨dn, hdn⟩ : ∃ dn, dn = dd.length := ⟨_, rfl⟩
  have HLN := Lib.hid hln
  rw [← hln] at HNW HR hf ⊢
  rw [← hdn] at HNW ⊢
  have hXn : X ≤ ln := by rw [hX, hln]; exact ixAt_le _ _
  clear h hs hln hdn hX hLD hi hzz0 hzz1 hzz2
  go_enter Tryz.func14, Tryz.ntmps14
  go_upto_region 1 with fail
  obtain ⟨w0, hw0⟩ : ∃ w0 : World, w0 = w.alloc (.cells #[.int .i64 num, .int .i64 most, .int .i64 epoch, .int .i64 size, .bool shut, .slice al ln cl, .slice ad dn cd] 30) := ⟨_, rfl⟩
  have HB0 := Lib.hid (show Below w.heap.size w w0 by rw [hw0]; exact (by repeat (first | (with_reducible exact Below.refl _ _) | (with_reducible refine Below.setCell ?_ ?_ _) | (with_reducible refine Below.alloc ?_ ?_ _) | (with_reducible refine Below.drewN ?_ _) | (with_reducible refine Below.drew ?_) | (with_reducible exact Nat.le_refl _) | (focus (simp only [World.size_alloc, World.size_setCell, World.size_drew, World.size_drewN]; omega)) | omega | exact Nat.le_refl _ | (focus (simp; done)) | (focus (simp; omega)))))
  have KV0 := Lib.hid (show w0.heap[w.heap.size]? = some (.cells #[.int .i64 num, .int .i64 most, .int .i64 epoch, .int .i64 size, .bool shut, .slice al ln cl, .slice ad dn cd] 30 (0, 0)) by rw [hw0]; exact heap_new w _)
  rw [← hw0]
  clear hw0
  have hz0 := HB0.out.size
  go_wp2_with fail
  go_loopg [9, 10] (ln + 1) (fun g s i wr => ∃ (k : Nat) (aL : Option Addr) (nL cL : Nat) (ys : List NdE), k ≤ ln ∧ g = ln + 1 - k ∧ i = .int .i64 k ∧ s = .slice aL nL cL ∧ nL = ys.length ∧ nL ≤ k ∧ nL ≤ m ∧ ys.map NdE.n = ((l.take k).drop X).map (ndAt dd) ∧ (∀ y ∈ ys, ∀ w', Below w.heap.size w w' → NdArg w' y) ∧ wr.ownsRow w0.heap.size 47 4 (.slice aL nL cL) nL (ys.flatMap NdE.cs) ∧ Below w0.heap.size w0 wr)
  case atStart => exact ⟨0, none, 0, 0, [], Nat.zero_le _, rfl, rfl, rfl, rfl, Nat.zero_le _, Nat.zero_le _, by simp, fun _ e => absurd e List.not_mem_nil, World.ownsRow_nil _ _ _ _, Below.refl _ _⟩
  case round =>
    obtain ⟨k, aL, nL, cL, ys, hk, rfl, rfl, rfl, hnl, hnk, hnm, hys, hya, hrw, hbr⟩ := hrel
    have HNL := Lib.hid hnl
    have HYS := Lib.hid hys
    have HYA := Lib.hid hya
    have HRW := Lib.hid hrw
    have HBR := Lib.hid hbr
    have hzr := hbr.size
    have KVR := Lib.hid (blk_below' KV0.out hbr)
    have HBW := Lib.hid (HB0.out.trans (hbr.mono hz0))
    have HLEN := Lib.hid (show nL = ((l.take k).drop X).length by
      have := congrArg List.length hys
      simp only [List.length_map] at this
      rw [hnl, this])
    clear hnl hys hya hrw hbr
    obtain ⟨v0, v1, v2, v3, v4, v5, v6⟩ := cells7' KVR.out
    have hlr := blk_lt KVR.out
    by_cases hlt : k < ln
    · obtain ⟨x, hx⟩ : ∃ x, l[k]? = some x := ⟨_, List.getElem?_eq_getElem (by rw [← HLN.out]; exact hlt)⟩
      obtain ⟨b, o, c', e, hb, r0, r1, r2, r3, r4⟩ := ps_cells (HR.out.below HBW.out) hx (by omega)
      obtain ⟨rfl, -, rfl⟩ := sl_inj e
      have HX2 := Lib.hid hx
      have hj0 : (0 : Int) ≤ (k : Int) := by omega
      have hj1 : (k : Int) < (ln : Int) := by omega
      clear hx e r1 r2 r3 r4
      obtain ⟨xk, xo, xl, xc', xg⟩ := x
      simp only at r0
      by_cases hlow : k < X
      · have hxk : xk < fr := ixAt_below (l := l) (k := fr) (by rw [← HX.out]; exact hlow) HX2.out
        have e1 : decide ((xk : Int) < (fr : Int)) = true := by simp; omega
        have e2 : decide (xk < fr) = true := by simp; omega
        have HLW := Lib.hid hlow
        clear hlow hxk
        go_wp2_with fail
        go_roundg (ln + 1 - (k + 1))
        case measure => omega
        case rel => exact ⟨k + 1, _, nL, _, ys, by omega, rfl, by go_num, rfl, HNL.out, by omega, hnm, by rw [HYS.out, td_low HLW.out], HYA.out, HRW.out, HBR.out⟩
      have hxk : fr ≤ xk := ixAt_above HS.out (k := fr) (i := k) (by rw [← HX.out]; omega) HX2.out
      have e1 : decide ((xk : Int) < (fr : Int)) = false := by simp; omega
      have e2 : decide (xk < fr) = false := by simp; omega
      have HLW := Lib.hid (show X ≤ k by omega)
      clear hlow hxk
      by_cases hfull : nL = m
      · have e3 : ((nL : Int) == (m : Int)) = true := by simp; omega
        have HF := Lib.hid (show LD = ⟨ys.map NdE.n, xk, true, 0⟩ by
          have h1 : k = X + m := by
            have := HLEN.out
            rw [List.length_drop, List.length_take, ← HLN.out] at this
            have := HLW.out
            omega
          rw [HLD.out, HYS.out, ← h1, HX2.out]
          have h2 : (l.drop X).take m = (l.take k).drop X := by rw [h1, List.drop_take]; congr 1; omega
          rw [h2]
          have h3 : decide (k < l.length) = true := by rw [← HLN.out]; simp; exact hlt
          rw [h3])
        clear hfull
        go_upto_region 7 with fail
        refine wp_region_mask0 (fun w1 => w1 = _) [2, 6] [0, 0, 2, 0, 14, 30, 62, 1, 129, 511] (.op 0 0 (.op 1 0 (.op 2 2 (.op 3 0 (.op 4 0 (.op 5 0 (.op 6 2 (.op 7 0 (.op 8 0 (.op 9 0 .nil)))))))))) (by kernel_rfl) (by kernel_rfl) rfl (by kernel_rfl) (by kernel_rfl) rfl ?_
        refine stepM0 rfl rfl (fun K hK => ?_)
        go_simp
        refine hK _ ?_
        clear hK K
        refine stepM0 rfl rfl (fun K hK => ?_)
        go_simp
        refine hK _ ?_
        clear hK K
        refine stepM2 rfl rfl ?_ (fun w1 hS => ?_) (fun K hK => ?_)
        rotate_left
        focus (obtain rfl : w1 = _ := hS; go_simp; rfl)
        go_simp
        refine hK _ ?_
        clear hK K
        refine stepM0 rfl rfl (fun K hK => ?_)
        go_simp
        refine hK _ ?_
        clear hK K
        refine stepM0 rfl rfl (fun K hK => ?_)
        go_simp
        refine hK _ ?_
        clear hK K
        refine stepM0 rfl rfl (fun K hK => ?_)
        go_simp
        refine hK _ ?_
        clear hK K
        refine stepM2 rfl rfl ?_ (fun w1 hS => ?_) (fun K hK => ?_)
        rotate_left
        focus (obtain rfl : w1 = _ := hS; go_simp; rfl)
        go_simp
        refine hK _ ?_
        clear hK K
        refine stepM0 rfl rfl (fun K hK => ?_)
        go_simp
        refine hK _ ?_
        clear hK K
        refine stepM0 rfl rfl (fun K hK => ?_)
        go_simp
        refine hK _ ?_
        clear hK K
        refine stepM0 rfl rfl (fun K hK => ?_)
        go_simp
        refine hK _ ?_
        clear hK K
        try refine stepMnil0 ?_
        go_wp2_with fail
        refine bodyPost_ret (v := ?_) ?_ rfl ?_
        rotate_left
        focus (simp [results, Tryz.results14, go_sem]; exact rfl)
        rw [HF.out]
        refine ⟨_, ys, rfl, rfl, ?_, fun y hy => HYA.out y hy _ HBW.out.drew, HBW.out.drew⟩
        rw [← HNL.out]
        exact reads_of_owns (ownsRow_below HRW.out (Below.drew (Below.refl _ _)))
      have e3 : ((nL : Int) == (m : Int)) = false := by simp; omega
      have hne := hfull
      clear hfull
      go_upto_region 8 with fail
      have HNX := Lib.hid (fun (wz : World) (hb : Below wr.heap.size wr wz) => HNW.out wz (HBW.out.trans (hb.mono (by have := HBW.out.size; omega))) xk)
      go_cut [11, 12] (fun x11 x12 wx => ∃ (bx : Nat) (E : NdE), x11 = .pointer (some ⟨bx, 0, none⟩) ∧ wr.heap.size ≤ bx ∧ Below wr.heap.size wr wx ∧ wx.heap[bx]? = some (.cells #[.int .u64 E.n.key, .int .u32 E.n.cookie, .bool E.n.gone, .slice E.a E.n.data.length E.c] 47 (0, 0)) ∧ E.n = (lastOf dd xk).getD ⟨0, 0, false, []⟩ ∧ (∀ w', Below w.heap.size w w' → NdArg w' E))
      case first =>
        focus
          obtain ⟨SS, HSD⟩ : ∃ SS : World → Prop, Hid (SS = fun w' => Below wr.heap.size wr w') := ⟨_, Lib.hid rfl⟩
          refine wp_region_mask0 SS [0, 2, 6] [0, 0, 2, 0, 14, 30, 62, 127, 255, 511, 511, 0, 3071, 8191] (.op 0 2 (.op 1 0 (.op 2 2 (.op 3 0 (.op 4 0 (.op 5 0 (.op 6 2 (.two 7 (.op 8 0 (.op 9 0 (.op 10 0 (.op 11 1 (.op 12 1 (.op 13 0 .nil)))))) 11 (.op 7 1 (.op 8 0 (.op 9 0 (.op 10 0 (.op 12 1 (.op 13 0 .nil)))))))))))))) (by kernel_rfl) (by kernel_rfl) rfl (by kernel_rfl) (by kernel_rfl) ?_ ?_
          focus (rw [HSD.out]; exact Below.drew (Below.refl _ _))
          refine stepM2 rfl rfl ?_ (fun w1 hS => ?_) (fun K hK => ?_)
          rotate_left
          focus (rw [HSD.out] at hS; obtain ⟨z0, z1, z2, z3, z4, z5, z6⟩ := cells7' (blk_below' KVR.out hS); have q0 := ((bcell hS).1 b (o + k * 5) hb).trans r0; go_simp; rfl)
          go_simp
          refine hK _ ?_
          clear hK K
          refine stepM0 rfl rfl (fun K hK => ?_)
          go_simp
          refine hK _ ?_
          clear hK K
          refine stepM2 rfl rfl ?_ (fun w1 hS => ?_) (fun K hK => ?_)
          rotate_left
          focus (rw [HSD.out] at hS; obtain ⟨z0, z1, z2, z3, z4, z5, z6⟩ := cells7' (blk_below' KVR.out hS); have q0 := ((bcell hS).1 b (o + k * 5) hb).trans r0; go_simp; rfl)
          go_simp
          refine hK _ ?_
          clear hK K
          refine stepM0 rfl rfl (fun K hK => ?_)
          go_simp
          refine hK _ ?_
          clear hK K
          refine stepM0 rfl rfl (fun K hK => ?_)
          go_simp
          refine hK _ ?_
          clear hK K
          refine stepM0 rfl rfl (fun K hK => ?_)
          go_simp
          refine hK _ ?_
          clear hK K
          refine stepM2 rfl rfl ?_ (fun w1 hS => ?_) (fun K hK => ?_)
          rotate_left
          focus (rw [HSD.out] at hS; obtain ⟨z0, z1, z2, z3, z4, z5, z6⟩ := cells7' (blk_below' KVR.out hS); have q0 := ((bcell hS).1 b (o + k * 5) hb).trans r0; go_simp; rfl)
          go_simp
          refine hK _ ?_
          clear hK K
          refine stepMtwo ?_ ?_ (by kernel_rfl) (by kernel_rfl)
          ·
            refine stepM1 rfl rfl (by kernel_rfl) (fun K hK => ?_)
            (go_wp2_with fail; refine (HNX.out wr.drew (Below.drew (Below.refl _ _))).mono ?_; rintro e w5 ⟨yy, rfl, hy1, hy2, hb5⟩; obtain ⟨E, hE1, hE2, hE3⟩ := ndE_of hy1; rw [hE1]; have HB5 := Lib.hid (show Below wr.heap.size wr w5 from Below.trans (Below.drew (Below.refl _ _)) (hb5.mono (Nat.le_refl _))); have HE2 := Lib.hid hE2; have HEA := Lib.hid (show ∀ w6, Below w.heap.size w w6 → NdArg w6 E from fun w6 hb6 => by (rcases hE3 with e | ⟨_, e⟩); exact HIN.out w6 hb6 E (hy2 E e); subst e; exact ⟨by simp, by simp, reads_none _ _⟩); have hz5 := HB5.out.size; clear hb5 hE1 hE2 hE3 hy1 hy2; go_wp2)
            refine stepM0 rfl rfl (fun K hK => ?_)
            go_simp
            refine hK _ ?_
            clear hK K
            refine stepM0 rfl rfl (fun K hK => ?_)
            go_simp
            refine hK _ ?_
            clear hK K
            refine stepM0 rfl rfl (fun K hK => ?_)
            go_simp
            refine hK _ ?_
            clear hK K
            refine stepM1S rfl rfl (fun K hK => ?_)
            go_wp2
            refine ⟨by rw [HSD.out]; exact ((by first | exact HB5.out.alloc hz5 _ | exact (by repeat (first | (with_reducible exact Below.refl _ _) | (with_reducible refine Below.setCell ?_ ?_ _) | (with_reducible refine Below.alloc ?_ ?_ _) | (with_reducible refine Below.drewN ?_ _) | (with_reducible refine Below.drew ?_) | (with_reducible exact Nat.le_refl _) | (focus (simp only [World.size_alloc, World.size_setCell, World.size_drew, World.size_drewN]; omega)) | omega | exact Nat.le_refl _ | (focus (simp; done)) | (focus (simp; omega)))))), ?_⟩
            refine stepM1 rfl rfl (by kernel_rfl) (fun K hK => ?_)
            go_wp2
            refine stepM0 rfl rfl (fun K hK => ?_)
            go_simp
            refine hK _ ?_
            clear hK K
            try refine stepMnil0 ?_
            clear HSD SS
            go_wp2_with fail
            go_meet
            exact ⟨w5.heap.size, E, rfl, hz5, HB5.out.alloc hz5 _, heap_new w5 _, HE2.out, HEA.out⟩
          ·
            refine stepM1S rfl rfl (fun K hK => ?_)
            go_wp2
            refine ⟨by rw [HSD.out]; exact ((by first | exact HB5.out.alloc hz5 _ | exact (by repeat (first | (with_reducible exact Below.refl _ _) | (with_reducible refine Below.setCell ?_ ?_ _) | (with_reducible refine Below.alloc ?_ ?_ _) | (with_reducible refine Below.drewN ?_ _) | (with_reducible refine Below.drew ?_) | (with_reducible exact Nat.le_refl _) | (focus (simp only [World.size_alloc, World.size_setCell, World.size_drew, World.size_drewN]; omega)) | omega | exact Nat.le_refl _ | (focus (simp; done)) | (focus (simp; omega)))))), ?_⟩
            refine stepM1 rfl rfl (by kernel_rfl) (fun K hK => ?_)
            (go_wp2_with fail; refine (HNX.out _ (by repeat (first | (with_reducible exact Below.refl _ _) | (with_reducible refine Below.setCell ?_ ?_ _) | (with_reducible refine Below.alloc ?_ ?_ _) | (with_reducible refine Below.drewN ?_ _) | (with_reducible refine Below.drew ?_) | (with_reducible exact Nat.le_refl _) | (focus (simp only [World.size_alloc, World.size_setCell, World.size_drew, World.size_drewN]; omega)) | omega | exact Nat.le_refl _ | (focus (simp; done)) | (focus (simp; omega))))).mono ?_; rintro e w5 ⟨yy, rfl, hy1, hy2, hb5⟩; obtain ⟨E, hE1, hE2, hE3⟩ := ndE_of hy1; rw [hE1]; have HB5 := Lib.hid (show Below wr.heap.size wr w5 from Below.trans (show Below wr.heap.size wr (wr.drew.alloc (.cells #[.int .u64 0, .int .u32 0, .bool false, .slice none 0 0] 47)) from (by repeat (first | (with_reducible exact Below.refl _ _) | (with_reducible refine Below.setCell ?_ ?_ _) | (with_reducible refine Below.alloc ?_ ?_ _) | (with_reducible refine Below.drewN ?_ _) | (with_reducible refine Below.drew ?_) | (with_reducible exact Nat.le_refl _) | (focus (simp only [World.size_alloc, World.size_setCell, World.size_drew, World.size_drewN]; omega)) | omega | exact Nat.le_refl _ | (focus (simp; done)) | (focus (simp; omega))))) (hb5.mono (by simp))); have KX5 := Lib.hid (show w5.heap[wr.heap.size]? = some (.cells #[.int .u64 0, .int .u32 0, .bool false, .slice none 0 0] 47 (0, 0)) from blk_below' (show (wr.drew.alloc (.cells #[.int .u64 0, .int .u32 0, .bool false, .slice none 0 0] 47)).heap[wr.heap.size]? = _ from heap_new _ _) hb5); have HE2 := Lib.hid hE2; have HEA := Lib.hid (show ∀ w6, Below w.heap.size w w6 → NdArg w6 E from fun w6 hb6 => by (rcases hE3 with e | ⟨_, e⟩); exact HIN.out w6 hb6 E (hy2 E e); subst e; exact ⟨by simp, by simp, reads_none _ _⟩); have hz5 := HB5.out.size; obtain ⟨n0, n1, n2, n3⟩ := ncells KX5.out; obtain ⟨o0, o1, o2, o3⟩ := nfree KX5.out; have hlx := blk_lt KX5.out; clear hb5 hE1 hE2 hE3 hy1 hy2; go_wp2)
            refine stepM0 rfl rfl (fun K hK => ?_)
            go_simp
            refine hK _ ?_
            clear hK K
            refine stepM0 rfl rfl (fun K hK => ?_)
            go_simp
            refine hK _ ?_
            clear hK K
            refine stepM0 rfl rfl (fun K hK => ?_)
            go_simp
            refine hK _ ?_
            clear hK K
            refine stepM1 rfl rfl (by kernel_rfl) (fun K hK => ?_)
            go_wp2
            refine stepM0 rfl rfl (fun K hK => ?_)
            go_simp
            refine hK _ ?_
            clear hK K
            try refine stepMnil0 ?_
            clear HSD SS
            go_wp2_with fail
            go_meet
            exact ⟨wr.heap.size, E, rfl, Nat.le_refl _, HB5.out.trans ((set4_keeps w5 wr.heap.size _ _ _ _).below hz5 fun j e => by rw [e]; exact Nat.le_refl _), store4 KX5.out _ _ _ _, HE2.out, HEA.out⟩
      case rest =>
        obtain ⟨bx, E, rfl, hbx, hbc, kbx, hE, hEa⟩ := hcut
        have HBC := Lib.hid hbc
        have HE := Lib.hid hE
        have HEA := Lib.hid hEa
        have HRC := Lib.hid (ownsRow_below HRW.out hbc)
        have hzc := hbc.size
        have hlbx := blk_lt kbx
        obtain ⟨p0, p1, p2, p3⟩ := ncells kbx
        clear hbc kbx hE hEa v0 v1 v2 v3 v4 v5 v6 r0
        go_wp2_with (at_builtin; refine wpList_append_lies _ rfl _ _ 28 rfl w0.heap.size 47 i0 (.agg #[.int .u64 0, .int .u32 0, .bool false, .slice none 0 0]) 4 40 Tryz.underlying28 HI.out HZ0.out HZ1.out HZ2.out rfl (by decide) (.slice aL nL cL) nL (ys.flatMap NdE.cs) rfl (ownsRow_below HRC.out (by repeat (first | (with_reducible exact Below.refl _ _) | (with_reducible refine Below.setCell ?_ ?_ _) | (with_reducible refine Below.alloc ?_ ?_ _) | (with_reducible refine Below.drewN ?_ _) | (with_reducible refine Below.drew ?_) | (with_reducible exact Nat.le_refl _) | (focus (simp only [World.size_alloc, World.size_setCell, World.size_drew, World.size_drewN]; omega)) | omega | exact Nat.le_refl _ | (focus (simp; done)) | (focus (simp; omega))))) ⟨wc.heap.size, 0, none⟩ 1 1 [.int .u64 E.n.key, .int .u32 E.n.cookie, .bool E.n.gone, .slice E.a E.n.data.length E.c] rfl rfl (World.news_of_block (cs := #[.int .u64 E.n.key, .int .u32 E.n.cookie, .bool E.n.gone, .slice E.a E.n.data.length E.c]) (t := 47) (fr := (0, 0)) (heap_new wc _)) (by simp [Value.oneCell']) (by omega) (by unfold maxLen; omega) (by omega) (by simp; omega) _ rfl ?_; intro g' cap' w6 hown hgrow hat hlt6; have HG6 := Lib.hid hgrow; have HO6 := Lib.hid hown; have hz6 := hgrow.size; simp only [World.size_alloc] at hz6; clear hgrow hown hat)
        go_roundg (ln + 1 - (k + 1))
        case measure => omega
        case rel =>
          refine ⟨k + 1, some ⟨g', 0, none⟩, nL + 1, cap', ys ++ [E], by omega, rfl, by go_num, rfl, by simp [HNL.out], by omega, by omega, ?_, ?_, ?_, ?_⟩
          · rw [td_more HX2.out HLW.out, List.map_append, List.map_append, HYS.out]
            congr 1
            show [E.n] = [ndAt dd _]
            unfold ndAt
            rw [HE.out]
          · intro y hy
            rcases List.mem_append.1 hy with hy | hy
            · exact HYA.out y hy
            · obtain rfl := List.mem_singleton.1 hy
              exact HEA.out
          · refine ownsRow_cast HO6.out rfl ?_
            rw [List.flatMap_append]
            simp [NdE.cs]
          · exact Below.grown ((HBR.out.trans (HBC.out.mono hzr)).alloc (Nat.le_trans hzr hzc) _) HG6.out (by simp; omega) (fun g e => (HRC.out.lt g e).1)
    · have hj1 : ¬ (k : Int) < (ln : Int) := by omega
      have hj2 : decide ((k : Int) < (ln : Int)) = false := by simp; omega
      have hj3 : decide (k < ln) = false := by simp; omega
      have HF := Lib.hid (show LD = ⟨ys.map NdE.n, 0, false, 0⟩ by
        have hkl : k = l.length := by rw [← HLN.out]; omega
        have h0 : (l.take k).drop X = l.drop X := by rw [hkl, List.take_length]
        have h1 := HLEN.out
        rw [h0, List.length_drop] at h1
        rw [HLD.out, HYS.out, h0]
        have h2 : (l.drop X).take m = l.drop X := List.take_of_length_le (by rw [List.length_drop]; omega)
        have h3 : l[X + m]? = none := List.getElem?_eq_none (by omega)
        have h4 : decide (X + m < l.length) = false := by simp; omega
        rw [h2, h3, h4])
      go_wp2_with fail
      refine bodyPost_ret (v := ?_) ?_ rfl ?_
      rotate_left
      focus (simp [results, Tryz.results14, go_sem]; exact rfl)
      rw [HF.out]
      refine ⟨_, ys, rfl, rfl, ?_, fun y hy => HYA.out y hy _ HBW.out, HBW.out⟩
      rw [← HNL.out]
      exact reads_of_owns HRW.out
end Go.Proofs.YtmaalbbclldnpaaGreatDoor
