/- DiskPlays: the walk. -/
import Derived.Test.YtcicnjlkcbimgaaDpSame07
namespace Go.Proofs.Ytcicnjlkcbimgaa
open Go.RowKit Go.Maps
theorem far_no7 {l : List AArg} (h : farB l = false) : l.length ≤ 60 ∧ ∀ x ∈ l, badAct x = false := by
  unfold farB at h
  simp only [Bool.or_eq_false_iff, decide_eq_false_iff_not, List.any_eq_false] at h
  exact ⟨by omega, fun x hx => by have := h.2 x hx; simpa using this⟩
theorem act_ok7 {w : World} {x : AArg} (h : AOk w x) (hb : badAct x = false) : Dk.ok x.a ∧ x.a.b.length ≤ 300 ∧ (0 ≤ x.a.kind ∧ x.a.kind ≤ 11) ∧ -9223372036854775808 ≤ x.a.n := by
  unfold badAct at hb
  simp at hb
  exact ⟨⟨h.name, h.to, h.n.2, h.m.2, by omega, h.pn.1, h.pn.2, h.pf⟩, by omega, by omega, h.n.1⟩
theorem srt_get {l : Dir} (h : Srt l) {s : Nm} {f : Nat} (hx : (s, f) ∈ l) : dirGet l s = some f := by
  refine get_of_mem (h.imp fun {a b} e e2 => ?_) hx
  rw [e2, Go.WideAt.bytes_irrefl] at e
  cases e
theorem read_all {st : Dk} (ha : st.armed ≠ 0) {s : Nm} {f : Nat} (hg : dirGet st.now s = some f) : st.read s 0 (st.fileAt f).b.length = (0, (st.fileAt f).b) := by
  unfold Dk.read
  rw [fnd_some ha hg]
  simp
set_option maxRecDepth 100000 in
set_option maxHeartbeats 8000000 in
theorem plays_any (c : Nat) (hc : c ≤ 1073741824) (a : Option Addr) (n ca : Nat) (l : List AArg) (w : World) (hl : l.length = n) (hr : Reads w 8 (.slice a n ca) n (l.flatMap AArg.row)) (hok : ∀ x ∈ l, AOk w x) (hfar : farB l = false) :
    Calls Try.prog 5 #[.int .i64 c, .slice a n ca] w fun e w' => e = .returned (.bool true) ∧ Below w.heap.size w w' := by
  have hc0 : decide ((c : Int) < 0) = false := by simp
  have hc1 : decide ((1073741824 : Int) < (c : Int)) = false := by simp; omega
  have hc2 : (c : Int) ≤ 1073741824 := by omega
  have HL := Lib.hid hl
  have HR := Lib.hid hr
  have HOK := Lib.hid hok
  obtain ⟨hn60, hbad⟩ := far_no7 hfar
  rw [HL.out] at hn60
  have HBAD := Lib.hid hbad
  have HFAR := Lib.hid hfar
  clear hbad hfar hl hr hok
  go_enter Try.func5, Try.ntmps5
  go_wp2_with fail
  refine (alive07 _).mono ?_
  rintro e w1 ⟨rfl, hb1⟩
  have HB1 := Lib.hid hb1
  have hz1 := hb1.size
  clear hb1
  go_wp2_with fail
  refine (far_any a n ca l _ HL.out (HR.out.below HB1.out)).mono ?_
  rintro e w2 ⟨rfl, rfl⟩
  rw [HFAR.out]
  go_wp2_with fail
  refine (new_ds c hc _).mono ?_
  rintro e w2 ⟨rfl, hd2, hb2, hz2⟩
  have HD2 := Lib.hid hd2
  have HB2 := Lib.hid hb2
  clear hd2 hb2
  go_wp2_with fail
  refine (ref07_new c _).mono ?_
  rintro e w3 ⟨rfl, hb3⟩
  have HD3 := Lib.hid (HD2.out.below hb3)
  have HB3 := Lib.hid (HB2.out.trans (hb3.mono (by omega)))
  have hz3 := HB3.out.size
  clear hb3
  go_wp2_with fail
  obtain ⟨w4, hw4⟩ : ∃ w4 : World, w4 = w3.alloc (.cells #[.int .i64 c, .slice none 0 0, .slice none 0 0, .slice none 0 0, .slice none 0 0, .int .i64 (-1)] 64) := ⟨_, rfl⟩
  have hz4 : w4.heap.size = w3.heap.size + 1 := by rw [hw4]; simp
  have hb34 : Below w3.heap.size w3 w4 := by rw [hw4]; exact Below.alloc (Below.refl _ _) (Nat.le_refl _) _
  have HR4 := Lib.hid (show RefAt w4 w3.heap.size (fun k => k = w3.heap.size) (Dk.new c) from ref_empty (by rw [hw4]; exact heap_new w3 _))
  have HD4 := Lib.hid (show DS w4 (w1.heap.size + 2) (fun k => k < w1.heap.size ∨ k = w3.heap.size) 0 (Dk.new c) from HD3.out.later hb34 fun k hk => hk.imp id fun e => Nat.le_of_eq e.symm)
  have HB4 := Lib.hid (HB3.out.trans (hb34.mono hz3))
  obtain ⟨bm, hbm⟩ : ∃ bm, bm = w3.heap.size := ⟨_, rfl⟩
  rw [← hw4]
  rw [← hbm] at HR4 HD4 ⊢
  have hbm4 : bm < w4.heap.size := by omega
  have hbm1 : w1.heap.size ≤ bm := by omega
  clear hw4 hb34 hbm
  go_wp2_with fail
  go_loopw [8] (fun i wr => ∃ (k : Nat) (st : Dk) (M : Nat → Prop), k ≤ n ∧ i = .int .i64 k ∧ DS wr (w1.heap.size + 2) (fun q => q < w1.heap.size ∨ M q) k st ∧ RefAt wr bm M st ∧ DkS st ∧ (∀ q, M q → w1.heap.size ≤ q ∧ q < wr.heap.size) ∧ Below w1.heap.size w1 wr) (fun i _ => n - (intOf i).toNat)
  case atStart => exact ⟨0, Dk.new c, fun q => q = bm, Nat.zero_le _, rfl, HD4.out, HR4.out, DkS.new c, fun q hq => by rw [hq]; exact ⟨hbm1, hbm4⟩, HB4.out⟩
  case round =>
    obtain ⟨k, st, M, hk, rfl, hd, hm, hks, hM, hbr⟩ := hrel
    have HD := Lib.hid hd
    have HM := Lib.hid hm
    have HKS := Lib.hid hks
    have HMM := Lib.hid hM
    have HBR := Lib.hid hbr
    have hzr := hbr.size
    have HBW := Lib.hid (HB1.out.trans (hbr.mono hz1))
    clear hd hm hks hM hbr
    by_cases hlt : k < n
    · obtain ⟨x, hx⟩ : ∃ x, l[k]? = some x := ⟨_, List.getElem?_eq_getElem (by rw [HL.out]; exact hlt)⟩
      have hxm := List.mem_of_getElem? hx
      have HAO := Lib.hid (HOK.out x hxm)
      have HAK := Lib.hid (act_ok7 (HOK.out x hxm) (HBAD.out x hxm))
      have HXX := Lib.hid hx
      obtain ⟨b, o, cc, e, hbl, y0, y1, y2, y3, y4, y5, y6, y7⟩ := act_cells (HR.out.below HBW.out) hx (by omega)
      obtain ⟨rfl, -, rfl⟩ := sl_inj e
      have hk0 : (0 : Int) ≤ (k : Int) := by omega
      have hk1 : (k : Int) < (n : Int) := by omega
      clear hx e hxm
      obtain ⟨⟨kd, nm, to, bs, nn, mm, ⟨pn, fs⟩⟩, ab, cb, af', cf'⟩ := x
      simp only at y0 y1 y2 y3 y4 y5 y6 y7
      go_wp2_with fail
      have hao := HAO.out.below HBW.out
      refine (do07_any HD.out (fun q hq => hq.elim (fun h => by omega) fun h => (HMM.out q h).2) (by omega) ⟨kd, nm, to, bs, nn, mm, ⟨pn, fs⟩⟩ HAK.out.1 ab af' cb cf' hao.rb hao.rf).mono ?_
      clear hao y0 y1 y2 y3 y4 y5 y6 y7
      rintro e w5 ⟨v5, rfl, ho5, hd5, hk5⟩
      obtain ⟨a5, c5, rfl⟩ := ownsRow_len ho5
      have HO5 := Lib.hid ho5
      have HD5 := Lib.hid hd5
      have hb5 : Below w1.heap.size wr w5 := hk5.below (by omega) fun q hq => .inl hq
      have HB5 := Lib.hid (HBR.out.trans hb5)
      have HBW5 := Lib.hid (HBW.out.trans (hb5.mono hz1))
      have HM5 := Lib.hid (HM.out.kp hk5 fun q hq => .inr hq)
      have hz5 := hb5.size
      have hzr5 := hk5.size
      clear ho5 hd5 hk5 hb5
      obtain ⟨b2, o2, cc2, e, hbl2, y0, y1, y2, y3, y4, y5, y6, y7⟩ := act_cells (HR.out.below HBW5.out) HXX.out (by omega)
      obtain ⟨e, -, -⟩ := sl_inj e
      simp only [Option.some.injEq, Addr.mk.injEq, and_true] at e
      obtain ⟨rfl, rfl⟩ := e
      simp only at y0 y1 y2 y3 y4 y5 y6 y7
      go_wp2_with fail
      have hao := HAO.out.below HBW5.out
      refine (rdo_any bm k M st ⟨kd, nm, to, bs, nn, mm, ⟨pn, fs⟩⟩ ab af' cb cf' _ HM5.out HD.out.ok (by omega) HKS.out (fun q hq => by have := (HMM.out q hq).2; omega) HAK.out.1 HAK.out.2.2.1 HAK.out.2.1 HAK.out.2.2.2 hao.rb (fun w' hk => (HAO.out.below (HBW5.out.trans ((Keeps.below hk (B := w1.heap.size) (by omega) fun q hq => (HMM.out q hq).1).mono hz1))).rf)).mono ?_
      clear hao y0 y1 y2 y3 y4 y5 y6 y7
      have HKS' := Lib.hid (HKS.out.call ⟨kd, nm, to, bs, nn, mm, ⟨pn, fs⟩⟩)
      rintro e w6 hR
      obtain ⟨st', hst'⟩ : ∃ st', st' = (st.call ⟨kd, nm, to, bs, nn, mm, ⟨pn, fs⟩⟩).2 := ⟨_, rfl⟩
      obtain ⟨r, hr⟩ : ∃ r, r = (st.call ⟨kd, nm, to, bs, nn, mm, ⟨pn, fs⟩⟩).1 := ⟨_, rfl⟩
      obtain ⟨sn, hsn⟩ : ∃ sn, sn = st.callN ⟨kd, nm, to, bs, nn, mm, ⟨pn, fs⟩⟩ := ⟨_, rfl⟩
      obtain ⟨xs, hxs⟩ : ∃ xs, xs = st.callB ⟨kd, nm, to, bs, nn, mm, ⟨pn, fs⟩⟩ := ⟨_, rfl⟩
      rw [← hst', ← hr, ← hsn, ← hxs] at hR
      rw [← hst'] at HD5 HKS'
      rw [← hxs] at HO5
      rw [← hr, ← hsn, ← hxs]
      clear hst' hr hsn hxs
      obtain ⟨v6, rfl, hr6, hm6, hk6⟩ := hR
      have HO6 := Lib.hid (show w6.ownsRow wr.heap.size 5 1 (.slice a5 xs.length c5) xs.length (xs.map bv) from ownsRow_keeps HO5.out hk6 fun q hq e => by
        have h1 := (HO5.out.lt q hq).1
        have h2 := (HMM.out q e).2
        omega)
      have HR6 := Lib.hid hr6
      have HM6 := Lib.hid hm6
      have HD6 := Lib.hid (HD5.out.widen (Keeps.mono hk6 (G := fun q => q < w1.heap.size ∨ M q) fun q _ e => .inr e))
      have HB6 := Lib.hid (HB5.out.trans ((Keeps.below hk6 (B := w1.heap.size) (by omega) fun q hq => (HMM.out q hq).1)))
      have hz6 := hk6.size
      clear hr6 hm6 hk6
      obtain ⟨x6, hx6⟩ : ∃ v, v = v6 := ⟨_, rfl⟩
      rw [← hx6] at HR6 ⊢
      clear hx6
      go_wp2_with fail
      refine (same_any _ _ xs xs _ (reads_of_owns HO6.out) HR6.out).mono ?_
      rintro e w7 ⟨rfl, hb7⟩
      rw [decide_eq_true (rfl : xs = xs)]
      have HD7 := Lib.hid (HD6.out.below hb7)
      have HM7 := Lib.hid (HM6.out.below hb7)
      have HB7 := Lib.hid (HB6.out.trans (hb7.mono (by have := HB6.out.size; omega)))
      have hz7 := hb7.size
      clear hb7
      go_wp2_with fail
      refine (same07_any HD7.out HM7.out HD7.out.ok HKS'.out.1).mono ?_
      rintro e w8 ⟨rfl, hb8⟩
      have HD8 := Lib.hid (HD7.out.below hb8)
      have HM8 := Lib.hid (HM7.out.below hb8)
      have HB8 := Lib.hid (HB7.out.trans (hb8.mono (by have := HB7.out.size; omega)))
      have hz8 := hb8.size
      clear hb8
      go_wp2_with fail
      go_roundw
      case rel => exact ⟨k + 1, st', fun q => M q ∨ (w5.heap.size ≤ q ∧ q < w6.heap.size), by omega, by go_num, HD8.out.less (fun q hq => by
          rcases hq with h | h | h
          · exact .inl (.inl h)
          · exact .inl (.inr h)
          · exact .inr h), HM8.out, HKS'.out, fun q hq => by
          rcases hq with h | h
          · have := HMM.out q h
            omega
          · omega, HB8.out⟩
      case measure => simp [intOf]; omega
    · have hkn : decide ((k : Int) < (n : Int)) = false := by simp; omega
      obtain ⟨wo, rfl⟩ : ∃ W : World, W = wr := ⟨_, rfl⟩
      have HNK := Lib.hid HD.out.ok
      obtain ⟨vn, vl, vd, vf, fs, hblk, hen, hel, hde, hfi, hfs, hMm, hMr⟩ := HM.out
      obtain ⟨na, nc, rfl⟩ := ownsRow_len hen
      have HEN := Lib.hid hen
      have HFI := Lib.hid hfi
      have HFS := Lib.hid hfs
      have HBLK := Lib.hid hblk
      have hmlo := blk_lt hblk
      have hlen := HNK.out.lnow
      clear hblk hen hel hde hfi hfs hMm hMr
      go_wp2_with fail
      go_loopw [15] (fun i wr => ∃ j : Nat, j ≤ st.now.length ∧ i = .int .i64 j ∧ Below wo.heap.size wo wr) (fun i _ => st.now.length - (intOf i).toNat)
      case atStart => exact ⟨0, Nat.zero_le _, rfl, Below.refl _ _⟩
      case round =>
        obtain ⟨j, hj, rfl, hbr⟩ := hrel
        have HBR2 := Lib.hid hbr
        have hbm := blk_below HBLK.out hbr
        obtain ⟨m0, m1, m2, m3, m4, m5, _⟩ := cells6 hbm
        have hmlr := blk_lt hbm
        have hzr2 := hbr.size
        have HDR := Lib.hid (HD.out.below hbr)
        have HBWR := Lib.hid (HBW.out.trans (hbr.mono (by omega)))
        clear hbr hbm m0 m2 m3
        by_cases hjl : j < st.now.length
        · obtain ⟨x, hx⟩ : ∃ x, st.now[j]? = some x := ⟨_, List.getElem?_eq_getElem hjl⟩
          have hj0 : (0 : Int) ≤ (j : Int) := by omega
          have hj1 : (j : Int) < (st.now.length : Int) := by omega
          by_cases ha : st.armed = 0
          · rw [ha] at m5
            go_wp2_with fail
            go_ret
            exact ⟨rfl, HBWR.out⟩
          · have ha0 : (st.armed == 0) = false := by simpa using ha
            have ha1 : decide (st.armed = 0) = false := by simpa using ha
            obtain ⟨s, f⟩ := x
            have hmem := List.mem_of_getElem? hx
            have hfn := HNK.out.fnow _ hmem
            have hg := srt_get HKS.out.1 hmem
            have hrd := read_all ha hg
            obtain ⟨vb, hvb⟩ := files_get HFS.out hfn
            obtain ⟨gf, cg, ax, cx, rfl, ex, hfl, hgf, z0, z1⟩ := (show RFiles wo M vf fs from HFI.out).pair hvb
            simp only at ex
            subst ex
            have HXR := Lib.hid (HFI.out.2 _ (List.mem_of_getElem? hvb)).1
            obtain ⟨g, cn, e, _, hgl, x0, x1⟩ := ents_cell HEN.out hx
            obtain ⟨rfl, -, rfl⟩ := sl_inj e
            have y0 := (HBR2.out.cell (p := ⟨g, j * 2, none⟩) hgl).trans x0
            have y1 := (HBR2.out.cell (p := ⟨g, j * 2 + 1, none⟩) hgl).trans x1
            have q0 := (HBR2.out.cell (p := ⟨gf, f * 2, none⟩) hgf).trans z0
            have hgl2 : g < wr.heap.size := by omega
            have hgf2 : gf < wr.heap.size := by omega
            have hf0 : (0 : Int) ≤ (f : Int) := by omega
            have hf1 : (f : Int) < (fs.length : Int) := by omega
            have hbl24 := (HNK.out.at f).2
            have HRD := Lib.hid hrd
            have hsl : s.length ≤ maxLen := by
              obtain ⟨F, qq, h1, _, _⟩ := HD.out
              exact dir_keys h1.now (s, f) hmem
            have HSL := Lib.hid hsl
            simp only at y0 y1
            clear hx e hvb x0 x1 z0 z1 hmem hg hrd hfn hsl ha
            go_wp2_with fail
            refine wp_region_now0 [1, 3, 7, 10] [(0, 0), (1, 2), (2, 0), (3, 2), (4, 0), (5, 0), (6, 0), (7, 2), (8, 0), (9, 0), (10, 2), (11, 0)] (by kernel_rfl) (by kernel_rfl) rfl (by kernel_rfl) ?_
            refine stepE0 rfl rfl (fun K hK => ?_)
            go_simp
            refine hK _ ?_
            clear hK K
            refine stepE2 rfl rfl ?_ (fun w1 hS => ?_) (fun K hK => ?_)
            rotate_left
            focus (obtain rfl : w1 = _ := hS; go_simp; rfl)
            go_simp
            refine hK _ ?_
            clear hK K
            refine stepE0 rfl rfl (fun K hK => ?_)
            go_simp
            refine hK _ ?_
            clear hK K
            refine stepE2 rfl rfl ?_ (fun w1 hS => ?_) (fun K hK => ?_)
            rotate_left
            focus (obtain rfl : w1 = _ := hS; go_simp; rfl)
            go_simp
            refine hK _ ?_
            clear hK K
            refine stepE0 rfl rfl (fun K hK => ?_)
            go_simp
            refine hK _ ?_
            clear hK K
            refine stepE0 rfl rfl (fun K hK => ?_)
            go_simp
            refine hK _ ?_
            clear hK K
            refine stepE0 rfl rfl (fun K hK => ?_)
            go_simp
            refine hK _ ?_
            clear hK K
            refine stepE2 rfl rfl ?_ (fun w1 hS => ?_) (fun K hK => ?_)
            rotate_left
            focus (obtain rfl : w1 = _ := hS; go_simp; rfl)
            go_simp
            refine hK _ ?_
            clear hK K
            refine stepE0 rfl rfl (fun K hK => ?_)
            go_simp
            refine hK _ ?_
            clear hK K
            refine stepE0 rfl rfl (fun K hK => ?_)
            go_simp
            refine hK _ ?_
            clear hK K
            refine stepE2 rfl rfl ?_ (fun w1 hS => ?_) (fun K hK => ?_)
            rotate_left
            focus (obtain rfl : w1 = _ := hS; go_simp; rfl)
            go_simp
            refine hK _ ?_
            clear hK K
            refine stepE0 rfl rfl (fun K hK => ?_)
            go_simp
            refine hK _ ?_
            clear hK K
            try refine stepEnil0 ?_
            go_wp2_with fail
            refine (read_ds (HDR.out.below (by repeat (first | (with_reducible exact Below.refl _ _) | (with_reducible refine Below.setCell ?_ ?_ _) | (with_reducible refine Below.alloc ?_ ?_ _) | (with_reducible refine Below.drewN ?_ _) | (with_reducible refine Below.drew ?_) | (with_reducible exact Nat.le_refl _) | (focus (simp only [World.size_alloc, World.size_setCell, World.size_drew, World.size_drewN]; omega)) | omega | exact Nat.le_refl _ | (focus (simp; done)) | (focus (simp; omega))))) s 0 (st.fileAt f).b.length HSL.out (by omega) (by omega)).mono ?_
            rintro e w5 hR
            rw [HRD.out] at hR
            obtain ⟨v5, rfl, ho5, hb5⟩ := hR
            obtain ⟨a5, c5, rfl⟩ := ownsRow_len ho5
            have HO5 := Lib.hid ho5
            have HB5 := Lib.hid (HBR2.out.trans ((show Below wr.heap.size wr w5 from Below.trans (by repeat (first | (with_reducible exact Below.refl _ _) | (with_reducible refine Below.setCell ?_ ?_ _) | (with_reducible refine Below.alloc ?_ ?_ _) | (with_reducible refine Below.drewN ?_ _) | (with_reducible refine Below.drew ?_) | (with_reducible exact Nat.le_refl _) | (focus (simp only [World.size_alloc, World.size_setCell, World.size_drew, World.size_drewN]; omega)) | omega | exact Nat.le_refl _ | (focus (simp; done)) | (focus (simp; omega)))) (hb5.mono (by simp))).mono hzr2))
            clear ho5 hb5
            go_wp2_with fail
            refine (code0 _).mono ?_
            rintro e w6 ⟨rfl, rfl⟩
            go_wp2_with fail
            refine (same_any _ _ (st.fileAt f).b (st.fileAt f).b _ (reads_of_owns (ownsRow_below HXR.out HB5.out)) (reads_of_owns HO5.out)).mono ?_
            rintro e w7 ⟨rfl, hb7⟩
            rw [decide_eq_true (rfl : (st.fileAt f).b = (st.fileAt f).b)]
            have HB7 := Lib.hid (HB5.out.trans (hb7.mono (by have := HB5.out.size; omega)))
            clear hb7
            go_wp2_with fail
            go_roundw
            case rel => exact ⟨j + 1, by omega, by go_num, HB7.out⟩
            case measure => simp [intOf]; omega
        · have hjn : decide ((j : Int) < (st.now.length : Int)) = false := by simp; omega
          have hjn2 : decide (j < st.now.length) = false := by simp; omega
          go_wp2_with fail
          go_ret
          exact ⟨rfl, HBWR.out⟩
set_option maxRecDepth 100000 in
set_option maxHeartbeats 2000000 in
theorem plays_bad (c : Int) (hc : c < 0 ∨ 1073741824 < c) (a : Option Addr) (n ca : Nat) (l : List AArg) (w : World) (hl : l.length = n) (hr : Reads w 8 (.slice a n ca) n (l.flatMap AArg.row)) (hfar : farB l = false) :
    Calls Try.prog 5 #[.int .i64 c, .slice a n ca] w fun e w' => e = .returned (.bool true) ∧ Below w.heap.size w w' := by
  have HL := Lib.hid hl
  have HR := Lib.hid hr
  have HFAR := Lib.hid hfar
  have HC := Lib.hid hc
  clear hfar hl hr hc
  go_enter Try.func5, Try.ntmps5
  go_wp2_with fail
  refine (alive07 _).mono ?_
  rintro e w1 ⟨rfl, hb1⟩
  have HB1 := Lib.hid hb1
  clear hb1
  go_wp2_with fail
  refine (far_any a n ca l _ HL.out (HR.out.below HB1.out)).mono ?_
  rintro e w2 ⟨rfl, rfl⟩
  rw [HFAR.out]
  go_wp2_with fail
  refine (new_bad c HC.out _).mono ?_
  rintro e w2 ⟨rfl, rfl⟩
  by_cases h0 : c < 0
  · go_wp2_with fail
    refine (code_any 1 (by omega) (by omega) _).mono ?_
    rintro e w3 ⟨rfl, rfl⟩
    go_wp2_with fail
    go_ret
    exact ⟨rfl, HB1.out⟩
  · have h1 : decide (c < 0) = false := by simp; omega
    have h2 : (1073741824 : Int) < c := by have := HC.out; omega
    go_wp2_with fail
    refine (code_any 1 (by omega) (by omega) _).mono ?_
    rintro e w3 ⟨rfl, rfl⟩
    go_wp2_with fail
    go_ret
    exact ⟨rfl, HB1.out⟩
set_option maxRecDepth 100000 in
set_option maxHeartbeats 2000000 in
theorem plays_far (c : Int) (a : Option Addr) (n ca : Nat) (l : List AArg) (w : World) (hl : l.length = n) (hr : Reads w 8 (.slice a n ca) n (l.flatMap AArg.row)) (hfar : farB l = true) :
    Calls Try.prog 5 #[.int .i64 c, .slice a n ca] w fun e w' => e = .returned (.bool true) ∧ Below w.heap.size w w' := by
  have HL := Lib.hid hl
  have HR := Lib.hid hr
  have HFAR := Lib.hid hfar
  clear hfar hl hr
  go_enter Try.func5, Try.ntmps5
  go_wp2_with fail
  refine (alive07 _).mono ?_
  rintro e w1 ⟨rfl, hb1⟩
  have HB1 := Lib.hid hb1
  clear hb1
  go_wp2_with fail
  refine (far_any a n ca l _ HL.out (HR.out.below HB1.out)).mono ?_
  rintro e w2 ⟨rfl, rfl⟩
  rw [HFAR.out]
  go_wp2_with fail
  go_ret
  exact ⟨rfl, HB1.out⟩
end Go.Proofs.Ytcicnjlkcbimgaa
