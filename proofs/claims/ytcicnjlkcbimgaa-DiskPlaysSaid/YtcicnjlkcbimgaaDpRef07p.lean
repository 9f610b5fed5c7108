/- corncribref07: (*Disk).crash, all. Written by genref07c.py. -/
import Derived.Test.YtcicnjlkcbimgaaDpRef07o
import Derived.LoopTactic
namespace Go.Proofs.Ytcicnjlkcbimgaa
open Go.RowKit Go.Maps
set_option maxRecDepth 100000 in
set_option maxHeartbeats 16000000 in
theorem rcrash_all (m N : Nat) (M : Nat → Prop) (st : Dk) (p : DPicks) (af : Option Addr) (cf : Nat) (w : World) (h : RefAt w m M st) (hok : DkOk N st) (hN : N ≤ 4096) (hks : ∀ x ∈ st.deeds, x.kind ≤ 2) (hMl : ∀ k, M k → k < w.heap.size)
    (hp : ∀ w', Keeps M w w' → Reads w' 2 (.slice af p.files.length cf) p.files.length (p.files.flatMap DPick.row)) (hnf : p.files.length ≤ 1000) (hn1 : -9223372036854775808 ≤ p.names) (hn2 : p.names ≤ 9223372036854775807) (hpk : ∀ x ∈ p.files, PickOk x) (hle : st.deeds.length ≤ p.names.toNat) :
    Calls Try.prog 46 #[(.pointer (some ⟨m, 0, none⟩)), .agg #[.int .i64 p.names, .slice af p.files.length cf]] w fun e w' => e = .returned (.tuple #[]) ∧ RTo w w' m M (st.crash p) := by
  have H := Lib.hid h
  have HOK := Lib.hid hok
  have HKS := Lib.hid hks
  have HML := Lib.hid hMl
  have HP := Lib.hid hp
  have HPK := Lib.hid hpk
  obtain ⟨i0, hi, hz0, hz1, hz2⟩ := info_parts byteT_info
  have HI := Lib.hid hi
  have HZ0 := Lib.hid hz0
  have HZ1 := Lib.hid hz1
  have HZ2 := Lib.hid hz2
  have hnd : st.deeds.length ≤ 4096 := Nat.le_trans hok.nd hN
  have hnfl : st.files.length ≤ 4096 := Nat.le_trans hok.nf hN
  obtain ⟨k, hk⟩ : ∃ k, k = st.deeds.length := ⟨_, rfl⟩
  have hkd : k ≤ st.deeds.length := by omega
  have hkn : k ≤ p.names.toNat := by omega
  have HLD := Lib.hid (show st.lastDir p = deedsApp (st.deeds.take k) st.lasting by
    unfold Dk.lastDir
    rw [hk]
    rw [List.take_of_length_le (by omega), List.take_of_length_le (Nat.le_refl _)])
  have HK := Lib.hid hk
  have HLE := Lib.hid hle
  have hml : m < w.heap.size := by obtain ⟨_, _, _, _, _, h1, _⟩ := h; exact blk_lt h1
  have HMM := Lib.hid (show M m by obtain ⟨_, _, _, _, _, _, _, _, _, _, _, h1, _⟩ := h; exact h1)
  clear h hok hks hMl hp hpk hi hz0 hz1 hz2 hk hle
  go_enter Try.func46, Try.ntmps46
  go_wp2_with fail
  obtain ⟨w1, hw1⟩ : ∃ w1 : World, w1 = w.alloc (.cells #[.int .i64 p.names, .slice af p.files.length cf] 25) := ⟨_, rfl⟩
  have HB1 := Lib.hid (show Below w.heap.size w w1 by rw [hw1]; exact (by repeat (first | (with_reducible exact Below.refl _ _) | (with_reducible refine Below.setCell ?_ ?_ _) | (with_reducible refine Below.alloc ?_ ?_ _) | (with_reducible refine Below.drewN ?_ _) | (with_reducible refine Below.drew ?_) | (with_reducible exact Nat.le_refl _) | (focus (simp only [World.size_alloc, World.size_setCell, World.size_drew, World.size_drewN]; omega)) | omega | exact Nat.le_refl _ | (focus (simp; done)) | (focus (simp; omega)))))
  have HBX := Lib.hid (show w1.heap[w.heap.size]? = some (.cells #[.int .i64 p.names, .slice af p.files.length cf] 25 (0, 0)) by rw [hw1]; exact heap_new w _)
  have hz1 : w1.heap.size = w.heap.size + 1 := by rw [hw1]; simp
  rw [← hw1]
  clear hw1
  go_loopw [4] (fun i wr => ∃ j : Nat, j ≤ k ∧ i = .int .i64 j ∧ RTo w1 wr m M { st with lasting := deedsApp (st.deeds.take j) st.lasting }) (fun i _ => k - (intOf i).toNat)
  case atStart => exact ⟨0, Nat.zero_le _, rfl, RTo.refl (H.out.below HB1.out)⟩
  case round =>
    obtain ⟨j, hj, rfl, ht⟩ := hrel
    have HT := Lib.hid ht
    have hzr := ht.2.size
    have hbx := (ht.2.block w.heap.size (by omega) (fun e => by have := HML.out _ e; omega)).trans HBX.out
    obtain ⟨b0, b1, _⟩ := blk2 hbx
    have hbl := blk_lt hbx
    have HBXR := Lib.hid hbx
    obtain ⟨la, hla⟩ : ∃ x, x = deedsApp (st.deeds.take j) st.lasting := ⟨_, rfl⟩
    have hll : la.length ≤ 64 := by rw [hla]; exact HOK.out.hist j
    obtain ⟨vn, vl, vd, vf, fs, hblk, hen, hel, hde, hfi, hfs, hM, hMr⟩ := ht.1
    simp only at hblk hen hel hde hfs
    rw [← hla] at hel
    obtain ⟨al, cl, rfl⟩ := ownsRow_len hel
    obtain ⟨ad, cd, rfl⟩ := ownsRow_len hde
    have HEN := Lib.hid hen
    have HEL := Lib.hid hel
    have HDE := Lib.hid hde
    have HFI := Lib.hid hfi
    have HFS := Lib.hid hfs
    have HBLK := Lib.hid hblk
    have HMR := Lib.hid hMr
    have HLA := Lib.hid hla
    have hmr := blk_lt hblk
    obtain ⟨c0, c1, c2, c3, c4, c5, _⟩ := cells6 hblk
    clear ht hbx hblk hen hel hde hfi hfs hM hMr hla c0 c1 c4 c5
    by_cases hlt : j < k
    · obtain ⟨x, hx⟩ : ∃ x, st.deeds[j]? = some x := ⟨_, List.getElem?_eq_getElem (by omega)⟩
      have hxk := HKS.out x (List.mem_of_getElem? hx)
      obtain ⟨g, c, e, _, hgl, x0, x1, x2, x3⟩ := deeds_cell HDE.out hx
      obtain ⟨rfl, -, rfl⟩ := sl_inj e
      have HS := Lib.hid (deedsApp_snoc st.deeds j x st.lasting hx)
      have hj0 : (0 : Int) ≤ (j : Int) := by omega
      have hj1 : (j : Int) < (st.deeds.length : Int) := by omega
      have hj2 : (j : Int) < p.names := by omega
      obtain ⟨kd, fr, to, fl⟩ := x
      simp only at x0 x1 x2 x3 hxk
      clear hx e
      go_wp2_with fail
      refine wp_region_now0 [4, 8, 11] [(0, 0), (1, 0), (2, 0), (3, 0), (4, 2), (5, 0), (6, 0), (7, 0), (8, 2), (9, 0), (10, 0), (11, 2), (12, 1), (13, 0), (14, 0), (15, 1)] (by kernel_rfl) (by kernel_rfl) rfl (by kernel_rfl) ?_
      refine stepE0 rfl rfl (fun K hK => ?_)
      go_simp
      refine hK _ ?_
      clear hK K
      refine stepE0 rfl rfl (fun K hK => ?_)
      go_simp
      refine hK _ ?_
      clear hK K
      refine stepE0 rfl rfl (fun K hK => ?_)
      go_simp
      refine hK _ ?_
      clear hK K
      refine stepE0 rfl rfl (fun K hK => ?_)
      go_simp
      refine hK _ ?_
      clear hK K
      refine stepE2 rfl rfl ?_ (fun w1 hS => ?_) (fun K hK => ?_)
      rotate_left
      focus (obtain rfl : w1 = _ := hS; go_simp; rfl)
      go_simp
      refine hK _ ?_
      clear hK K
      refine stepE0 rfl rfl (fun K hK => ?_)
      go_simp
      refine hK _ ?_
      clear hK K
      refine stepE0 rfl rfl (fun K hK => ?_)
      go_simp
      refine hK _ ?_
      clear hK K
      refine stepE0 rfl rfl (fun K hK => ?_)
      go_simp
      refine hK _ ?_
      clear hK K
      refine stepE2 rfl rfl ?_ (fun w1 hS => ?_) (fun K hK => ?_)
      rotate_left
      focus (obtain rfl : w1 = _ := hS; go_simp; rfl)
      go_simp
      refine hK _ ?_
      clear hK K
      refine stepE0 rfl rfl (fun K hK => ?_)
      go_simp
      refine hK _ ?_
      clear hK K
      refine stepE0 rfl rfl (fun K hK => ?_)
      go_simp
      refine hK _ ?_
      clear hK K
      refine stepE2 rfl rfl ?_ (fun w1 hS => ?_) (fun K hK => ?_)
      rotate_left
      focus (obtain rfl : w1 = _ := hS; go_simp; rfl)
      go_simp
      refine hK _ ?_
      clear hK K
      refine stepE1 rfl rfl (by kernel_rfl) (fun K hK => ?_)
      (go_wp2_with fail; refine Calls.mono (turn07_any al la.length cl la ⟨kd, fr, to, fl⟩ hxk _ rfl ((reads_of_owns HEL.out).below (by repeat (first | (with_reducible exact Below.refl _ _) | (with_reducible refine Below.setCell ?_ ?_ _) | (with_reducible refine Below.alloc ?_ ?_ _) | (with_reducible refine Below.drewN ?_ _) | (with_reducible refine Below.drew ?_) | (with_reducible exact Nat.le_refl _) | (focus (simp only [World.size_alloc, World.size_setCell, World.size_drew, World.size_drewN]; omega)) | omega | exact Nat.le_refl _ | (focus (simp; done)) | (focus (simp; omega))))) (by omega)) ?_; rintro e w2 ⟨v2, rfl, ho2, hb2⟩; obtain ⟨a2, c2', rfl⟩ := ownsRow_len ho2; have HO2 := Lib.hid ho2; have HB2 := Lib.hid (show Below wr.heap.size wr w2 from Below.trans (by repeat (first | (with_reducible exact Below.refl _ _) | (with_reducible refine Below.setCell ?_ ?_ _) | (with_reducible refine Below.alloc ?_ ?_ _) | (with_reducible refine Below.drewN ?_ _) | (with_reducible refine Below.drew ?_) | (with_reducible exact Nat.le_refl _) | (focus (simp only [World.size_alloc, World.size_setCell, World.size_drew, World.size_drewN]; omega)) | omega | exact Nat.le_refl _ | (focus (simp; done)) | (focus (simp; omega)))) (hb2.mono (by simp))); clear ho2 hb2; have hm2 := blk_below HBLK.out HB2.out; obtain ⟨t0, t1, t2, t3, t4, t5, tf⟩ := cells6 hm2; have tf2 := tf 2; have hml2 := blk_lt hm2; clear tf; go_wp2)
      refine stepE0 rfl rfl (fun K hK => ?_)
      go_simp
      refine hK _ ?_
      clear hK K
      refine stepE0 rfl rfl (fun K hK => ?_)
      go_simp
      refine hK _ ?_
      clear hK K
      refine stepE1 rfl rfl (by kernel_rfl) (fun K hK => ?_)
      go_wp2
      try refine stepEnil0 ?_
      have HR := Lib.hid (rfix2 (M := fun k => M k ∨ (w1.heap.size ≤ k ∧ k < wr.heap.size)) (st' := { st with lasting := (⟨kd, fr, to, fl⟩ : Deed).app la }) (w' := w2.setCell ⟨m, 2, none⟩ (.slice a2 ((⟨kd, fr, to, fl⟩ : Deed).app la).length c2')) HB2.out hm2 rfl (keeps_set 2 _) (by simpa using blk_put hm2 2 (.slice a2 ((⟨kd, fr, to, fl⟩ : Deed).app la).length c2'))
        (ownsRow_below HEN.out HB2.out) (ownsRow_mono HO2.out (Nat.zero_le _)) (ownsRow_below HDE.out HB2.out) ⟨ownsRow_below HFI.out.1 HB2.out, fun p hp => ⟨ownsRow_below (HFI.out.2 p hp).1 HB2.out, fun k e => .inl ((HFI.out.2 p hp).2 k e)⟩⟩ HFS.out (.inl HMM.out) (fun k e => by
          rcases e with e | e | e | e
          · exact .inl (HMR.out k (.inl e))
          · exact .inr ⟨by have := (HO2.out.lt k e).1; simp at this; exact this, (HO2.out.lt k e).2⟩
          · exact .inl (HMR.out k (.inr (.inr (.inl e))))
          · exact .inl (HMR.out k (.inr (.inr (.inr e))))))
      clear hm2 t0 t1 t2 t3 t4 t5 tf2
      go_wp2_with fail
      go_roundw
      case rel => exact ⟨j + 1, by omega, by go_num, by rw [HS.out, ← HLA.out]; exact HT.out.trans HR.out⟩
      case measure => simp [intOf]; omega
    · obtain rfl : j = k := by omega
      have hx1 : decide ((j : Int) < (st.deeds.length : Int)) = false := by have := HK.out; simp; omega
      have hx2 : decide (j < st.deeds.length) = false := by have := HK.out; simp; omega
      have HT0 := Lib.hid (show RTo w1 wr m M (crS st p 0) by rw [crS_zero, HLD.out]; exact HT.out)
      go_wp2_with fail
      obtain ⟨wo, rfl⟩ : ∃ wo : World, wo = wr := ⟨_, rfl⟩
      clear HT c2 c3 b0 HLA HEL HDE HFI HFS HEN HBLK HMR HBXR b1 hmr hbl

      go_loopw [5] (fun i wr => ∃ j : Nat, j ≤ (st.lastDir p).length ∧ i = .int .i64 j ∧ RTo w1 wr m M (crS st p j)) (fun i _ => (st.lastDir p).length - (intOf i).toNat)
      case atStart => exact ⟨0, Nat.zero_le _, rfl, HT0.out⟩
      case round =>
        obtain ⟨j, hj, rfl, ht⟩ := hrel
        have HT := Lib.hid ht
        have hzr := ht.2.size
        have hbx := (ht.2.block w.heap.size (by omega) (fun e => by have := HML.out _ e; omega)).trans HBX.out
        obtain ⟨b0, b1, _⟩ := blk2 hbx
        have hbl := blk_lt hbx
        have hll := last_le HOK.out p
        obtain ⟨vn, vl, vd, vf, fs, hblk, hen, hel, hde, hfi, hfs, hM, hMr⟩ := ht.1
        have hel' : REnts wr vl (st.lastDir p) := hel
        have hde' : RDeeds wr vd st.deeds := hde
        obtain ⟨la, lc, rfl⟩ := ownsRow_len hel'
        obtain ⟨da, dc, rfl⟩ := ownsRow_len hde'
        have HEN := Lib.hid hen
        have HEL := Lib.hid hel
        have HDE := Lib.hid hde
        have HFI := Lib.hid hfi
        have HFS := Lib.hid hfs
        have HMR := Lib.hid hMr
        have HM := Lib.hid (show M m ∨ (w1.heap.size ≤ m ∧ m < wr.heap.size) from .inl HMM.out)
        by_cases hlt : j < (st.lastDir p).length
        · obtain ⟨x, hx⟩ : ∃ x, (st.lastDir p)[j]? = some x := ⟨_, List.getElem?_eq_getElem hlt⟩
          have HXX := Lib.hid hx
          obtain ⟨s, f⟩ := x
          have hfn : f < st.files.length := HOK.out.lastDir p _ (List.mem_of_getElem? hx)
          obtain ⟨g0, c0', e, _, hgl0, x0, x1⟩ := ents_cell hel' hx
          obtain ⟨rfl, -, rfl⟩ := sl_inj e
          obtain ⟨vb, hvb⟩ := files_get hfs (i := f) (by rw [crS_len]; exact hfn)
          obtain ⟨gf, cg, ax, cx, rfl, ex, hfl, hgf0, y0, y1⟩ := hfi.pair hvb
          have hxr := (hfi.2 _ (List.mem_of_getElem? hvb)).1
          simp only at ex x0 x1
          subst ex
          have hfok := crS_ok HOK.out p j f
          obtain ⟨xf, hxe⟩ : ∃ xf, xf = (crS st p j).fileAt f := ⟨_, rfl⟩
          rw [← hxe] at hfok y0 y1 hxr
          obtain ⟨xb, m0⟩ := xf
          simp only at hfok y0 y1 hxr
          obtain ⟨n, hn⟩ : ∃ n, n = xb.length := ⟨_, rfl⟩
          have hblk2 : wr.heap[m]? = some (.cells #[.int .i64 st.cap, vn, .slice (some ⟨g0, 0, none⟩) (st.lastDir p).length lc, .slice da st.deeds.length dc, .slice (some ⟨gf, 0, none⟩) fs.length cg, .int .i64 st.armed] 64 (0, 0)) := hblk
          have HBLK := Lib.hid hblk2
          unfold RB at hxr
          rw [← hn] at hfok y0 hxr
          obtain ⟨hmn, hn24⟩ := hfok
          have HXR := Lib.hid hxr
          have HNX := Lib.hid hn.symm
          have HXE := Lib.hid hxe
          have HML := Lib.hid (show m0 ≤ xb.length by omega)
          have hmr := blk_lt hblk2
          obtain ⟨c0, c1, c2, c3, c4, c5, _⟩ := cells6 hblk2
          have hj0 : (0 : Int) ≤ (j : Int) := by omega
          have hj1 : (j : Int) < ((st.lastDir p).length : Int) := by omega
          have hf0 : (0 : Int) ≤ (f : Int) := by omega
          have hfsl : fs.length = st.files.length := by rw [← crS_len st p j, ← hfs]; simp
          have hf1 : (f : Int) < (fs.length : Int) := by omega
          have HRP := Lib.hid ((HP.out wr ((keeps_below M HB1.out).trans HT.out.2 fun _ _ e => e)))
          clear ht hbx hblk hblk2 hen hel hel' hde hde' hfi hfs hM hMr hx e hvb hxr hxe hn c0 c1 c3 c5 b0
          by_cases hin : f < p.files.length
          · obtain ⟨y, hy⟩ : ∃ y, p.files[f]? = some y := ⟨_, List.getElem?_eq_getElem hin⟩
            have hpa : p.at f = y := by unfold DPicks.at; rw [hy]; rfl
            have hin' : (f : Int) < (p.files.length : Int) := by omega
            obtain ⟨pb, po, pc, e, hpbl, p0, p1⟩ := pick_at HRP.out hy (by omega)
            obtain ⟨rfl, -, rfl⟩ := sl_inj e
            have hyk := HPK.out y (List.mem_of_getElem? hy)
            have hy1 : -9223372036854775808 ≤ y.keep := hyk.1
            have hy2 : y.keep ≤ 9223372036854775807 := hyk.2
            obtain ⟨yk, yt⟩ := y
            simp only at p0 p1 hy1 hy2
            have HPA := Lib.hid hpa
            clear hy hpa hyk e
            by_cases hneg : yk < 0
            · as_aux_lemma =>
              obtain ⟨kk, hkk⟩ : ∃ kk, kk = 0 := ⟨_, rfl⟩
              have hkk1 : kk ≤ 0 := Nat.le_of_eq hkk
              clear hkk
              have hnm : decide ((n : Int) < (m0 : Int)) = false := by simp; omega
              have hnm2 : decide (n < m0) = false := by simp; omega
              have hnm3 : decide ((n : Int) - (m0 : Int) < 0) = false := by simp; omega
              have HKN := Lib.hid (show keepN ⟨xb, m0⟩ (p.at f) = 0 by rw [HPA.out]; show min yk.toNat (xb.length - m0) = 0; omega)
              obtain ⟨L, hL⟩ : ∃ L, L = m0 + kk := ⟨_, rfl⟩
              have hLb : L ≤ n := by omega
              have hrun := run_prefixT 22 5 Try.underlying22 (fun W => by kernel_rfl) ax n cx L (row_addr HXR.out) (by have := row_cap7 HXR.out; omega)
              rw [show ((L : Nat) : Int) = (m0 : Int) by omega] at hrun
              have HTL := Lib.hid (show (xb.take L).length = L by rw [List.length_take, HNX.out]; omega)
              have HPRE := Lib.hid (show wr.ownsRow 0 5 1 (.slice ax L cx) L ((xb.take L).map bv) by
                have h9 := RB.pre (w := wr) (a := ax) (n := n) (c := cx) (b := xb) (by unfold RB; rw [HNX.out]; exact HXR.out) L (by rw [HNX.out]; exact hLb)
                unfold RB at h9
                rw [HTL.out] at h9
                exact h9)
              have HL := Lib.hid hL
              clear hL
              go_upto_region 18 with fail
              go_wp2_with (at_builtin; refine wpList_append_reads _ rfl _ _ 22 rfl wr.heap.size 5 i0 (.int .u8 0) 1 1 Try.underlying22 HI.out HZ0.out HZ1.out HZ2.out rfl (by decide) (.slice (some ⟨wr.heap.size + 2, 0, none⟩) 0 0) 0 [] rfl (lit_u8 (by simp) (by omega)) (.slice ax L cx) L ((xb.take L).map bv) rfl (reads_of_owns (ownsRow_below HPRE.out (by repeat (first | (with_reducible exact Below.refl _ _) | (with_reducible refine Below.setCell ?_ ?_ _) | (with_reducible refine Below.alloc ?_ ?_ _) | (with_reducible refine Below.drewN ?_ _) | (with_reducible refine Below.drew ?_) | (with_reducible exact Nat.le_refl _) | (focus (simp only [World.size_alloc, World.size_setCell, World.size_drew, World.size_drewN]; omega)) | omega | exact Nat.le_refl _ | (focus (simp; done)) | (focus (simp; omega)))))) (bv_one _) (by unfold maxLen; omega) (by omega) (by first | omega | (simp; done) | (simp; omega)) ?_; intro v1 w5 hown5 hgrow5 hat5; have hzq5 := hgrow5.size; simp only [World.size_alloc, World.size_setCell] at hzq5; have HB5 := Lib.hid (show Below wr.heap.size wr w5 from Below.grown (by repeat (first | (with_reducible exact Below.refl _ _) | (with_reducible refine Below.setCell ?_ ?_ _) | (with_reducible refine Below.alloc ?_ ?_ _) | (with_reducible refine Below.drewN ?_ _) | (with_reducible refine Below.drew ?_) | (with_reducible exact Nat.le_refl _) | (focus (simp only [World.size_alloc, World.size_setCell, World.size_drew, World.size_drewN]; omega)) | omega | exact Nat.le_refl _ | (focus (simp; done)) | (focus (simp; omega)))) hgrow5 (by first | omega | (simp; done) | (simp; omega)) (by simp [Value.ownBlock])); have hx5 := (hgrow5.block wr.heap.size (by first | omega | (simp; done) | (simp; omega)) (by simp [Value.ownBlock])).trans (by exact blk_alloc (blk_alloc (blk_new _ rfl) _) _); have ho5 := (hgrow5.block (wr.heap.size + 1) (by first | omega | (simp; done) | (simp; omega)) (by simp [Value.ownBlock])).trans (by exact blk_alloc (blk_new _ (by simp)) _); obtain ⟨t0, t1, tf⟩ := blk2 hx5; have tf0 := tf 0; have tf1 := tf 1; have hxl5 := blk_lt hx5; have hown5' : w5.ownsRow wr.heap.size 5 1 v1 L ((xb.take L).map bv) := (by simpa using hown5); obtain ⟨a5, c5, rfl⟩ := ownsRow_len hown5'; have HO5 := Lib.hid hown5'; clear hown5 hown5' hgrow5 hat5 tf)
              have HNB := Lib.hid (show ((crS st p j).fileAt f).settle (p.at f) = ⟨xb.take L, L⟩ by
                rw [← HXE.out, settle_no HKN.out HML.out]
                rw [show L = m0 by have := HL.out; omega])
              obtain ⟨w6, hw6⟩ : ∃ w6, w6 = (w5.setCell ⟨wr.heap.size, 0, none⟩ (.slice a5 L c5)).setCell ⟨wr.heap.size, 1, none⟩ (.int .i64 L) := ⟨_, rfl⟩
              have hkx : Keeps (fun k => k = wr.heap.size) w5 w6 := by rw [hw6]; exact (keeps_set 0 _).trans (keeps_set 1 _) fun _ _ e => e
              have HRB6 := Lib.hid (show RB w6 (.slice a5 L c5) (xb.take L) from rb_of (keep_row hkx (hits_one hx5) HO5.out (by show (5 + 1 : Nat) ≠ 70 + 1; decide)) rfl HTL.out.symm)
              have hx6 : w6.heap[wr.heap.size]? = some (.cells #[.slice a5 L c5, .int .i64 L] 70 (0, 0)) := by
                rw [hw6]
                simpa using blk_put (blk_put hx5 0 (.slice a5 L c5)) 1 (.int .i64 L)
              have HB6 := Lib.hid (show Below wr.heap.size wr w6 by rw [hw6]; exact Below.setCell (Below.setCell HB5.out (Nat.le_refl _) _) (Nat.le_refl _) _)
              go_upto_region 22 with fail
              rw [← hw6]
              clear hw6 hx5 ho5 t0 t1 tf0 tf1
              have hz6 := HB6.out.size
              have hm6 : w6.heap[m]? = _ := blk_below HBLK.out HB6.out
              have fz : ∀ i, w6.frozen? ⟨gf, i, none⟩ = false := fun i => (ownsRow_below HFI.out.1 HB6.out).frozenAt i
              have fz0 := fz (f * 2)
              have fz1 := fz (f * 2 + 1)
              clear fz
              have z0 := (HB6.out.cell (p := ⟨gf, f * 2, none⟩) hgf0).trans y0
              have z1 := (HB6.out.cell (p := ⟨gf, f * 2 + 1, none⟩) hgf0).trans y1
              have hgf2 : gf < w6.heap.size := by omega
              obtain ⟨SS, HSD⟩ : ∃ SS : World → Prop, Hid (SS = fun w' => w'.heap[m]? = some (.cells #[.int .i64 st.cap, vn, .slice (some ⟨g0, 0, none⟩) (st.lastDir p).length lc, .slice da st.deeds.length dc, .slice (some ⟨gf, 0, none⟩) fs.length cg, .int .i64 st.armed] 64 (0, 0)) ∧ w'.heap[wr.heap.size]? = some (.cells #[.slice a5 L c5, .int .i64 L] 70 (0, 0))) := ⟨_, Lib.hid rfl⟩
              refine wp_region_mask0 SS [3, 5] [0, 1, 3, 7, 0, 0, 63, 127] (.op 0 0 (.op 1 0 (.op 2 0 (.op 3 2 (.op 4 0 (.op 5 2 (.op 6 0 (.op 7 1 .nil)))))))) (by kernel_rfl) (by kernel_rfl) rfl (by kernel_rfl) (by kernel_rfl) ?_ ?_
              focus (rw [HSD.out]; exact ⟨hm6, hx6⟩)
              refine stepM0 rfl rfl (fun K hK => ?_)
              go_simp
              refine hK _ ?_
              clear hK K
              refine stepM0 rfl rfl (fun K hK => ?_)
              go_simp
              refine hK _ ?_
              clear hK K
              refine stepM0 rfl rfl (fun K hK => ?_)
              go_simp
              refine hK _ ?_
              clear hK K
              refine stepM2 rfl rfl ?_ (fun w1 hS => ?_) (fun K hK => ?_)
              rotate_left
              focus (rw [HSD.out] at hS; obtain ⟨s0, s1, s2, s3, s4, s5, _⟩ := cells6 hS.1; have d0 := cell_of_row _ _ 0 _ _ _ hS.2; have d1 := cell_of_row _ _ 1 _ _ _ hS.2; simp at d0 d1; go_simp; rfl)
              go_simp
              refine hK _ ?_
              clear hK K
              refine stepM0 rfl rfl (fun K hK => ?_)
              go_simp
              refine hK _ ?_
              clear hK K
              refine stepM2 rfl rfl ?_ (fun w1 hS => ?_) (fun K hK => ?_)
              rotate_left
              focus (rw [HSD.out] at hS; obtain ⟨s0, s1, s2, s3, s4, s5, _⟩ := cells6 hS.1; have d0 := cell_of_row _ _ 0 _ _ _ hS.2; have d1 := cell_of_row _ _ 1 _ _ _ hS.2; simp at d0 d1; go_simp; rfl)
              go_simp
              refine hK _ ?_
              clear hK K
              refine stepM0 rfl rfl (fun K hK => ?_)
              go_simp
              refine hK _ ?_
              clear hK K
              refine stepM1 rfl rfl (by kernel_rfl) (fun K hK => ?_)
              go_wp2
              try refine stepMnil0 ?_
              clear HSD SS
              have HR := Lib.hid (rset_fin (st := crS st p j) (x := ⟨(xb.take L), L⟩) HBLK.out HM.out HMR.out HEN.out HEL.out HDE.out HFI.out HFS.out hfl HB6.out HRB6.out (fun k e => .inr (by have h9 := (HO5.out.lt k (by first | exact e | (cases a5 <;> first | exact e | cases e))).1; exact h9)))
              clear hm6 hx6 fz0 fz1 z0 z1
              go_wp2_with fail
              go_roundw
              case rel => exact ⟨j + 1, by omega, by go_num, by rw [crS_step st p j _ HXX.out, HNB.out]; first | exact HT.out.trans ⟨HR.out.1, HR.out.2.drew⟩ | exact HT.out.trans ⟨HR.out.1, HR.out.2.drew.drew⟩⟩
              case measure => simp [intOf]; omega
            by_cases hov : (n : Int) - (m0 : Int) < yk
            · by_cases hroom : m0 < n
              · as_aux_lemma =>
                obtain ⟨kk, hkk⟩ : ∃ kk, kk = n - m0 := ⟨_, rfl⟩
                have hsub : (n : Int) - (m0 : Int) = (kk : Int) := by omega
                rw [hsub] at hov
                have hneg2 : decide (yk < 0) = false := by simp; omega
                have HKN := Lib.hid (show keepN ⟨xb, m0⟩ (p.at f) = kk by rw [HPA.out]; show min yk.toNat (xb.length - m0) = kk; rw [HNX.out]; omega)
                have hk0 : (0 : Int) < (kk : Int) := by omega
                have hkk1 : m0 + kk ≤ n := by omega
                clear hkk
                obtain ⟨L, hL⟩ : ∃ L, L = m0 + kk := ⟨_, rfl⟩
                have hLb : L ≤ n := by omega
                have hrun := run_prefixT 22 5 Try.underlying22 (fun W => by kernel_rfl) ax n cx L (row_addr HXR.out) (by have := row_cap7 HXR.out; omega)
                rw [show ((L : Nat) : Int) = (m0 : Int) + (kk : Int) by omega] at hrun
                have HTL := Lib.hid (show (xb.take L).length = L by rw [List.length_take, HNX.out]; omega)
                have HPRE := Lib.hid (show wr.ownsRow 0 5 1 (.slice ax L cx) L ((xb.take L).map bv) by
                  have h9 := RB.pre (w := wr) (a := ax) (n := n) (c := cx) (b := xb) (by unfold RB; rw [HNX.out]; exact HXR.out) L (by rw [HNX.out]; exact hLb)
                  unfold RB at h9
                  rw [HTL.out] at h9
                  exact h9)
                have HL := Lib.hid hL
                clear hL
                go_upto_region 18 with fail
                go_wp2_with (at_builtin; refine wpList_append_reads _ rfl _ _ 22 rfl wr.heap.size 5 i0 (.int .u8 0) 1 1 Try.underlying22 HI.out HZ0.out HZ1.out HZ2.out rfl (by decide) (.slice (some ⟨wr.heap.size + 2, 0, none⟩) 0 0) 0 [] rfl (lit_u8 (by simp) (by omega)) (.slice ax L cx) L ((xb.take L).map bv) rfl (reads_of_owns (ownsRow_below HPRE.out (by repeat (first | (with_reducible exact Below.refl _ _) | (with_reducible refine Below.setCell ?_ ?_ _) | (with_reducible refine Below.alloc ?_ ?_ _) | (with_reducible refine Below.drewN ?_ _) | (with_reducible refine Below.drew ?_) | (with_reducible exact Nat.le_refl _) | (focus (simp only [World.size_alloc, World.size_setCell, World.size_drew, World.size_drewN]; omega)) | omega | exact Nat.le_refl _ | (focus (simp; done)) | (focus (simp; omega)))))) (bv_one _) (by unfold maxLen; omega) (by omega) (by first | omega | (simp; done) | (simp; omega)) ?_; intro v1 w5 hown5 hgrow5 hat5; have hzq5 := hgrow5.size; simp only [World.size_alloc, World.size_setCell] at hzq5; have HB5 := Lib.hid (show Below wr.heap.size wr w5 from Below.grown (by repeat (first | (with_reducible exact Below.refl _ _) | (with_reducible refine Below.setCell ?_ ?_ _) | (with_reducible refine Below.alloc ?_ ?_ _) | (with_reducible refine Below.drewN ?_ _) | (with_reducible refine Below.drew ?_) | (with_reducible exact Nat.le_refl _) | (focus (simp only [World.size_alloc, World.size_setCell, World.size_drew, World.size_drewN]; omega)) | omega | exact Nat.le_refl _ | (focus (simp; done)) | (focus (simp; omega)))) hgrow5 (by first | omega | (simp; done) | (simp; omega)) (by simp [Value.ownBlock])); have hx5 := (hgrow5.block wr.heap.size (by first | omega | (simp; done) | (simp; omega)) (by simp [Value.ownBlock])).trans (by exact blk_alloc (blk_alloc (blk_new _ rfl) _) _); have ho5 := (hgrow5.block (wr.heap.size + 1) (by first | omega | (simp; done) | (simp; omega)) (by simp [Value.ownBlock])).trans (by exact blk_alloc (blk_new _ (by simp)) _); obtain ⟨t0, t1, tf⟩ := blk2 hx5; have tf0 := tf 0; have tf1 := tf 1; have hxl5 := blk_lt hx5; have hown5' : w5.ownsRow wr.heap.size 5 1 v1 L ((xb.take L).map bv) := (by simpa using hown5); obtain ⟨a5, c5, rfl⟩ := ownsRow_len hown5'; have HO5 := Lib.hid hown5'; clear hown5 hown5' hgrow5 hat5 tf)
                obtain ⟨jj, hjj⟩ : ∃ jj, L = jj + 1 := ⟨L - 1, by have := HL.out; omega⟩
                have hjl : jj < xb.length := by rw [HNX.out]; omega
                obtain ⟨yb, hyb⟩ : ∃ yb, xb[jj]? = some yb := ⟨_, List.getElem?_eq_getElem hjl⟩
                have HNB := Lib.hid (show ((crS st p j).fileAt f).settle (p.at f) = ⟨(xb.take L).set jj (yb ^^^ yt), L⟩ by
                  rw [← HXE.out, settle_yes HKN.out (by omega) (by show m0 + kk = jj + 1; rw [← hjj, HL.out]) (by show m0 + kk ≤ xb.length; rw [HNX.out, ← HL.out]; omega) hyb, HPA.out, hjj])
                obtain ⟨g, rfl⟩ : ∃ g, a5 = some ⟨g, 0, none⟩ := by
                  rcases row_addr HO5.out with ⟨rfl, _⟩ | h9
                  · rcases HO5.out.2 with ⟨_, e⟩ | ⟨g, _, _, e, _⟩
                    · omega
                    · cases e
                  · exact h9
                have hgc : w5.cell? ⟨g, jj, none⟩ = some (.int .u8 yb.toNat) := by
                  rw [HO5.out.cellAt jj (by omega), List.getElem?_map, List.getElem?_take, if_pos (by omega), hyb]
                  rfl
                have hgf : w5.frozen? ⟨g, jj, none⟩ = false := HO5.out.frozenAt _
                have hgl := (HO5.out.lt g rfl).2
                have hge := (HO5.out.lt g rfl).1
                have hgx : g ≠ wr.heap.size := fun e => by
                  subst e
                  exact absurd (hits_row HO5.out _ _ rfl hx5) (by show 70 + 1 ≠ 5 + 1; decide)
                have hgx2 : wr.heap.size ≠ g := fun e => hgx e.symm
                have hgo : g ≠ wr.heap.size + 1 := fun e => by
                  subst e
                  exact absurd (hits_row HO5.out _ _ rfl ho5) (by show 96 + 1 ≠ 5 + 1; decide)
                have hgo2 : wr.heap.size + 1 ≠ g := fun e => hgo e.symm
                obtain ⟨q0, q1, _⟩ := blk2 ho5
                have hql := blk_lt ho5
                have hwr3 : IntKind.i64.wrap ((L : Int) - 1) = (jj : Int) := by rw [IntWalk.i64_in _ (by omega)]; omega
                have hjj1 : (jj : Int) < (L : Int) := by omega
                have hjj0 : (0 : Int) ≤ (jj : Int) := by omega
                have HX := Lib.hid (xor_bv yb yt)
                have HJJ := Lib.hid hjj
                have HYB := Lib.hid hyb
                clear hjj hyb q0
                go_upto_region 20 with fail
                refine wp_region_now0 [1, 3, 7, 9, 13, 15] [(0, 0), (1, 2), (2, 0), (3, 2), (4, 0), (5, 0), (6, 0), (7, 2), (8, 0), (9, 2), (10, 0), (11, 0), (12, 0), (13, 2), (14, 0), (15, 2), (16, 0), (17, 0), (18, 1)] (by kernel_rfl) (by kernel_rfl) rfl (by kernel_rfl) ?_
                refine stepE0 rfl rfl (fun K hK => ?_)
                go_simp
                refine hK _ ?_
                clear hK K
                refine stepE2 rfl rfl ?_ (fun w1 hS => ?_) (fun K hK => ?_)
                rotate_left
                focus (obtain rfl : w1 = _ := hS; go_simp; rfl)
                go_simp
                refine hK _ ?_
                clear hK K
                refine stepE0 rfl rfl (fun K hK => ?_)
                go_simp
                refine hK _ ?_
                clear hK K
                refine stepE2 rfl rfl ?_ (fun w1 hS => ?_) (fun K hK => ?_)
                rotate_left
                focus (obtain rfl : w1 = _ := hS; go_simp; rfl)
                go_simp
                refine hK _ ?_
                clear hK K
                refine stepE0 rfl rfl (fun K hK => ?_)
                go_simp
                refine hK _ ?_
                clear hK K
                refine stepE0 rfl rfl (fun K hK => ?_)
                go_simp
                refine hK _ ?_
                clear hK K
                refine stepE0 rfl rfl (fun K hK => ?_)
                go_simp
                refine hK _ ?_
                clear hK K
                refine stepE2 rfl rfl ?_ (fun w1 hS => ?_) (fun K hK => ?_)
                rotate_left
                focus (obtain rfl : w1 = _ := hS; go_simp; rfl)
                go_simp
                refine hK _ ?_
                clear hK K
                refine stepE0 rfl rfl (fun K hK => ?_)
                go_simp
                refine hK _ ?_
                clear hK K
                refine stepE2 rfl rfl ?_ (fun w1 hS => ?_) (fun K hK => ?_)
                rotate_left
                focus (obtain rfl : w1 = _ := hS; go_simp; rfl)
                go_simp
                refine hK _ ?_
                clear hK K
                refine stepE0 rfl rfl (fun K hK => ?_)
                go_simp
                refine hK _ ?_
                clear hK K
                refine stepE0 rfl rfl (fun K hK => ?_)
                go_simp
                refine hK _ ?_
                clear hK K
                refine stepE0 rfl rfl (fun K hK => ?_)
                go_simp
                refine hK _ ?_
                clear hK K
                refine stepE2 rfl rfl ?_ (fun w1 hS => ?_) (fun K hK => ?_)
                rotate_left
                focus (obtain rfl : w1 = _ := hS; go_simp; rfl)
                go_simp
                refine hK _ ?_
                clear hK K
                refine stepE0 rfl rfl (fun K hK => ?_)
                go_simp
                refine hK _ ?_
                clear hK K
                refine stepE2 rfl rfl ?_ (fun w1 hS => ?_) (fun K hK => ?_)
                rotate_left
                focus (obtain rfl : w1 = _ := hS; go_simp; rfl)
                go_simp
                refine hK _ ?_
                clear hK K
                refine stepE0 rfl rfl (fun K hK => ?_)
                go_simp
                refine hK _ ?_
                clear hK K
                refine stepE0 rfl rfl (fun K hK => ?_)
                go_simp
                refine hK _ ?_
                clear hK K
                refine stepE1 rfl rfl (by kernel_rfl) (fun K hK => ?_)
                go_wp2
                try refine stepEnil0 ?_
                rw [HX.out]
                clear hwr3
                go_upto_region 22 with fail
                obtain ⟨w6, hw6⟩ : ∃ w6, w6 = ((w5.setCell ⟨wr.heap.size, 0, none⟩ (.slice (some ⟨g, 0, none⟩) L c5)).setCell ⟨g, jj, none⟩ (bv (yb ^^^ yt))).setCell ⟨wr.heap.size, 1, none⟩ (.int .i64 L) := ⟨_, rfl⟩
                have hr1 := keep_row (keeps_set (b := wr.heap.size) 0 (.slice (some ⟨g, 0, none⟩) L c5)) (hits_one hx5) HO5.out (by show (5 + 1 : Nat) ≠ 70 + 1; decide)
                have hx51 := blk_put hx5 0 (.slice (some ⟨g, 0, none⟩) L c5)
                have hr2 := (hr1.stored jj (bv (yb ^^^ yt))).1
                have hx52 := blk_set hx51 ⟨g, jj, none⟩ (bv (yb ^^^ yt)) hgx2
                have hr3 := keep_row (keeps_set (b := wr.heap.size) 1 (.int .i64 L)) (hits_one hx52) hr2 (by show (5 + 1 : Nat) ≠ 70 + 1; decide)
                have HRB6 := Lib.hid (show RB w6 (.slice (some ⟨g, 0, none⟩) L c5) ((xb.take L).set jj (yb ^^^ yt)) by rw [hw6]; exact rb_of hr3 (by rw [List.map_set]) (by rw [List.length_set, HTL.out]))
                have hx6 : w6.heap[wr.heap.size]? = some (.cells #[.slice (some ⟨g, 0, none⟩) L c5, .int .i64 L] 70 (0, 0)) := by
                  rw [hw6]
                  simpa using blk_put hx52 1 (.int .i64 L)
                have HB6 := Lib.hid (show Below wr.heap.size wr w6 by rw [hw6]; exact Below.setCell (Below.setCell (Below.setCell HB5.out (Nat.le_refl _) _) hge _) (Nat.le_refl _) _)
                rw [← hw6]
                clear hw6 hx5 ho5 t0 t1 tf0 tf1
                have hz6 := HB6.out.size
                have hm6 : w6.heap[m]? = _ := blk_below HBLK.out HB6.out
                have fz : ∀ i, w6.frozen? ⟨gf, i, none⟩ = false := fun i => (ownsRow_below HFI.out.1 HB6.out).frozenAt i
                have fz0 := fz (f * 2)
                have fz1 := fz (f * 2 + 1)
                clear fz
                have z0 := (HB6.out.cell (p := ⟨gf, f * 2, none⟩) hgf0).trans y0
                have z1 := (HB6.out.cell (p := ⟨gf, f * 2 + 1, none⟩) hgf0).trans y1
                have hgf2 : gf < w6.heap.size := by omega
                obtain ⟨SS, HSD⟩ : ∃ SS : World → Prop, Hid (SS = fun w' => w'.heap[m]? = some (.cells #[.int .i64 st.cap, vn, .slice (some ⟨g0, 0, none⟩) (st.lastDir p).length lc, .slice da st.deeds.length dc, .slice (some ⟨gf, 0, none⟩) fs.length cg, .int .i64 st.armed] 64 (0, 0)) ∧ w'.heap[wr.heap.size]? = some (.cells #[.slice (some ⟨g, 0, none⟩) L c5, .int .i64 L] 70 (0, 0))) := ⟨_, Lib.hid rfl⟩
                refine wp_region_mask0 SS [3, 5] [0, 1, 3, 7, 0, 0, 63, 127] (.op 0 0 (.op 1 0 (.op 2 0 (.op 3 2 (.op 4 0 (.op 5 2 (.op 6 0 (.op 7 1 .nil)))))))) (by kernel_rfl) (by kernel_rfl) rfl (by kernel_rfl) (by kernel_rfl) ?_ ?_
                focus (rw [HSD.out]; exact ⟨hm6, hx6⟩)
                refine stepM0 rfl rfl (fun K hK => ?_)
                go_simp
                refine hK _ ?_
                clear hK K
                refine stepM0 rfl rfl (fun K hK => ?_)
                go_simp
                refine hK _ ?_
                clear hK K
                refine stepM0 rfl rfl (fun K hK => ?_)
                go_simp
                refine hK _ ?_
                clear hK K
                refine stepM2 rfl rfl ?_ (fun w1 hS => ?_) (fun K hK => ?_)
                rotate_left
                focus (rw [HSD.out] at hS; obtain ⟨s0, s1, s2, s3, s4, s5, _⟩ := cells6 hS.1; have d0 := cell_of_row _ _ 0 _ _ _ hS.2; have d1 := cell_of_row _ _ 1 _ _ _ hS.2; simp at d0 d1; go_simp; rfl)
                go_simp
                refine hK _ ?_
                clear hK K
                refine stepM0 rfl rfl (fun K hK => ?_)
                go_simp
                refine hK _ ?_
                clear hK K
                refine stepM2 rfl rfl ?_ (fun w1 hS => ?_) (fun K hK => ?_)
                rotate_left
                focus (rw [HSD.out] at hS; obtain ⟨s0, s1, s2, s3, s4, s5, _⟩ := cells6 hS.1; have d0 := cell_of_row _ _ 0 _ _ _ hS.2; have d1 := cell_of_row _ _ 1 _ _ _ hS.2; simp at d0 d1; go_simp; rfl)
                go_simp
                refine hK _ ?_
                clear hK K
                refine stepM0 rfl rfl (fun K hK => ?_)
                go_simp
                refine hK _ ?_
                clear hK K
                refine stepM1 rfl rfl (by kernel_rfl) (fun K hK => ?_)
                go_wp2
                try refine stepMnil0 ?_
                clear HSD SS
                have HR := Lib.hid (rset_fin (st := crS st p j) (x := ⟨((xb.take L).set jj (yb ^^^ yt)), L⟩) HBLK.out HM.out HMR.out HEN.out HEL.out HDE.out HFI.out HFS.out hfl HB6.out HRB6.out (fun k e => .inr (by have h9 := (HO5.out.lt k (by first | exact e | (cases a5 <;> first | exact e | cases e))).1; exact h9)))
                clear hm6 hx6 fz0 fz1 z0 z1
                go_wp2_with fail
                go_roundw
                case rel => exact ⟨j + 1, by omega, by go_num, by rw [crS_step st p j _ HXX.out, HNB.out]; first | exact HT.out.trans ⟨HR.out.1, HR.out.2.drew⟩ | exact HT.out.trans ⟨HR.out.1, HR.out.2.drew.drew⟩⟩
                case measure => simp [intOf]; omega
              · as_aux_lemma =>
                obtain ⟨kk, hkk⟩ : ∃ kk, kk = 0 := ⟨_, rfl⟩
                have hkk1 : kk ≤ 0 := Nat.le_of_eq hkk
                clear hkk
                have hsub : (n : Int) - (m0 : Int) = 0 := by omega
                rw [hsub] at hov
                have hneg2 : decide (yk < 0) = false := by simp; omega
                have HKN := Lib.hid (show keepN ⟨xb, m0⟩ (p.at f) = 0 by rw [HPA.out]; show min yk.toNat (xb.length - m0) = 0; rw [HNX.out]; omega)
                obtain ⟨L, hL⟩ : ∃ L, L = m0 + kk := ⟨_, rfl⟩
                have hLb : L ≤ n := by omega
                have hrun := run_prefixT 22 5 Try.underlying22 (fun W => by kernel_rfl) ax n cx L (row_addr HXR.out) (by have := row_cap7 HXR.out; omega)
                rw [show ((L : Nat) : Int) = (m0 : Int) by omega] at hrun
                have HTL := Lib.hid (show (xb.take L).length = L by rw [List.length_take, HNX.out]; omega)
                have HPRE := Lib.hid (show wr.ownsRow 0 5 1 (.slice ax L cx) L ((xb.take L).map bv) by
                  have h9 := RB.pre (w := wr) (a := ax) (n := n) (c := cx) (b := xb) (by unfold RB; rw [HNX.out]; exact HXR.out) L (by rw [HNX.out]; exact hLb)
                  unfold RB at h9
                  rw [HTL.out] at h9
                  exact h9)
                have HL := Lib.hid hL
                clear hL
                go_upto_region 18 with fail
                go_wp2_with (at_builtin; refine wpList_append_reads _ rfl _ _ 22 rfl wr.heap.size 5 i0 (.int .u8 0) 1 1 Try.underlying22 HI.out HZ0.out HZ1.out HZ2.out rfl (by decide) (.slice (some ⟨wr.heap.size + 2, 0, none⟩) 0 0) 0 [] rfl (lit_u8 (by simp) (by omega)) (.slice ax L cx) L ((xb.take L).map bv) rfl (reads_of_owns (ownsRow_below HPRE.out (by repeat (first | (with_reducible exact Below.refl _ _) | (with_reducible refine Below.setCell ?_ ?_ _) | (with_reducible refine Below.alloc ?_ ?_ _) | (with_reducible refine Below.drewN ?_ _) | (with_reducible refine Below.drew ?_) | (with_reducible exact Nat.le_refl _) | (focus (simp only [World.size_alloc, World.size_setCell, World.size_drew, World.size_drewN]; omega)) | omega | exact Nat.le_refl _ | (focus (simp; done)) | (focus (simp; omega)))))) (bv_one _) (by unfold maxLen; omega) (by omega) (by first | omega | (simp; done) | (simp; omega)) ?_; intro v1 w5 hown5 hgrow5 hat5; have hzq5 := hgrow5.size; simp only [World.size_alloc, World.size_setCell] at hzq5; have HB5 := Lib.hid (show Below wr.heap.size wr w5 from Below.grown (by repeat (first | (with_reducible exact Below.refl _ _) | (with_reducible refine Below.setCell ?_ ?_ _) | (with_reducible refine Below.alloc ?_ ?_ _) | (with_reducible refine Below.drewN ?_ _) | (with_reducible refine Below.drew ?_) | (with_reducible exact Nat.le_refl _) | (focus (simp only [World.size_alloc, World.size_setCell, World.size_drew, World.size_drewN]; omega)) | omega | exact Nat.le_refl _ | (focus (simp; done)) | (focus (simp; omega)))) hgrow5 (by first | omega | (simp; done) | (simp; omega)) (by simp [Value.ownBlock])); have hx5 := (hgrow5.block wr.heap.size (by first | omega | (simp; done) | (simp; omega)) (by simp [Value.ownBlock])).trans (by exact blk_alloc (blk_alloc (blk_new _ rfl) _) _); have ho5 := (hgrow5.block (wr.heap.size + 1) (by first | omega | (simp; done) | (simp; omega)) (by simp [Value.ownBlock])).trans (by exact blk_alloc (blk_new _ (by simp)) _); obtain ⟨t0, t1, tf⟩ := blk2 hx5; have tf0 := tf 0; have tf1 := tf 1; have hxl5 := blk_lt hx5; have hown5' : w5.ownsRow wr.heap.size 5 1 v1 L ((xb.take L).map bv) := (by simpa using hown5); obtain ⟨a5, c5, rfl⟩ := ownsRow_len hown5'; have HO5 := Lib.hid hown5'; clear hown5 hown5' hgrow5 hat5 tf)
                have HNB := Lib.hid (show ((crS st p j).fileAt f).settle (p.at f) = ⟨xb.take L, L⟩ by
                  rw [← HXE.out, settle_no HKN.out HML.out]
                  rw [show L = m0 by have := HL.out; omega])
                obtain ⟨w6, hw6⟩ : ∃ w6, w6 = (w5.setCell ⟨wr.heap.size, 0, none⟩ (.slice a5 L c5)).setCell ⟨wr.heap.size, 1, none⟩ (.int .i64 L) := ⟨_, rfl⟩
                have hkx : Keeps (fun k => k = wr.heap.size) w5 w6 := by rw [hw6]; exact (keeps_set 0 _).trans (keeps_set 1 _) fun _ _ e => e
                have HRB6 := Lib.hid (show RB w6 (.slice a5 L c5) (xb.take L) from rb_of (keep_row hkx (hits_one hx5) HO5.out (by show (5 + 1 : Nat) ≠ 70 + 1; decide)) rfl HTL.out.symm)
                have hx6 : w6.heap[wr.heap.size]? = some (.cells #[.slice a5 L c5, .int .i64 L] 70 (0, 0)) := by
                  rw [hw6]
                  simpa using blk_put (blk_put hx5 0 (.slice a5 L c5)) 1 (.int .i64 L)
                have HB6 := Lib.hid (show Below wr.heap.size wr w6 by rw [hw6]; exact Below.setCell (Below.setCell HB5.out (Nat.le_refl _) _) (Nat.le_refl _) _)
                go_upto_region 22 with fail
                rw [← hw6]
                clear hw6 hx5 ho5 t0 t1 tf0 tf1
                have hz6 := HB6.out.size
                have hm6 : w6.heap[m]? = _ := blk_below HBLK.out HB6.out
                have fz : ∀ i, w6.frozen? ⟨gf, i, none⟩ = false := fun i => (ownsRow_below HFI.out.1 HB6.out).frozenAt i
                have fz0 := fz (f * 2)
                have fz1 := fz (f * 2 + 1)
                clear fz
                have z0 := (HB6.out.cell (p := ⟨gf, f * 2, none⟩) hgf0).trans y0
                have z1 := (HB6.out.cell (p := ⟨gf, f * 2 + 1, none⟩) hgf0).trans y1
                have hgf2 : gf < w6.heap.size := by omega
                obtain ⟨SS, HSD⟩ : ∃ SS : World → Prop, Hid (SS = fun w' => w'.heap[m]? = some (.cells #[.int .i64 st.cap, vn, .slice (some ⟨g0, 0, none⟩) (st.lastDir p).length lc, .slice da st.deeds.length dc, .slice (some ⟨gf, 0, none⟩) fs.length cg, .int .i64 st.armed] 64 (0, 0)) ∧ w'.heap[wr.heap.size]? = some (.cells #[.slice a5 L c5, .int .i64 L] 70 (0, 0))) := ⟨_, Lib.hid rfl⟩
                refine wp_region_mask0 SS [3, 5] [0, 1, 3, 7, 0, 0, 63, 127] (.op 0 0 (.op 1 0 (.op 2 0 (.op 3 2 (.op 4 0 (.op 5 2 (.op 6 0 (.op 7 1 .nil)))))))) (by kernel_rfl) (by kernel_rfl) rfl (by kernel_rfl) (by kernel_rfl) ?_ ?_
                focus (rw [HSD.out]; exact ⟨hm6, hx6⟩)
                refine stepM0 rfl rfl (fun K hK => ?_)
                go_simp
                refine hK _ ?_
                clear hK K
                refine stepM0 rfl rfl (fun K hK => ?_)
                go_simp
                refine hK _ ?_
                clear hK K
                refine stepM0 rfl rfl (fun K hK => ?_)
                go_simp
                refine hK _ ?_
                clear hK K
                refine stepM2 rfl rfl ?_ (fun w1 hS => ?_) (fun K hK => ?_)
                rotate_left
                focus (rw [HSD.out] at hS; obtain ⟨s0, s1, s2, s3, s4, s5, _⟩ := cells6 hS.1; have d0 := cell_of_row _ _ 0 _ _ _ hS.2; have d1 := cell_of_row _ _ 1 _ _ _ hS.2; simp at d0 d1; go_simp; rfl)
                go_simp
                refine hK _ ?_
                clear hK K
                refine stepM0 rfl rfl (fun K hK => ?_)
                go_simp
                refine hK _ ?_
                clear hK K
                refine stepM2 rfl rfl ?_ (fun w1 hS => ?_) (fun K hK => ?_)
                rotate_left
                focus (rw [HSD.out] at hS; obtain ⟨s0, s1, s2, s3, s4, s5, _⟩ := cells6 hS.1; have d0 := cell_of_row _ _ 0 _ _ _ hS.2; have d1 := cell_of_row _ _ 1 _ _ _ hS.2; simp at d0 d1; go_simp; rfl)
                go_simp
                refine hK _ ?_
                clear hK K
                refine stepM0 rfl rfl (fun K hK => ?_)
                go_simp
                refine hK _ ?_
                clear hK K
                refine stepM1 rfl rfl (by kernel_rfl) (fun K hK => ?_)
                go_wp2
                try refine stepMnil0 ?_
                clear HSD SS
                have HR := Lib.hid (rset_fin (st := crS st p j) (x := ⟨(xb.take L), L⟩) HBLK.out HM.out HMR.out HEN.out HEL.out HDE.out HFI.out HFS.out hfl HB6.out HRB6.out (fun k e => .inr (by have h9 := (HO5.out.lt k (by first | exact e | (cases a5 <;> first | exact e | cases e))).1; exact h9)))
                clear hm6 hx6 fz0 fz1 z0 z1
                go_wp2_with fail
                go_roundw
                case rel => exact ⟨j + 1, by omega, by go_num, by rw [crS_step st p j _ HXX.out, HNB.out]; first | exact HT.out.trans ⟨HR.out.1, HR.out.2.drew⟩ | exact HT.out.trans ⟨HR.out.1, HR.out.2.drew.drew⟩⟩
                case measure => simp [intOf]; omega
            · by_cases hzero : yk = 0
              · as_aux_lemma =>
                subst hzero
                obtain ⟨kk, hkk⟩ : ∃ kk, kk = 0 := ⟨_, rfl⟩
                have hkk1 : kk ≤ 0 := Nat.le_of_eq hkk
                clear hkk
                have hnm : decide ((n : Int) < (m0 : Int)) = false := by simp; omega
                have hnm2 : decide (n < m0) = false := by simp; omega
                have hnm3 : decide ((n : Int) - (m0 : Int) < 0) = false := by simp; omega
                have HKN := Lib.hid (show keepN ⟨xb, m0⟩ (p.at f) = 0 by rw [HPA.out]; show min (0 : Int).toNat (xb.length - m0) = 0; omega)
                obtain ⟨L, hL⟩ : ∃ L, L = m0 + kk := ⟨_, rfl⟩
                have hLb : L ≤ n := by omega
                have hrun := run_prefixT 22 5 Try.underlying22 (fun W => by kernel_rfl) ax n cx L (row_addr HXR.out) (by have := row_cap7 HXR.out; omega)
                rw [show ((L : Nat) : Int) = (m0 : Int) by omega] at hrun
                have HTL := Lib.hid (show (xb.take L).length = L by rw [List.length_take, HNX.out]; omega)
                have HPRE := Lib.hid (show wr.ownsRow 0 5 1 (.slice ax L cx) L ((xb.take L).map bv) by
                  have h9 := RB.pre (w := wr) (a := ax) (n := n) (c := cx) (b := xb) (by unfold RB; rw [HNX.out]; exact HXR.out) L (by rw [HNX.out]; exact hLb)
                  unfold RB at h9
                  rw [HTL.out] at h9
                  exact h9)
                have HL := Lib.hid hL
                clear hL
                go_upto_region 18 with fail
                go_wp2_with (at_builtin; refine wpList_append_reads _ rfl _ _ 22 rfl wr.heap.size 5 i0 (.int .u8 0) 1 1 Try.underlying22 HI.out HZ0.out HZ1.out HZ2.out rfl (by decide) (.slice (some ⟨wr.heap.size + 2, 0, none⟩) 0 0) 0 [] rfl (lit_u8 (by simp) (by omega)) (.slice ax L cx) L ((xb.take L).map bv) rfl (reads_of_owns (ownsRow_below HPRE.out (by repeat (first | (with_reducible exact Below.refl _ _) | (with_reducible refine Below.setCell ?_ ?_ _) | (with_reducible refine Below.alloc ?_ ?_ _) | (with_reducible refine Below.drewN ?_ _) | (with_reducible refine Below.drew ?_) | (with_reducible exact Nat.le_refl _) | (focus (simp only [World.size_alloc, World.size_setCell, World.size_drew, World.size_drewN]; omega)) | omega | exact Nat.le_refl _ | (focus (simp; done)) | (focus (simp; omega)))))) (bv_one _) (by unfold maxLen; omega) (by omega) (by first | omega | (simp; done) | (simp; omega)) ?_; intro v1 w5 hown5 hgrow5 hat5; have hzq5 := hgrow5.size; simp only [World.size_alloc, World.size_setCell] at hzq5; have HB5 := Lib.hid (show Below wr.heap.size wr w5 from Below.grown (by repeat (first | (with_reducible exact Below.refl _ _) | (with_reducible refine Below.setCell ?_ ?_ _) | (with_reducible refine Below.alloc ?_ ?_ _) | (with_reducible refine Below.drewN ?_ _) | (with_reducible refine Below.drew ?_) | (with_reducible exact Nat.le_refl _) | (focus (simp only [World.size_alloc, World.size_setCell, World.size_drew, World.size_drewN]; omega)) | omega | exact Nat.le_refl _ | (focus (simp; done)) | (focus (simp; omega)))) hgrow5 (by first | omega | (simp; done) | (simp; omega)) (by simp [Value.ownBlock])); have hx5 := (hgrow5.block wr.heap.size (by first | omega | (simp; done) | (simp; omega)) (by simp [Value.ownBlock])).trans (by exact blk_alloc (blk_alloc (blk_new _ rfl) _) _); have ho5 := (hgrow5.block (wr.heap.size + 1) (by first | omega | (simp; done) | (simp; omega)) (by simp [Value.ownBlock])).trans (by exact blk_alloc (blk_new _ (by simp)) _); obtain ⟨t0, t1, tf⟩ := blk2 hx5; have tf0 := tf 0; have tf1 := tf 1; have hxl5 := blk_lt hx5; have hown5' : w5.ownsRow wr.heap.size 5 1 v1 L ((xb.take L).map bv) := (by simpa using hown5); obtain ⟨a5, c5, rfl⟩ := ownsRow_len hown5'; have HO5 := Lib.hid hown5'; clear hown5 hown5' hgrow5 hat5 tf)
                have HNB := Lib.hid (show ((crS st p j).fileAt f).settle (p.at f) = ⟨xb.take L, L⟩ by
                  rw [← HXE.out, settle_no HKN.out HML.out]
                  rw [show L = m0 by have := HL.out; omega])
                obtain ⟨w6, hw6⟩ : ∃ w6, w6 = (w5.setCell ⟨wr.heap.size, 0, none⟩ (.slice a5 L c5)).setCell ⟨wr.heap.size, 1, none⟩ (.int .i64 L) := ⟨_, rfl⟩
                have hkx : Keeps (fun k => k = wr.heap.size) w5 w6 := by rw [hw6]; exact (keeps_set 0 _).trans (keeps_set 1 _) fun _ _ e => e
                have HRB6 := Lib.hid (show RB w6 (.slice a5 L c5) (xb.take L) from rb_of (keep_row hkx (hits_one hx5) HO5.out (by show (5 + 1 : Nat) ≠ 70 + 1; decide)) rfl HTL.out.symm)
                have hx6 : w6.heap[wr.heap.size]? = some (.cells #[.slice a5 L c5, .int .i64 L] 70 (0, 0)) := by
                  rw [hw6]
                  simpa using blk_put (blk_put hx5 0 (.slice a5 L c5)) 1 (.int .i64 L)
                have HB6 := Lib.hid (show Below wr.heap.size wr w6 by rw [hw6]; exact Below.setCell (Below.setCell HB5.out (Nat.le_refl _) _) (Nat.le_refl _) _)
                go_upto_region 22 with fail
                rw [← hw6]
                clear hw6 hx5 ho5 t0 t1 tf0 tf1
                have hz6 := HB6.out.size
                have hm6 : w6.heap[m]? = _ := blk_below HBLK.out HB6.out
                have fz : ∀ i, w6.frozen? ⟨gf, i, none⟩ = false := fun i => (ownsRow_below HFI.out.1 HB6.out).frozenAt i
                have fz0 := fz (f * 2)
                have fz1 := fz (f * 2 + 1)
                clear fz
                have z0 := (HB6.out.cell (p := ⟨gf, f * 2, none⟩) hgf0).trans y0
                have z1 := (HB6.out.cell (p := ⟨gf, f * 2 + 1, none⟩) hgf0).trans y1
                have hgf2 : gf < w6.heap.size := by omega
                obtain ⟨SS, HSD⟩ : ∃ SS : World → Prop, Hid (SS = fun w' => w'.heap[m]? = some (.cells #[.int .i64 st.cap, vn, .slice (some ⟨g0, 0, none⟩) (st.lastDir p).length lc, .slice da st.deeds.length dc, .slice (some ⟨gf, 0, none⟩) fs.length cg, .int .i64 st.armed] 64 (0, 0)) ∧ w'.heap[wr.heap.size]? = some (.cells #[.slice a5 L c5, .int .i64 L] 70 (0, 0))) := ⟨_, Lib.hid rfl⟩
                refine wp_region_mask0 SS [3, 5] [0, 1, 3, 7, 0, 0, 63, 127] (.op 0 0 (.op 1 0 (.op 2 0 (.op 3 2 (.op 4 0 (.op 5 2 (.op 6 0 (.op 7 1 .nil)))))))) (by kernel_rfl) (by kernel_rfl) rfl (by kernel_rfl) (by kernel_rfl) ?_ ?_
                focus (rw [HSD.out]; exact ⟨hm6, hx6⟩)
                refine stepM0 rfl rfl (fun K hK => ?_)
                go_simp
                refine hK _ ?_
                clear hK K
                refine stepM0 rfl rfl (fun K hK => ?_)
                go_simp
                refine hK _ ?_
                clear hK K
                refine stepM0 rfl rfl (fun K hK => ?_)
                go_simp
                refine hK _ ?_
                clear hK K
                refine stepM2 rfl rfl ?_ (fun w1 hS => ?_) (fun K hK => ?_)
                rotate_left
                focus (rw [HSD.out] at hS; obtain ⟨s0, s1, s2, s3, s4, s5, _⟩ := cells6 hS.1; have d0 := cell_of_row _ _ 0 _ _ _ hS.2; have d1 := cell_of_row _ _ 1 _ _ _ hS.2; simp at d0 d1; go_simp; rfl)
                go_simp
                refine hK _ ?_
                clear hK K
                refine stepM0 rfl rfl (fun K hK => ?_)
                go_simp
                refine hK _ ?_
                clear hK K
                refine stepM2 rfl rfl ?_ (fun w1 hS => ?_) (fun K hK => ?_)
                rotate_left
                focus (rw [HSD.out] at hS; obtain ⟨s0, s1, s2, s3, s4, s5, _⟩ := cells6 hS.1; have d0 := cell_of_row _ _ 0 _ _ _ hS.2; have d1 := cell_of_row _ _ 1 _ _ _ hS.2; simp at d0 d1; go_simp; rfl)
                go_simp
                refine hK _ ?_
                clear hK K
                refine stepM0 rfl rfl (fun K hK => ?_)
                go_simp
                refine hK _ ?_
                clear hK K
                refine stepM1 rfl rfl (by kernel_rfl) (fun K hK => ?_)
                go_wp2
                try refine stepMnil0 ?_
                clear HSD SS
                have HR := Lib.hid (rset_fin (st := crS st p j) (x := ⟨(xb.take L), L⟩) HBLK.out HM.out HMR.out HEN.out HEL.out HDE.out HFI.out HFS.out hfl HB6.out HRB6.out (fun k e => .inr (by have h9 := (HO5.out.lt k (by first | exact e | (cases a5 <;> first | exact e | cases e))).1; exact h9)))
                clear hm6 hx6 fz0 fz1 z0 z1
                go_wp2_with fail
                go_roundw
                case rel => exact ⟨j + 1, by omega, by go_num, by rw [crS_step st p j _ HXX.out, HNB.out]; first | exact HT.out.trans ⟨HR.out.1, HR.out.2.drew⟩ | exact HT.out.trans ⟨HR.out.1, HR.out.2.drew.drew⟩⟩
                case measure => simp [intOf]; omega
              · as_aux_lemma =>
                obtain ⟨kk, rfl⟩ : ∃ kk : Nat, yk = (kk : Int) := ⟨yk.toNat, by omega⟩
                have hneg2 : decide ((kk : Int) < 0) = false := by simp
                have hov2 : decide ((n : Int) - (m0 : Int) < (kk : Int)) = false := by simp; omega
                have HKN := Lib.hid (show keepN ⟨xb, m0⟩ (p.at f) = kk by rw [HPA.out]; show min (kk : Int).toNat (xb.length - m0) = kk; rw [HNX.out]; omega)
                have hk0 : (0 : Int) < (kk : Int) := by omega
                obtain ⟨L, hL⟩ : ∃ L, L = m0 + kk := ⟨_, rfl⟩
                have hLb : L ≤ n := by omega
                have hrun := run_prefixT 22 5 Try.underlying22 (fun W => by kernel_rfl) ax n cx L (row_addr HXR.out) (by have := row_cap7 HXR.out; omega)
                rw [show ((L : Nat) : Int) = (m0 : Int) + (kk : Int) by omega] at hrun
                have HTL := Lib.hid (show (xb.take L).length = L by rw [List.length_take, HNX.out]; omega)
                have HPRE := Lib.hid (show wr.ownsRow 0 5 1 (.slice ax L cx) L ((xb.take L).map bv) by
                  have h9 := RB.pre (w := wr) (a := ax) (n := n) (c := cx) (b := xb) (by unfold RB; rw [HNX.out]; exact HXR.out) L (by rw [HNX.out]; exact hLb)
                  unfold RB at h9
                  rw [HTL.out] at h9
                  exact h9)
                have HL := Lib.hid hL
                clear hL
                go_upto_region 18 with fail
                go_wp2_with (at_builtin; refine wpList_append_reads _ rfl _ _ 22 rfl wr.heap.size 5 i0 (.int .u8 0) 1 1 Try.underlying22 HI.out HZ0.out HZ1.out HZ2.out rfl (by decide) (.slice (some ⟨wr.heap.size + 2, 0, none⟩) 0 0) 0 [] rfl (lit_u8 (by simp) (by omega)) (.slice ax L cx) L ((xb.take L).map bv) rfl (reads_of_owns (ownsRow_below HPRE.out (by repeat (first | (with_reducible exact Below.refl _ _) | (with_reducible refine Below.setCell ?_ ?_ _) | (with_reducible refine Below.alloc ?_ ?_ _) | (with_reducible refine Below.drewN ?_ _) | (with_reducible refine Below.drew ?_) | (with_reducible exact Nat.le_refl _) | (focus (simp only [World.size_alloc, World.size_setCell, World.size_drew, World.size_drewN]; omega)) | omega | exact Nat.le_refl _ | (focus (simp; done)) | (focus (simp; omega)))))) (bv_one _) (by unfold maxLen; omega) (by omega) (by first | omega | (simp; done) | (simp; omega)) ?_; intro v1 w5 hown5 hgrow5 hat5; have hzq5 := hgrow5.size; simp only [World.size_alloc, World.size_setCell] at hzq5; have HB5 := Lib.hid (show Below wr.heap.size wr w5 from Below.grown (by repeat (first | (with_reducible exact Below.refl _ _) | (with_reducible refine Below.setCell ?_ ?_ _) | (with_reducible refine Below.alloc ?_ ?_ _) | (with_reducible refine Below.drewN ?_ _) | (with_reducible refine Below.drew ?_) | (with_reducible exact Nat.le_refl _) | (focus (simp only [World.size_alloc, World.size_setCell, World.size_drew, World.size_drewN]; omega)) | omega | exact Nat.le_refl _ | (focus (simp; done)) | (focus (simp; omega)))) hgrow5 (by first | omega | (simp; done) | (simp; omega)) (by simp [Value.ownBlock])); have hx5 := (hgrow5.block wr.heap.size (by first | omega | (simp; done) | (simp; omega)) (by simp [Value.ownBlock])).trans (by exact blk_alloc (blk_alloc (blk_new _ rfl) _) _); have ho5 := (hgrow5.block (wr.heap.size + 1) (by first | omega | (simp; done) | (simp; omega)) (by simp [Value.ownBlock])).trans (by exact blk_alloc (blk_new _ (by simp)) _); obtain ⟨t0, t1, tf⟩ := blk2 hx5; have tf0 := tf 0; have tf1 := tf 1; have hxl5 := blk_lt hx5; have hown5' : w5.ownsRow wr.heap.size 5 1 v1 L ((xb.take L).map bv) := (by simpa using hown5); obtain ⟨a5, c5, rfl⟩ := ownsRow_len hown5'; have HO5 := Lib.hid hown5'; clear hown5 hown5' hgrow5 hat5 tf)
                obtain ⟨jj, hjj⟩ : ∃ jj, L = jj + 1 := ⟨L - 1, by have := HL.out; omega⟩
                have hjl : jj < xb.length := by rw [HNX.out]; omega
                obtain ⟨yb, hyb⟩ : ∃ yb, xb[jj]? = some yb := ⟨_, List.getElem?_eq_getElem hjl⟩
                have HNB := Lib.hid (show ((crS st p j).fileAt f).settle (p.at f) = ⟨(xb.take L).set jj (yb ^^^ yt), L⟩ by
                  rw [← HXE.out, settle_yes HKN.out (by omega) (by show m0 + kk = jj + 1; rw [← hjj, HL.out]) (by show m0 + kk ≤ xb.length; rw [HNX.out, ← HL.out]; omega) hyb, HPA.out, hjj])
                obtain ⟨g, rfl⟩ : ∃ g, a5 = some ⟨g, 0, none⟩ := by
                  rcases row_addr HO5.out with ⟨rfl, _⟩ | h9
                  · rcases HO5.out.2 with ⟨_, e⟩ | ⟨g, _, _, e, _⟩
                    · omega
                    · cases e
                  · exact h9
                have hgc : w5.cell? ⟨g, jj, none⟩ = some (.int .u8 yb.toNat) := by
                  rw [HO5.out.cellAt jj (by omega), List.getElem?_map, List.getElem?_take, if_pos (by omega), hyb]
                  rfl
                have hgf : w5.frozen? ⟨g, jj, none⟩ = false := HO5.out.frozenAt _
                have hgl := (HO5.out.lt g rfl).2
                have hge := (HO5.out.lt g rfl).1
                have hgx : g ≠ wr.heap.size := fun e => by
                  subst e
                  exact absurd (hits_row HO5.out _ _ rfl hx5) (by show 70 + 1 ≠ 5 + 1; decide)
                have hgx2 : wr.heap.size ≠ g := fun e => hgx e.symm
                have hgo : g ≠ wr.heap.size + 1 := fun e => by
                  subst e
                  exact absurd (hits_row HO5.out _ _ rfl ho5) (by show 96 + 1 ≠ 5 + 1; decide)
                have hgo2 : wr.heap.size + 1 ≠ g := fun e => hgo e.symm
                obtain ⟨q0, q1, _⟩ := blk2 ho5
                have hql := blk_lt ho5
                have hwr3 : IntKind.i64.wrap ((L : Int) - 1) = (jj : Int) := by rw [IntWalk.i64_in _ (by omega)]; omega
                have hjj1 : (jj : Int) < (L : Int) := by omega
                have hjj0 : (0 : Int) ≤ (jj : Int) := by omega
                have HX := Lib.hid (xor_bv yb yt)
                have HJJ := Lib.hid hjj
                have HYB := Lib.hid hyb
                clear hjj hyb q0
                go_upto_region 20 with fail
                refine wp_region_now0 [1, 3, 7, 9, 13, 15] [(0, 0), (1, 2), (2, 0), (3, 2), (4, 0), (5, 0), (6, 0), (7, 2), (8, 0), (9, 2), (10, 0), (11, 0), (12, 0), (13, 2), (14, 0), (15, 2), (16, 0), (17, 0), (18, 1)] (by kernel_rfl) (by kernel_rfl) rfl (by kernel_rfl) ?_
                refine stepE0 rfl rfl (fun K hK => ?_)
                go_simp
                refine hK _ ?_
                clear hK K
                refine stepE2 rfl rfl ?_ (fun w1 hS => ?_) (fun K hK => ?_)
                rotate_left
                focus (obtain rfl : w1 = _ := hS; go_simp; rfl)
                go_simp
                refine hK _ ?_
                clear hK K
                refine stepE0 rfl rfl (fun K hK => ?_)
                go_simp
                refine hK _ ?_
                clear hK K
                refine stepE2 rfl rfl ?_ (fun w1 hS => ?_) (fun K hK => ?_)
                rotate_left
                focus (obtain rfl : w1 = _ := hS; go_simp; rfl)
                go_simp
                refine hK _ ?_
                clear hK K
                refine stepE0 rfl rfl (fun K hK => ?_)
                go_simp
                refine hK _ ?_
                clear hK K
                refine stepE0 rfl rfl (fun K hK => ?_)
                go_simp
                refine hK _ ?_
                clear hK K
                refine stepE0 rfl rfl (fun K hK => ?_)
                go_simp
                refine hK _ ?_
                clear hK K
                refine stepE2 rfl rfl ?_ (fun w1 hS => ?_) (fun K hK => ?_)
                rotate_left
                focus (obtain rfl : w1 = _ := hS; go_simp; rfl)
                go_simp
                refine hK _ ?_
                clear hK K
                refine stepE0 rfl rfl (fun K hK => ?_)
                go_simp
                refine hK _ ?_
                clear hK K
                refine stepE2 rfl rfl ?_ (fun w1 hS => ?_) (fun K hK => ?_)
                rotate_left
                focus (obtain rfl : w1 = _ := hS; go_simp; rfl)
                go_simp
                refine hK _ ?_
                clear hK K
                refine stepE0 rfl rfl (fun K hK => ?_)
                go_simp
                refine hK _ ?_
                clear hK K
                refine stepE0 rfl rfl (fun K hK => ?_)
                go_simp
                refine hK _ ?_
                clear hK K
                refine stepE0 rfl rfl (fun K hK => ?_)
                go_simp
                refine hK _ ?_
                clear hK K
                refine stepE2 rfl rfl ?_ (fun w1 hS => ?_) (fun K hK => ?_)
                rotate_left
                focus (obtain rfl : w1 = _ := hS; go_simp; rfl)
                go_simp
                refine hK _ ?_
                clear hK K
                refine stepE0 rfl rfl (fun K hK => ?_)
                go_simp
                refine hK _ ?_
                clear hK K
                refine stepE2 rfl rfl ?_ (fun w1 hS => ?_) (fun K hK => ?_)
                rotate_left
                focus (obtain rfl : w1 = _ := hS; go_simp; rfl)
                go_simp
                refine hK _ ?_
                clear hK K
                refine stepE0 rfl rfl (fun K hK => ?_)
                go_simp
                refine hK _ ?_
                clear hK K
                refine stepE0 rfl rfl (fun K hK => ?_)
                go_simp
                refine hK _ ?_
                clear hK K
                refine stepE1 rfl rfl (by kernel_rfl) (fun K hK => ?_)
                go_wp2
                try refine stepEnil0 ?_
                rw [HX.out]
                clear hwr3
                go_upto_region 22 with fail
                obtain ⟨w6, hw6⟩ : ∃ w6, w6 = ((w5.setCell ⟨wr.heap.size, 0, none⟩ (.slice (some ⟨g, 0, none⟩) L c5)).setCell ⟨g, jj, none⟩ (bv (yb ^^^ yt))).setCell ⟨wr.heap.size, 1, none⟩ (.int .i64 L) := ⟨_, rfl⟩
                have hr1 := keep_row (keeps_set (b := wr.heap.size) 0 (.slice (some ⟨g, 0, none⟩) L c5)) (hits_one hx5) HO5.out (by show (5 + 1 : Nat) ≠ 70 + 1; decide)
                have hx51 := blk_put hx5 0 (.slice (some ⟨g, 0, none⟩) L c5)
                have hr2 := (hr1.stored jj (bv (yb ^^^ yt))).1
                have hx52 := blk_set hx51 ⟨g, jj, none⟩ (bv (yb ^^^ yt)) hgx2
                have hr3 := keep_row (keeps_set (b := wr.heap.size) 1 (.int .i64 L)) (hits_one hx52) hr2 (by show (5 + 1 : Nat) ≠ 70 + 1; decide)
                have HRB6 := Lib.hid (show RB w6 (.slice (some ⟨g, 0, none⟩) L c5) ((xb.take L).set jj (yb ^^^ yt)) by rw [hw6]; exact rb_of hr3 (by rw [List.map_set]) (by rw [List.length_set, HTL.out]))
                have hx6 : w6.heap[wr.heap.size]? = some (.cells #[.slice (some ⟨g, 0, none⟩) L c5, .int .i64 L] 70 (0, 0)) := by
                  rw [hw6]
                  simpa using blk_put hx52 1 (.int .i64 L)
                have HB6 := Lib.hid (show Below wr.heap.size wr w6 by rw [hw6]; exact Below.setCell (Below.setCell (Below.setCell HB5.out (Nat.le_refl _) _) hge _) (Nat.le_refl _) _)
                rw [← hw6]
                clear hw6 hx5 ho5 t0 t1 tf0 tf1
                have hz6 := HB6.out.size
                have hm6 : w6.heap[m]? = _ := blk_below HBLK.out HB6.out
                have fz : ∀ i, w6.frozen? ⟨gf, i, none⟩ = false := fun i => (ownsRow_below HFI.out.1 HB6.out).frozenAt i
                have fz0 := fz (f * 2)
                have fz1 := fz (f * 2 + 1)
                clear fz
                have z0 := (HB6.out.cell (p := ⟨gf, f * 2, none⟩) hgf0).trans y0
                have z1 := (HB6.out.cell (p := ⟨gf, f * 2 + 1, none⟩) hgf0).trans y1
                have hgf2 : gf < w6.heap.size := by omega
                obtain ⟨SS, HSD⟩ : ∃ SS : World → Prop, Hid (SS = fun w' => w'.heap[m]? = some (.cells #[.int .i64 st.cap, vn, .slice (some ⟨g0, 0, none⟩) (st.lastDir p).length lc, .slice da st.deeds.length dc, .slice (some ⟨gf, 0, none⟩) fs.length cg, .int .i64 st.armed] 64 (0, 0)) ∧ w'.heap[wr.heap.size]? = some (.cells #[.slice (some ⟨g, 0, none⟩) L c5, .int .i64 L] 70 (0, 0))) := ⟨_, Lib.hid rfl⟩
                refine wp_region_mask0 SS [3, 5] [0, 1, 3, 7, 0, 0, 63, 127] (.op 0 0 (.op 1 0 (.op 2 0 (.op 3 2 (.op 4 0 (.op 5 2 (.op 6 0 (.op 7 1 .nil)))))))) (by kernel_rfl) (by kernel_rfl) rfl (by kernel_rfl) (by kernel_rfl) ?_ ?_
                focus (rw [HSD.out]; exact ⟨hm6, hx6⟩)
                refine stepM0 rfl rfl (fun K hK => ?_)
                go_simp
                refine hK _ ?_
                clear hK K
                refine stepM0 rfl rfl (fun K hK => ?_)
                go_simp
                refine hK _ ?_
                clear hK K
                refine stepM0 rfl rfl (fun K hK => ?_)
                go_simp
                refine hK _ ?_
                clear hK K
                refine stepM2 rfl rfl ?_ (fun w1 hS => ?_) (fun K hK => ?_)
                rotate_left
                focus (rw [HSD.out] at hS; obtain ⟨s0, s1, s2, s3, s4, s5, _⟩ := cells6 hS.1; have d0 := cell_of_row _ _ 0 _ _ _ hS.2; have d1 := cell_of_row _ _ 1 _ _ _ hS.2; simp at d0 d1; go_simp; rfl)
                go_simp
                refine hK _ ?_
                clear hK K
                refine stepM0 rfl rfl (fun K hK => ?_)
                go_simp
                refine hK _ ?_
                clear hK K
                refine stepM2 rfl rfl ?_ (fun w1 hS => ?_) (fun K hK => ?_)
                rotate_left
                focus (rw [HSD.out] at hS; obtain ⟨s0, s1, s2, s3, s4, s5, _⟩ := cells6 hS.1; have d0 := cell_of_row _ _ 0 _ _ _ hS.2; have d1 := cell_of_row _ _ 1 _ _ _ hS.2; simp at d0 d1; go_simp; rfl)
                go_simp
                refine hK _ ?_
                clear hK K
                refine stepM0 rfl rfl (fun K hK => ?_)
                go_simp
                refine hK _ ?_
                clear hK K
                refine stepM1 rfl rfl (by kernel_rfl) (fun K hK => ?_)
                go_wp2
                try refine stepMnil0 ?_
                clear HSD SS
                have HR := Lib.hid (rset_fin (st := crS st p j) (x := ⟨((xb.take L).set jj (yb ^^^ yt)), L⟩) HBLK.out HM.out HMR.out HEN.out HEL.out HDE.out HFI.out HFS.out hfl HB6.out HRB6.out (fun k e => .inr (by have h9 := (HO5.out.lt k (by first | exact e | (cases a5 <;> first | exact e | cases e))).1; exact h9)))
                clear hm6 hx6 fz0 fz1 z0 z1
                go_wp2_with fail
                go_roundw
                case rel => exact ⟨j + 1, by omega, by go_num, by rw [crS_step st p j _ HXX.out, HNB.out]; first | exact HT.out.trans ⟨HR.out.1, HR.out.2.drew⟩ | exact HT.out.trans ⟨HR.out.1, HR.out.2.drew.drew⟩⟩
                case measure => simp [intOf]; omega
          · have hpa : p.at f = ⟨0, 0⟩ := by unfold DPicks.at; rw [List.getElem?_eq_none (by omega)]; rfl
            have hin' : decide ((f : Int) < (p.files.length : Int)) = false := by simp; omega
            have hin2 : decide (f < p.files.length) = false := by simp; omega
            have HPA := Lib.hid hpa
            clear hpa
            as_aux_lemma =>
            obtain ⟨kk, hkk⟩ : ∃ kk, kk = 0 := ⟨_, rfl⟩
            have hkk1 : kk ≤ 0 := Nat.le_of_eq hkk
            clear hkk
            have hnm : decide ((n : Int) < (m0 : Int)) = false := by simp; omega
            have hnm2 : decide (n < m0) = false := by simp; omega
            have hnm3 : decide ((n : Int) - (m0 : Int) < 0) = false := by simp; omega
            have HKN := Lib.hid (show keepN ⟨xb, m0⟩ (p.at f) = 0 by rw [HPA.out]; show min (0 : Int).toNat (xb.length - m0) = 0; omega)
            obtain ⟨L, hL⟩ : ∃ L, L = m0 + kk := ⟨_, rfl⟩
            have hLb : L ≤ n := by omega
            have hrun := run_prefixT 22 5 Try.underlying22 (fun W => by kernel_rfl) ax n cx L (row_addr HXR.out) (by have := row_cap7 HXR.out; omega)
            rw [show ((L : Nat) : Int) = (m0 : Int) by omega] at hrun
            have HTL := Lib.hid (show (xb.take L).length = L by rw [List.length_take, HNX.out]; omega)
            have HPRE := Lib.hid (show wr.ownsRow 0 5 1 (.slice ax L cx) L ((xb.take L).map bv) by
              have h9 := RB.pre (w := wr) (a := ax) (n := n) (c := cx) (b := xb) (by unfold RB; rw [HNX.out]; exact HXR.out) L (by rw [HNX.out]; exact hLb)
              unfold RB at h9
              rw [HTL.out] at h9
              exact h9)
            have HL := Lib.hid hL
            clear hL
            go_upto_region 18 with fail
            go_wp2_with (at_builtin; refine wpList_append_reads _ rfl _ _ 22 rfl wr.heap.size 5 i0 (.int .u8 0) 1 1 Try.underlying22 HI.out HZ0.out HZ1.out HZ2.out rfl (by decide) (.slice (some ⟨wr.heap.size + 2, 0, none⟩) 0 0) 0 [] rfl (lit_u8 (by simp) (by omega)) (.slice ax L cx) L ((xb.take L).map bv) rfl (reads_of_owns (ownsRow_below HPRE.out (by repeat (first | (with_reducible exact Below.refl _ _) | (with_reducible refine Below.setCell ?_ ?_ _) | (with_reducible refine Below.alloc ?_ ?_ _) | (with_reducible refine Below.drewN ?_ _) | (with_reducible refine Below.drew ?_) | (with_reducible exact Nat.le_refl _) | (focus (simp only [World.size_alloc, World.size_setCell, World.size_drew, World.size_drewN]; omega)) | omega | exact Nat.le_refl _ | (focus (simp; done)) | (focus (simp; omega)))))) (bv_one _) (by unfold maxLen; omega) (by omega) (by first | omega | (simp; done) | (simp; omega)) ?_; intro v1 w5 hown5 hgrow5 hat5; have hzq5 := hgrow5.size; simp only [World.size_alloc, World.size_setCell] at hzq5; have HB5 := Lib.hid (show Below wr.heap.size wr w5 from Below.grown (by repeat (first | (with_reducible exact Below.refl _ _) | (with_reducible refine Below.setCell ?_ ?_ _) | (with_reducible refine Below.alloc ?_ ?_ _) | (with_reducible refine Below.drewN ?_ _) | (with_reducible refine Below.drew ?_) | (with_reducible exact Nat.le_refl _) | (focus (simp only [World.size_alloc, World.size_setCell, World.size_drew, World.size_drewN]; omega)) | omega | exact Nat.le_refl _ | (focus (simp; done)) | (focus (simp; omega)))) hgrow5 (by first | omega | (simp; done) | (simp; omega)) (by simp [Value.ownBlock])); have hx5 := (hgrow5.block wr.heap.size (by first | omega | (simp; done) | (simp; omega)) (by simp [Value.ownBlock])).trans (by exact blk_alloc (blk_alloc (blk_new _ rfl) _) _); have ho5 := (hgrow5.block (wr.heap.size + 1) (by first | omega | (simp; done) | (simp; omega)) (by simp [Value.ownBlock])).trans (by exact blk_alloc (blk_new _ (by simp)) _); obtain ⟨t0, t1, tf⟩ := blk2 hx5; have tf0 := tf 0; have tf1 := tf 1; have hxl5 := blk_lt hx5; have hown5' : w5.ownsRow wr.heap.size 5 1 v1 L ((xb.take L).map bv) := (by simpa using hown5); obtain ⟨a5, c5, rfl⟩ := ownsRow_len hown5'; have HO5 := Lib.hid hown5'; clear hown5 hown5' hgrow5 hat5 tf)
            have HNB := Lib.hid (show ((crS st p j).fileAt f).settle (p.at f) = ⟨xb.take L, L⟩ by
              rw [← HXE.out, settle_no HKN.out HML.out]
              rw [show L = m0 by have := HL.out; omega])
            obtain ⟨w6, hw6⟩ : ∃ w6, w6 = (w5.setCell ⟨wr.heap.size, 0, none⟩ (.slice a5 L c5)).setCell ⟨wr.heap.size, 1, none⟩ (.int .i64 L) := ⟨_, rfl⟩
            have hkx : Keeps (fun k => k = wr.heap.size) w5 w6 := by rw [hw6]; exact (keeps_set 0 _).trans (keeps_set 1 _) fun _ _ e => e
            have HRB6 := Lib.hid (show RB w6 (.slice a5 L c5) (xb.take L) from rb_of (keep_row hkx (hits_one hx5) HO5.out (by show (5 + 1 : Nat) ≠ 70 + 1; decide)) rfl HTL.out.symm)
            have hx6 : w6.heap[wr.heap.size]? = some (.cells #[.slice a5 L c5, .int .i64 L] 70 (0, 0)) := by
              rw [hw6]
              simpa using blk_put (blk_put hx5 0 (.slice a5 L c5)) 1 (.int .i64 L)
            have HB6 := Lib.hid (show Below wr.heap.size wr w6 by rw [hw6]; exact Below.setCell (Below.setCell HB5.out (Nat.le_refl _) _) (Nat.le_refl _) _)
            go_upto_region 22 with fail
            rw [← hw6]
            clear hw6 hx5 ho5 t0 t1 tf0 tf1
            have hz6 := HB6.out.size
            have hm6 : w6.heap[m]? = _ := blk_below HBLK.out HB6.out
            have fz : ∀ i, w6.frozen? ⟨gf, i, none⟩ = false := fun i => (ownsRow_below HFI.out.1 HB6.out).frozenAt i
            have fz0 := fz (f * 2)
            have fz1 := fz (f * 2 + 1)
            clear fz
            have z0 := (HB6.out.cell (p := ⟨gf, f * 2, none⟩) hgf0).trans y0
            have z1 := (HB6.out.cell (p := ⟨gf, f * 2 + 1, none⟩) hgf0).trans y1
            have hgf2 : gf < w6.heap.size := by omega
            obtain ⟨SS, HSD⟩ : ∃ SS : World → Prop, Hid (SS = fun w' => w'.heap[m]? = some (.cells #[.int .i64 st.cap, vn, .slice (some ⟨g0, 0, none⟩) (st.lastDir p).length lc, .slice da st.deeds.length dc, .slice (some ⟨gf, 0, none⟩) fs.length cg, .int .i64 st.armed] 64 (0, 0)) ∧ w'.heap[wr.heap.size]? = some (.cells #[.slice a5 L c5, .int .i64 L] 70 (0, 0))) := ⟨_, Lib.hid rfl⟩
            refine wp_region_mask0 SS [3, 5] [0, 1, 3, 7, 0, 0, 63, 127] (.op 0 0 (.op 1 0 (.op 2 0 (.op 3 2 (.op 4 0 (.op 5 2 (.op 6 0 (.op 7 1 .nil)))))))) (by kernel_rfl) (by kernel_rfl) rfl (by kernel_rfl) (by kernel_rfl) ?_ ?_
            focus (rw [HSD.out]; exact ⟨hm6, hx6⟩)
            refine stepM0 rfl rfl (fun K hK => ?_)
            go_simp
            refine hK _ ?_
            clear hK K
            refine stepM0 rfl rfl (fun K hK => ?_)
            go_simp
            refine hK _ ?_
            clear hK K
            refine stepM0 rfl rfl (fun K hK => ?_)
            go_simp
            refine hK _ ?_
            clear hK K
            refine stepM2 rfl rfl ?_ (fun w1 hS => ?_) (fun K hK => ?_)
            rotate_left
            focus (rw [HSD.out] at hS; obtain ⟨s0, s1, s2, s3, s4, s5, _⟩ := cells6 hS.1; have d0 := cell_of_row _ _ 0 _ _ _ hS.2; have d1 := cell_of_row _ _ 1 _ _ _ hS.2; simp at d0 d1; go_simp; rfl)
            go_simp
            refine hK _ ?_
            clear hK K
            refine stepM0 rfl rfl (fun K hK => ?_)
            go_simp
            refine hK _ ?_
            clear hK K
            refine stepM2 rfl rfl ?_ (fun w1 hS => ?_) (fun K hK => ?_)
            rotate_left
            focus (rw [HSD.out] at hS; obtain ⟨s0, s1, s2, s3, s4, s5, _⟩ := cells6 hS.1; have d0 := cell_of_row _ _ 0 _ _ _ hS.2; have d1 := cell_of_row _ _ 1 _ _ _ hS.2; simp at d0 d1; go_simp; rfl)
            go_simp
            refine hK _ ?_
            clear hK K
            refine stepM0 rfl rfl (fun K hK => ?_)
            go_simp
            refine hK _ ?_
            clear hK K
            refine stepM1 rfl rfl (by kernel_rfl) (fun K hK => ?_)
            go_wp2
            try refine stepMnil0 ?_
            clear HSD SS
            have HR := Lib.hid (rset_fin (st := crS st p j) (x := ⟨(xb.take L), L⟩) HBLK.out HM.out HMR.out HEN.out HEL.out HDE.out HFI.out HFS.out hfl HB6.out HRB6.out (fun k e => .inr (by have h9 := (HO5.out.lt k (by first | exact e | (cases a5 <;> first | exact e | cases e))).1; exact h9)))
            clear hm6 hx6 fz0 fz1 z0 z1
            go_wp2_with fail
            go_roundw
            case rel => exact ⟨j + 1, by omega, by go_num, by rw [crS_step st p j _ HXX.out, HNB.out]; first | exact HT.out.trans ⟨HR.out.1, HR.out.2.drew⟩ | exact HT.out.trans ⟨HR.out.1, HR.out.2.drew.drew⟩⟩
            case measure => simp [intOf]; omega
        · have hjn : decide ((j : Int) < ((st.lastDir p).length : Int)) = false := by simp; omega
          obtain rfl : j = (st.lastDir p).length := by omega
          have hblk2 : wr.heap[m]? = some (.cells #[.int .i64 st.cap, vn, .slice la (st.lastDir p).length lc, .slice da st.deeds.length dc, vf, .int .i64 st.armed] 64 (0, 0)) := hblk
          have HBLK := Lib.hid hblk2
          have hmr := blk_lt hblk2
          obtain ⟨c0, c1, c2, c3, c4, c5, cfz⟩ := cells6 hblk2
          have cf1 := cfz 1
          have cf3 := cfz 3
          have cf5 := cfz 5
          have HR := Lib.hid (rfix (st' := { crS st p (st.lastDir p).length with now := st.lastDir p, deeds := [], armed := -1 }) (w' := ((wr.setCell ⟨m, 1, none⟩ (.slice la (st.lastDir p).length lc)).setCell ⟨m, 3, none⟩ (.slice none 0 0)).setCell ⟨m, 5, none⟩ (.int .i64 (-1))) hblk2 rfl (((keeps_set 1 _).trans (keeps_set 3 _) fun _ _ e => e).trans (keeps_set 5 _) fun _ _ e => e)
            (by have h9 := blk_put (blk_put (blk_put hblk2 1 (.slice la (st.lastDir p).length lc)) 3 (.slice none 0 0)) 5 (.int .i64 (-1)); simp only [List.setIfInBounds_toArray, List.set_cons_succ, List.set_cons_zero] at h9; exact h9) HEL.out HEL.out (World.ownsRow_nil _ _ _ _) HFI.out HFS.out HM.out (fun k e => by
              rcases e with e | e | e | e
              · exact HMR.out k (.inr (.inl e))
              · exact HMR.out k (.inr (.inl e))
              · cases e
              · exact HMR.out k (.inr (.inr (.inr e)))))
          clear ht hbx hblk hblk2 hen hel hel' hde hde' hfi hfs hM hMr cfz
          go_wp2_with fail
          go_end0
          refine ⟨rfl, ?_⟩
          have h9 := HT.out.trans HR.out
          rw [crS_end] at h9
          exact h9.from HB1.out
end Go.Proofs.Ytcicnjlkcbimgaa
