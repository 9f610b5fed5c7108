/- corncriblaw07.same. -/
import Derived.Test.YtcicnjlkcbimgaaDp3
import Derived.Test.YtcicnjlkcbimgaaDiskAlive
import Derived.Test.YtcicnjlkcbimgaaDiskFar
import Derived.Test.YtcicnjlkcbimgaaSame
namespace Go.Proofs.Ytcicnjlkcbimgaa
open Go.RowKit Go.Maps
theorem DS.widen {w w' : World} {d K : Nat} {P : Nat → Prop} {st : Dk} (h : DS w d P K st) (hk : Keeps P w w') : DS w' d (fun k => P k ∨ (w.heap.size ≤ k ∧ k < w'.heap.size)) K st := by
  obtain ⟨F, q, h1, h2, h3⟩ := h
  exact ⟨F, q, h1.keeps hk (fun k hf => (h3 k hf).1), h2, fun k hf => ⟨fun e => e.elim (h3 k hf).1 fun e => by have := (h3 k hf).2; omega, Nat.lt_of_lt_of_le (h3 k hf).2 hk.size⟩⟩
theorem names_map {l : Dir} (h : Srt l) : namesOf l = l.map (·.1) := names_srt h
set_option maxRecDepth 100000 in
set_option maxHeartbeats 4000000 in
theorem same07_any {d K m N : Nat} {P M : Nat → Prop} {st : Dk} {w : World} (h : DS w d P K st) (hm : RefAt w m M st) (hok : DkOk N st) (hs : Srt st.now) :
    Calls Try.prog 29 #[(.pointer (some ⟨d, 0, none⟩)), (.pointer (some ⟨m, 0, none⟩))] w fun e w' => e = .returned (.bool true) ∧ Below w.heap.size w w' := by
  have H := Lib.hid h
  have HR := Lib.hid hm
  have HOK := Lib.hid hok
  have HNM := Lib.hid (names_map hs)
  obtain ⟨vn, vl, vd, vf, fs, hblk, hen, hel, hde, hfi, hfs, hM, hMr⟩ := hm
  obtain ⟨na, nc, rfl⟩ := ownsRow_len hen
  have HEN := Lib.hid hen
  have HBLK := Lib.hid hblk
  have hml := blk_lt hblk
  have hlen := hok.lnow
  obtain ⟨bb, hbb⟩ : ∃ bb : Bool, bb = (st.armed == 0) := ⟨_, rfl⟩
  have HBB := Lib.hid hbb
  have hbe : (st.armed == 0) = bb := hbb.symm
  have hbd : decide (st.armed = 0) = bb := by rw [← hbe]; by_cases e : st.armed = 0 <;> simp [e]
  clear h hok hs hblk hen hel hde hfi hfs hM hMr hbb
  go_enter Try.func29, Try.ntmps29
  go_wp2_with fail
  refine (names_ds H.out).mono ?_
  rintro e w1 ⟨v1, rfl, ho1, hb1⟩
  obtain ⟨a1, c1, rfl⟩ := ownsRow_len ho1
  rw [HNM.out] at ho1
  have HO1 := Lib.hid ho1
  have HB1 := Lib.hid hb1
  have H1 := Lib.hid (H.out.below hb1)
  have HR1 := Lib.hid (HR.out.below hb1)
  have hbm1 := blk_below HBLK.out hb1
  have hz1 := hb1.size
  clear ho1 hb1
  go_upto_region 2 with fail
  obtain ⟨SS, HSD⟩ : ∃ SS : World → Prop, Hid (SS = fun w' => w'.heap[m]? = some (.cells #[.int .i64 st.cap, .slice na st.now.length nc, vl, vd, vf, .int .i64 st.armed] 64 (0, 0))) := ⟨_, Lib.hid rfl⟩
  refine wp_region_mask0 SS [5, 21] [0, 1, 0, 4, 12, 28, 60, 127, 255, 511, 1023, 511, 4095, 8191, 16383, 32767, 65535, 131071, 65535, 327679, 851967, 1900543, 3997695, 8388607, 16777215] (.op 0 0 (.op 1 0 (.op 2 0 (.op 3 0 (.op 4 0 (.op 5 2 (.op 6 0 (.op 7 0 (.op 8 0 (.op 9 0 (.op 11 0 (.op 10 1 (.op 12 1 (.op 13 0 (.op 14 0 (.op 15 0 (.op 16 0 (.op 18 0 (.op 19 0 (.op 20 0 (.op 21 2 (.op 22 0 (.op 17 1 (.op 23 0 (.op 24 0 .nil))))))))))))))))))))))))) (by kernel_rfl) (by kernel_rfl) rfl (by kernel_rfl) (by kernel_rfl) ?_ ?_
  focus (rw [HSD.out]; exact hbm1)
  refine stepM0 rfl rfl (fun K hK => ?_)
  go_simp
  refine hK _ ?_
  clear hK K
  refine stepM0 rfl rfl (fun K hK => ?_)
  go_simp
  refine hK _ ?_
  clear hK K
  refine stepM0 rfl rfl (fun K hK => ?_)
  go_simp
  refine hK _ ?_
  clear hK K
  refine stepM0 rfl rfl (fun K hK => ?_)
  go_simp
  refine hK _ ?_
  clear hK K
  refine stepM0 rfl rfl (fun K hK => ?_)
  go_simp
  refine hK _ ?_
  clear hK K
  refine stepM2 rfl rfl ?_ (fun w1 hS => ?_) (fun K hK => ?_)
  rotate_left
  focus (rw [HSD.out] at hS; obtain ⟨s0, s1, s2, s3, s4, s5, _⟩ := cells6 hS; go_simp; rfl)
  go_simp
  refine hK _ ?_
  clear hK K
  refine stepM0 rfl rfl (fun K hK => ?_)
  go_simp
  refine hK _ ?_
  clear hK K
  refine stepM0 rfl rfl (fun K hK => ?_)
  go_simp
  refine hK _ ?_
  clear hK K
  refine stepM0 rfl rfl (fun K hK => ?_)
  go_simp
  refine hK _ ?_
  clear hK K
  refine stepM0 rfl rfl (fun K hK => ?_)
  go_simp
  refine hK _ ?_
  clear hK K
  refine stepM0 rfl rfl (fun K hK => ?_)
  go_simp
  refine hK _ ?_
  clear hK K
  refine stepM1S rfl rfl (fun K hK => ?_)
  (go_wp2_with fail; refine Calls.mono (used_ds (H1.out.below (by repeat (first | (with_reducible exact Below.refl _ _) | (with_reducible refine Below.setCell ?_ ?_ _) | (with_reducible refine Below.alloc ?_ ?_ _) | (with_reducible refine Below.drewN ?_ _) | (with_reducible refine Below.drew ?_) | (with_reducible exact Nat.le_refl _) | (focus (simp only [World.size_alloc, World.size_setCell, World.size_drew, World.size_drewN]; omega)) | omega | exact Nat.le_refl _ | (focus (simp; done)) | (focus (simp; omega)))))) ?_; rintro e w2 ⟨rfl, hb2⟩; have hb2' := (show Below w1.heap.size w1 w2 from Below.trans (by repeat (first | (with_reducible exact Below.refl _ _) | (with_reducible refine Below.setCell ?_ ?_ _) | (with_reducible refine Below.alloc ?_ ?_ _) | (with_reducible refine Below.drewN ?_ _) | (with_reducible refine Below.drew ?_) | (with_reducible exact Nat.le_refl _) | (focus (simp only [World.size_alloc, World.size_setCell, World.size_drew, World.size_drewN]; omega)) | omega | exact Nat.le_refl _ | (focus (simp; done)) | (focus (simp; omega)))) (hb2.mono (by simp))); have HB2 := Lib.hid hb2'; have hbm2 := blk_below hbm1 hb2'; have hz2 := hb2'.size; clear hb2 hb2'; go_wp2)
  refine ⟨by rw [HSD.out]; exact (hbm2), ?_⟩
  refine stepM1S rfl rfl (fun K hK => ?_)
  (go_wp2_with fail; refine Calls.mono (rused_any m N M st _ ((HR1.out.below HB2.out).below (by repeat (first | (with_reducible exact Below.refl _ _) | (with_reducible refine Below.setCell ?_ ?_ _) | (with_reducible refine Below.alloc ?_ ?_ _) | (with_reducible refine Below.drewN ?_ _) | (with_reducible refine Below.drew ?_) | (with_reducible exact Nat.le_refl _) | (focus (simp only [World.size_alloc, World.size_setCell, World.size_drew, World.size_drewN]; omega)) | omega | exact Nat.le_refl _ | (focus (simp; done)) | (focus (simp; omega))))) HOK.out) ?_; rintro e w3 ⟨rfl, hb3⟩; have hb3' := (show Below w2.heap.size w2 w3 from Below.trans (by repeat (first | (with_reducible exact Below.refl _ _) | (with_reducible refine Below.setCell ?_ ?_ _) | (with_reducible refine Below.alloc ?_ ?_ _) | (with_reducible refine Below.drewN ?_ _) | (with_reducible refine Below.drew ?_) | (with_reducible exact Nat.le_refl _) | (focus (simp only [World.size_alloc, World.size_setCell, World.size_drew, World.size_drewN]; omega)) | omega | exact Nat.le_refl _ | (focus (simp; done)) | (focus (simp; omega)))) (hb3.mono (by simp))); have HB3 := Lib.hid (HB2.out.trans (hb3'.mono hz2)); have hbm3 := blk_below hbm2 hb3'; have hz3 := hb3'.size; clear hb3 hb3'; go_wp2)
  refine ⟨by rw [HSD.out]; exact (hbm3), ?_⟩
  refine stepM0 rfl rfl (fun K hK => ?_)
  go_simp
  refine hK _ ?_
  clear hK K
  refine stepM0 rfl rfl (fun K hK => ?_)
  go_simp
  refine hK _ ?_
  clear hK K
  refine stepM0 rfl rfl (fun K hK => ?_)
  go_simp
  refine hK _ ?_
  clear hK K
  refine stepM0 rfl rfl (fun K hK => ?_)
  go_simp
  refine hK _ ?_
  clear hK K
  refine stepM0 rfl rfl (fun K hK => ?_)
  go_simp
  refine hK _ ?_
  clear hK K
  refine stepM0 rfl rfl (fun K hK => ?_)
  go_simp
  refine hK _ ?_
  clear hK K
  refine stepM0 rfl rfl (fun K hK => ?_)
  go_simp
  refine hK _ ?_
  clear hK K
  refine stepM2 rfl rfl ?_ (fun w1 hS => ?_) (fun K hK => ?_)
  rotate_left
  focus (rw [HSD.out] at hS; obtain ⟨s0, s1, s2, s3, s4, s5, _⟩ := cells6 hS; go_simp; rfl)
  go_simp
  refine hK _ ?_
  clear hK K
  refine stepM0 rfl rfl (fun K hK => ?_)
  go_simp
  refine hK _ ?_
  clear hK K
  refine stepM1S rfl rfl (fun K hK => ?_)
  (go_wp2_with fail; refine Calls.mono (down_ds ((H1.out.below HB3.out).below (by repeat (first | (with_reducible exact Below.refl _ _) | (with_reducible refine Below.setCell ?_ ?_ _) | (with_reducible refine Below.alloc ?_ ?_ _) | (with_reducible refine Below.drewN ?_ _) | (with_reducible refine Below.drew ?_) | (with_reducible exact Nat.le_refl _) | (focus (simp only [World.size_alloc, World.size_setCell, World.size_drew, World.size_drewN]; omega)) | omega | exact Nat.le_refl _ | (focus (simp; done)) | (focus (simp; omega)))))) ?_; rintro e w4 ⟨rfl, rfl⟩; go_wp2)
  refine ⟨by rw [HSD.out]; exact (hbm3), ?_⟩
  refine stepM0 rfl rfl (fun K hK => ?_)
  go_simp
  refine hK _ ?_
  clear hK K
  refine stepM0 rfl rfl (fun K hK => ?_)
  go_simp
  refine hK _ ?_
  clear hK K
  try refine stepMnil0 ?_
  clear HSD SS
  have HB03 := Lib.hid (HB1.out.trans (HB3.out.mono hz1))
  clear hbm1 hbm2 hbm3
  go_wp2_with fail
  go_loopw [6] (fun i wr => ∃ j : Nat, j ≤ st.now.length ∧ i = .int .i64 j ∧ Below w3.heap.size w3 wr) (fun i _ => st.now.length - (intOf i).toNat)
  case atStart => exact ⟨0, Nat.zero_le _, rfl, by first | exact Below.refl _ _ | exact (Below.refl _ _).drew⟩
  case round =>
    obtain ⟨j, hj, rfl, hbr⟩ := hrel
    have HBR := Lib.hid (HB03.out.trans (hbr.mono (by have := HB03.out.size; omega)))
    have HBR1 := Lib.hid (HB3.out.trans (hbr.mono (by have := HB3.out.size; omega)))
    have HBRR := Lib.hid hbr
    clear hbr
    by_cases hlt : j < st.now.length
    · obtain ⟨x, hx⟩ : ∃ x, st.now[j]? = some x := ⟨_, List.getElem?_eq_getElem hlt⟩
      obtain ⟨g, c, e, _, hgl, x0, x1⟩ := ents_cell (ownsRow_below HEN.out HBR.out) hx
      obtain ⟨rfl, -, rfl⟩ := sl_inj e
      obtain ⟨g1, rfl⟩ : ∃ g, a1 = some ⟨g, 0, none⟩ := by
        rcases HO1.out.2 with ⟨e, h0⟩ | ⟨g, _, _, e, _⟩
        · omega
        · simp only [Value.slice.injEq] at e
          exact ⟨g, e.1⟩
      have hc1 : wr.cell? ⟨g1, j, none⟩ = some (.string ⟨x.1.toArray⟩) := by
        rw [(ownsRow_below HO1.out HBR1.out).cellAt j (by omega), List.getElem?_map, List.getElem?_map, hx]
        rfl
      have hg1 := ((ownsRow_below HO1.out HBR1.out).lt g1 rfl).2
      have hbmr := blk_below HBLK.out HBR.out
      obtain ⟨m0, m1, m2, m3, m4, m5, _⟩ := cells6 hbmr
      have hmlr := blk_lt hbmr
      have hj0 : (0 : Int) ≤ (j : Int) := by omega
      have hj1 : (j : Int) < (st.now.length : Int) := by omega
      obtain ⟨s, f⟩ := x
      simp only at x0 x1 hc1
      clear hx e hbmr
      go_wp2_with fail
      refine wp_region_now0 [3, 7, 11] [(0, 0), (1, 0), (2, 0), (3, 2), (4, 0), (5, 0), (6, 0), (7, 2), (8, 0), (9, 0), (10, 0), (11, 2), (12, 0)] (by kernel_rfl) (by kernel_rfl) rfl (by kernel_rfl) ?_
      refine stepE0 rfl rfl (fun K hK => ?_)
      go_simp
      refine hK _ ?_
      clear hK K
      refine stepE0 rfl rfl (fun K hK => ?_)
      go_simp
      refine hK _ ?_
      clear hK K
      refine stepE0 rfl rfl (fun K hK => ?_)
      go_simp
      refine hK _ ?_
      clear hK K
      refine stepE2 rfl rfl ?_ (fun w1 hS => ?_) (fun K hK => ?_)
      rotate_left
      focus (obtain rfl : w1 = _ := hS; go_simp; rfl)
      go_simp
      refine hK _ ?_
      clear hK K
      refine stepE0 rfl rfl (fun K hK => ?_)
      go_simp
      refine hK _ ?_
      clear hK K
      refine stepE0 rfl rfl (fun K hK => ?_)
      go_simp
      refine hK _ ?_
      clear hK K
      refine stepE0 rfl rfl (fun K hK => ?_)
      go_simp
      refine hK _ ?_
      clear hK K
      refine stepE2 rfl rfl ?_ (fun w1 hS => ?_) (fun K hK => ?_)
      rotate_left
      focus (obtain rfl : w1 = _ := hS; go_simp; rfl)
      go_simp
      refine hK _ ?_
      clear hK K
      refine stepE0 rfl rfl (fun K hK => ?_)
      go_simp
      refine hK _ ?_
      clear hK K
      refine stepE0 rfl rfl (fun K hK => ?_)
      go_simp
      refine hK _ ?_
      clear hK K
      refine stepE0 rfl rfl (fun K hK => ?_)
      go_simp
      refine hK _ ?_
      clear hK K
      refine stepE2 rfl rfl ?_ (fun w1 hS => ?_) (fun K hK => ?_)
      rotate_left
      focus (obtain rfl : w1 = _ := hS; go_simp; rfl)
      go_simp
      refine hK _ ?_
      clear hK K
      refine stepE0 rfl rfl (fun K hK => ?_)
      go_simp
      refine hK _ ?_
      clear hK K
      try refine stepEnil0 ?_
      go_wp2_with fail
      go_roundw
      case rel => exact ⟨j + 1, by omega, by go_num, by first | exact HBRR.out | exact HBRR.out.drew⟩
      case measure => simp [intOf]; omega
    · have hjn : decide ((j : Int) < (st.now.length : Int)) = false := by simp; omega
      go_wp2_with fail
      go_ret
      exact ⟨rfl, HBR.out⟩
end Go.Proofs.Ytcicnjlkcbimgaa
