/- Joined texts: Ref07s, Ref07t, OpenAct7, DiskFar, Same07, DiskPlays. -/
import Derived.Test.YtcicnjlkcbimgaaDp7
/- corncribref07: (*Disk).Do (written by genref07d.py). -/
namespace Go.Proofs.Ytcicnjlkcbimgaa
open Go.RowKit Go.Maps
set_option maxRecDepth 100000 in
set_option maxHeartbeats 4000000 in
theorem rdo_dead (m N : Nat) (M : Nat → Prop) (st : Dk) (nm to : Nm) (b : List UInt8) (ab af : Option Addr) (cb lf cf : Nat) (an am pn : Int) (w : World) (h : RefAt w m M st) (hok : DkOk N st) (hN : N < 4096) (k : Int) (h8 : k ≠ 8) (ha : st.armed = 0) :
    Calls Try.prog 28 #[(.pointer (some ⟨m, 0, none⟩)), .agg #[.int .i64 k, .string ⟨nm.toArray⟩, .string ⟨to.toArray⟩, .slice ab b.length cb, .int .i64 an, .int .i64 am, .int .i64 pn, .slice af lf cf]] w (RDoOut w m M [] 0 12 st) := by
  have H := Lib.hid h
  have hk8 : (k == 8) = false := by simpa using h8
  have hk82 : decide (k = 8) = false := by simpa using h8
  have HOK := Lib.hid hok
  obtain ⟨vn, vl, vd, vf, fs, hblk, hen, hel, hde, hfi, hfs, hM, hMr⟩ := h
  have HBLK := Lib.hid hblk
  have hml := blk_lt hblk
  obtain ⟨c0, c1, c2, c3, c4, c5, cfz⟩ := cells6 hblk
  have cf5 := cfz 5
  have HEN := Lib.hid hen
  have HEL := Lib.hid hel
  have HDE := Lib.hid hde
  have HFI := Lib.hid hfi
  have HFS := Lib.hid hfs
  have HM := Lib.hid hM
  have HMR := Lib.hid hMr
  clear hblk hen hel hde hfi hfs hM hMr hok cfz
  rw [ha] at c5
  go_enter Try.func28, Try.ntmps28
  go_wp2_with fail
  go_ret3
  exact ⟨.slice none 0 0, rfl, reads_none _ _, RTo.below H.out (by repeat (first | (with_reducible exact Below.refl _ _) | (with_reducible refine Below.setCell ?_ ?_ _) | (with_reducible refine Below.alloc ?_ ?_ _) | (with_reducible refine Below.drewN ?_ _) | (with_reducible refine Below.drew ?_) | (with_reducible exact Nat.le_refl _) | (focus (simp only [World.size_alloc, World.size_setCell, World.size_drew, World.size_drewN]; omega)) | omega | exact Nat.le_refl _ | (focus (simp; done)) | (focus (simp; omega))))⟩
set_option maxRecDepth 100000 in
set_option maxHeartbeats 4000000 in
theorem rdo7_no (m N : Nat) (M : Nat → Prop) (st : Dk) (nm to : Nm) (b : List UInt8) (ab af : Option Addr) (cb lf cf : Nat) (an am pn : Int) (w : World) (h : RefAt w m M st) (hok : DkOk N st) (hN : N < 4096) (ha : st.armed ≠ 0) (hn : an < 0) :
    Calls Try.prog 28 #[(.pointer (some ⟨m, 0, none⟩)), .agg #[.int .i64 7, .string ⟨nm.toArray⟩, .string ⟨to.toArray⟩, .slice ab b.length cb, .int .i64 an, .int .i64 am, .int .i64 pn, .slice af lf cf]] w (RDoOut w m M [] 0 1 st) := by
  have ha0 : (st.armed == 0) = false := by simpa using ha
  have ha1 : decide (st.armed = 0) = false := by simpa using ha
  have H := Lib.hid h
  have HOK := Lib.hid hok
  obtain ⟨vn, vl, vd, vf, fs, hblk, hen, hel, hde, hfi, hfs, hM, hMr⟩ := h
  have HBLK := Lib.hid hblk
  have hml := blk_lt hblk
  obtain ⟨c0, c1, c2, c3, c4, c5, cfz⟩ := cells6 hblk
  have cf5 := cfz 5
  have HEN := Lib.hid hen
  have HEL := Lib.hid hel
  have HDE := Lib.hid hde
  have HFI := Lib.hid hfi
  have HFS := Lib.hid hfs
  have HM := Lib.hid hM
  have HMR := Lib.hid hMr
  clear hblk hen hel hde hfi hfs hM hMr hok cfz
  go_enter Try.func28, Try.ntmps28
  go_wp2_with fail
  go_ret3
  exact ⟨.slice none 0 0, rfl, reads_none _ _, RTo.below H.out (by repeat (first | (with_reducible exact Below.refl _ _) | (with_reducible refine Below.setCell ?_ ?_ _) | (with_reducible refine Below.alloc ?_ ?_ _) | (with_reducible refine Below.drewN ?_ _) | (with_reducible refine Below.drew ?_) | (with_reducible exact Nat.le_refl _) | (focus (simp only [World.size_alloc, World.size_setCell, World.size_drew, World.size_drewN]; omega)) | omega | exact Nat.le_refl _ | (focus (simp; done)) | (focus (simp; omega))))⟩
set_option maxRecDepth 100000 in
set_option maxHeartbeats 4000000 in
theorem rdo7_do (m N : Nat) (M : Nat → Prop) (st : Dk) (nm to : Nm) (b : List UInt8) (ab af : Option Addr) (cb lf cf : Nat) (an am pn : Int) (w : World) (h : RefAt w m M st) (hok : DkOk N st) (hN : N < 4096) (ha : st.armed ≠ 0) (hn : ¬ an < 0) :
    Calls Try.prog 28 #[(.pointer (some ⟨m, 0, none⟩)), .agg #[.int .i64 7, .string ⟨nm.toArray⟩, .string ⟨to.toArray⟩, .slice ab b.length cb, .int .i64 an, .int .i64 am, .int .i64 pn, .slice af lf cf]] w (RDoOut w m M [] 0 0 { st with armed := an }) := by
  have ha0 : (st.armed == 0) = false := by simpa using ha
  have ha1 : decide (st.armed = 0) = false := by simpa using ha
  have hn0 : decide (an < 0) = false := by simpa using hn
  have H := Lib.hid h
  have HOK := Lib.hid hok
  obtain ⟨vn, vl, vd, vf, fs, hblk, hen, hel, hde, hfi, hfs, hM, hMr⟩ := h
  have HBLK := Lib.hid hblk
  have hml := blk_lt hblk
  obtain ⟨c0, c1, c2, c3, c4, c5, cfz⟩ := cells6 hblk
  have cf5 := cfz 5
  have HEN := Lib.hid hen
  have HEL := Lib.hid hel
  have HDE := Lib.hid hde
  have HFI := Lib.hid hfi
  have HFS := Lib.hid hfs
  have HM := Lib.hid hM
  have HMR := Lib.hid hMr
  clear hblk hen hel hde hfi hfs hM hMr hok cfz
  go_enter Try.func28, Try.ntmps28
  go_wp2_with fail
  go_ret3
  have hR := rfix (st' := { st with armed := an }) (w' := w.setCell ⟨m, 5, none⟩ (.int .i64 an)) HBLK.out rfl (keeps_set 5 _) (by have h9 := blk_put HBLK.out 5 (.int .i64 an); simp only [List.setIfInBounds_toArray, List.set_cons_succ, List.set_cons_zero] at h9; exact h9) HEN.out HEL.out HDE.out HFI.out HFS.out HM.out HMR.out
  exact ⟨.slice none 0 0, rfl, reads_none _ _, hR.after (by repeat (first | (with_reducible exact Below.refl _ _) | (with_reducible refine Below.setCell ?_ ?_ _) | (with_reducible refine Below.alloc ?_ ?_ _) | (with_reducible refine Below.drewN ?_ _) | (with_reducible refine Below.drew ?_) | (with_reducible exact Nat.le_refl _) | (focus (simp only [World.size_alloc, World.size_setCell, World.size_drew, World.size_drewN]; omega)) | omega | exact Nat.le_refl _ | (focus (simp; done)) | (focus (simp; omega))))⟩
set_option maxRecDepth 100000 in
set_option maxHeartbeats 4000000 in
theorem rdo8 (m N : Nat) (M : Nat → Prop) (st : Dk) (nm to : Nm) (b : List UInt8) (ab af : Option Addr) (cb lf cf : Nat) (an am pn : Int) (w : World) (h : RefAt w m M st) (hok : DkOk N st) (hN : N < 4096) (hks : ∀ x ∈ st.deeds, x.kind ≤ 2) (hMl : ∀ k, M k → k < w.heap.size) (fp : List DPick) (hlf : fp.length = lf) (hp : ∀ w', Keeps M w w' → Reads w' 2 (.slice af lf cf) lf (fp.flatMap DPick.row)) (hnf : lf ≤ 1000) (hn1 : -9223372036854775808 ≤ pn) (hn2 : pn ≤ 9223372036854775807) (hpk : ∀ x ∈ fp, PickOk x) :
    Calls Try.prog 28 #[(.pointer (some ⟨m, 0, none⟩)), .agg #[.int .i64 8, .string ⟨nm.toArray⟩, .string ⟨to.toArray⟩, .slice ab b.length cb, .int .i64 an, .int .i64 am, .int .i64 pn, .slice af lf cf]] w (RDoOut w m M [] 0 0 (st.crash ⟨pn, fp⟩)) := by
  subst hlf
  have HKS := Lib.hid hks
  have HML := Lib.hid hMl
  have HP := Lib.hid hp
  have HPK := Lib.hid hpk
  clear hks hMl hp hpk
  have H := Lib.hid h
  have HOK := Lib.hid hok
  obtain ⟨vn, vl, vd, vf, fs, hblk, hen, hel, hde, hfi, hfs, hM, hMr⟩ := h
  have HBLK := Lib.hid hblk
  have hml := blk_lt hblk
  obtain ⟨c0, c1, c2, c3, c4, c5, cfz⟩ := cells6 hblk
  have cf5 := cfz 5
  have HEN := Lib.hid hen
  have HEL := Lib.hid hel
  have HDE := Lib.hid hde
  have HFI := Lib.hid hfi
  have HFS := Lib.hid hfs
  have HM := Lib.hid hM
  have HMR := Lib.hid hMr
  clear hblk hen hel hde hfi hfs hM hMr hok cfz
  go_enter Try.func28, Try.ntmps28
  go_wp2_with fail
  refine (rcrash_any m N M st ⟨pn, fp⟩ af cf _ (H.out.below (by repeat (first | (with_reducible exact Below.refl _ _) | (with_reducible refine Below.setCell ?_ ?_ _) | (with_reducible refine Below.alloc ?_ ?_ _) | (with_reducible refine Below.drewN ?_ _) | (with_reducible refine Below.drew ?_) | (with_reducible exact Nat.le_refl _) | (focus (simp only [World.size_alloc, World.size_setCell, World.size_drew, World.size_drewN]; omega)) | omega | exact Nat.le_refl _ | (focus (simp; done)) | (focus (simp; omega))))) HOK.out (by omega) HKS.out (fun k hk => by have := HML.out k hk; simp; omega) (fun w' hk => HP.out w' ((keeps_below M (by repeat (first | (with_reducible exact Below.refl _ _) | (with_reducible refine Below.setCell ?_ ?_ _) | (with_reducible refine Below.alloc ?_ ?_ _) | (with_reducible refine Below.drewN ?_ _) | (with_reducible refine Below.drew ?_) | (with_reducible exact Nat.le_refl _) | (focus (simp only [World.size_alloc, World.size_setCell, World.size_drew, World.size_drewN]; omega)) | omega | exact Nat.le_refl _ | (focus (simp; done)) | (focus (simp; omega))))).trans hk fun _ _ e => e)) hnf hn1 hn2 HPK.out).mono ?_
  rintro e w2 ⟨rfl, h2⟩
  have H2 := Lib.hid h2
  clear h2
  go_wp2_with fail
  go_ret3
  exact ⟨.slice none 0 0, rfl, reads_none _ _, H2.out.from (by repeat (first | (with_reducible exact Below.refl _ _) | (with_reducible refine Below.setCell ?_ ?_ _) | (with_reducible refine Below.alloc ?_ ?_ _) | (with_reducible refine Below.drewN ?_ _) | (with_reducible refine Below.drew ?_) | (with_reducible exact Nat.le_refl _) | (focus (simp only [World.size_alloc, World.size_setCell, World.size_drew, World.size_drewN]; omega)) | omega | exact Nat.le_refl _ | (focus (simp; done)) | (focus (simp; omega))))⟩
set_option maxRecDepth 100000 in
set_option maxHeartbeats 4000000 in
theorem rdo_0 (m N : Nat) (M : Nat → Prop) (st : Dk) (nm to : Nm) (b : List UInt8) (ab af : Option Addr) (cb lf cf : Nat) (an am pn : Int) (w : World) (h : RefAt w m M st) (hok : DkOk N st) (hN : N < 4096) (ha : st.armed ≠ 0) (r : Nat × Dk) (hrs : r.1 ≠ 0 → r.2 = st) (hr15 : r.1 ≤ 15) (hd : ∀ W, Below w.heap.size w W → Calls Try.prog 47 #[(.pointer (some ⟨m, 0, none⟩)), .agg #[.int .i64 0, .string ⟨nm.toArray⟩, .string ⟨to.toArray⟩, .slice ab b.length cb, .int .i64 an, .int .i64 am, .int .i64 pn, .slice af lf cf]] W (RDeedOut W m M st r)) :
    Calls Try.prog 28 #[(.pointer (some ⟨m, 0, none⟩)), .agg #[.int .i64 0, .string ⟨nm.toArray⟩, .string ⟨to.toArray⟩, .slice ab b.length cb, .int .i64 an, .int .i64 am, .int .i64 pn, .slice af lf cf]] w (RDoOut w m M [] 0 r.1 r.2) := by
  have HD := Lib.hid hd
  have HRS := Lib.hid hrs
  clear hd hrs
  have ha0 : (st.armed == 0) = false := by simpa using ha
  have ha1 : decide (st.armed = 0) = false := by simpa using ha
  have H := Lib.hid h
  have HOK := Lib.hid hok
  obtain ⟨vn, vl, vd, vf, fs, hblk, hen, hel, hde, hfi, hfs, hM, hMr⟩ := h
  have HBLK := Lib.hid hblk
  have hml := blk_lt hblk
  obtain ⟨c0, c1, c2, c3, c4, c5, cfz⟩ := cells6 hblk
  have cf5 := cfz 5
  have HEN := Lib.hid hen
  have HEL := Lib.hid hel
  have HDE := Lib.hid hde
  have HFI := Lib.hid hfi
  have HFS := Lib.hid hfs
  have HM := Lib.hid hM
  have HMR := Lib.hid hMr
  clear hblk hen hel hde hfi hfs hM hMr hok cfz
  go_enter Try.func28, Try.ntmps28
  go_wp2_with fail
  refine (HD.out _ (by repeat (first | (with_reducible exact Below.refl _ _) | (with_reducible refine Below.setCell ?_ ?_ _) | (with_reducible refine Below.alloc ?_ ?_ _) | (with_reducible refine Below.drewN ?_ _) | (with_reducible refine Below.drew ?_) | (with_reducible exact Nat.le_refl _) | (focus (simp only [World.size_alloc, World.size_setCell, World.size_drew, World.size_drewN]; omega)) | omega | exact Nat.le_refl _ | (focus (simp; done)) | (focus (simp; omega))))).mono ?_
  rintro e w2 ⟨rfl, s, hR, has, h0, h1⟩
  obtain ⟨r1, r2⟩ := r
  simp only at h0 h1 hr15 HRS ⊢
  have HAB := Lib.hid HOK.out.armed
  have hsz := hR.2.size
  simp only [World.size_alloc] at hsz
  have HRT := Lib.hid (show RTo w w2 m M s from hR.from (by repeat (first | (with_reducible exact Below.refl _ _) | (with_reducible refine Below.setCell ?_ ?_ _) | (with_reducible refine Below.alloc ?_ ?_ _) | (with_reducible refine Below.drewN ?_ _) | (with_reducible refine Below.drew ?_) | (with_reducible exact Nat.le_refl _) | (focus (simp only [World.size_alloc, World.size_setCell, World.size_drew, World.size_drewN]; omega)) | omega | exact Nat.le_refl _ | (focus (simp; done)) | (focus (simp; omega)))))
  have HAS := Lib.hid has
  clear hR has c0 c1 c2 c3 c4 c5 cf5 HBLK HEN HEL HDE HFI HFS HM HMR
  obtain ⟨vn, vl, vd, vf, fs, hblk, hen, hel, hde, hfi, hfs, hM, hMr⟩ := HRT.out.1
  have HBLK := Lib.hid hblk
  have hml2 := blk_lt hblk
  obtain ⟨c0, c1, c2, c3, c4, c5, cfz⟩ := cells6 hblk
  have cf5 := cfz 5
  have HEN := Lib.hid hen
  have HEL := Lib.hid hel
  have HDE := Lib.hid hde
  have HFI := Lib.hid hfi
  have HFS := Lib.hid hfs
  have HM := Lib.hid hM
  have HMR := Lib.hid hMr
  clear hblk hen hel hde hfi hfs hM hMr cfz c0 c1 c2 c3 c4
  by_cases hz : r1 = 0
  · subst hz
    have H0 := Lib.hid (h0 rfl)
    clear h0 h1
    by_cases hp : 0 < s.armed
    · have hw : IntKind.i64.wrap (s.armed - 1) = s.armed - 1 := IntWalk.i64_in _ (by have := HAB.out; rw [← HAS.out] at this; omega)
      have hR := rfix (st' := { s with armed := s.armed - 1 }) (w' := w2.setCell ⟨m, 5, none⟩ (.int .i64 (s.armed - 1))) HBLK.out rfl (keeps_set 5 _) (by have h9 := blk_put HBLK.out 5 (.int .i64 (s.armed - 1)); simp only [List.setIfInBounds_toArray, List.set_cons_succ, List.set_cons_zero] at h9; exact h9) HEN.out HEL.out HDE.out HFI.out HFS.out HM.out HMR.out
      have HR2 := Lib.hid (show RTo w (w2.setCell ⟨m, 5, none⟩ (.int .i64 (s.armed - 1))) m M r2 by
        rw [← H0.out]
        unfold Dk.did
        rw [if_pos hp]
        exact HRT.out.trans hR)
      clear hR
      go_wp2_with fail
      go_ret3
      exact ⟨.slice none 0 0, rfl, reads_none _ _, by first | exact HR2.out | (rw [hw]; exact HR2.out)⟩
    · have hp0 : decide (0 < s.armed) = false := by simpa using hp
      go_wp2_with fail
      go_ret3
      refine ⟨.slice none 0 0, rfl, reads_none _ _, ?_⟩
      have h8 : s.did = s := by
        unfold Dk.did
        rw [if_neg (by omega)]
      rw [← H0.out, h8]
      exact HRT.out
  · have H1 := Lib.hid (h1 hz)
    have hz0 : ((r1 : Int) == 0) = false := by simpa using hz
    have hz1 : decide ((r1 : Int) = 0) = false := by simpa using hz
    have hz2 : decide (r1 = 0) = false := by simpa using hz
    have hz3 : (r1 == 0) = false := by simpa using hz
    clear h0 h1
    go_wp2_with fail
    go_ret3
    exact ⟨.slice none 0 0, rfl, reads_none _ _, by rw [← H1.out]; exact HRT.out⟩
set_option maxRecDepth 100000 in
set_option maxHeartbeats 4000000 in
theorem rdo_1 (m N : Nat) (M : Nat → Prop) (st : Dk) (nm to : Nm) (b : List UInt8) (ab af : Option Addr) (cb lf cf : Nat) (an am pn : Int) (w : World) (h : RefAt w m M st) (hok : DkOk N st) (hN : N < 4096) (ha : st.armed ≠ 0) (r : Nat × Dk) (hrs : r.1 ≠ 0 → r.2 = st) (hr15 : r.1 ≤ 15) (hd : ∀ W, Below w.heap.size w W → Calls Try.prog 47 #[(.pointer (some ⟨m, 0, none⟩)), .agg #[.int .i64 1, .string ⟨nm.toArray⟩, .string ⟨to.toArray⟩, .slice ab b.length cb, .int .i64 an, .int .i64 am, .int .i64 pn, .slice af lf cf]] W (RDeedOut W m M st r)) :
    Calls Try.prog 28 #[(.pointer (some ⟨m, 0, none⟩)), .agg #[.int .i64 1, .string ⟨nm.toArray⟩, .string ⟨to.toArray⟩, .slice ab b.length cb, .int .i64 an, .int .i64 am, .int .i64 pn, .slice af lf cf]] w (RDoOut w m M [] 0 r.1 r.2) := by
  have HD := Lib.hid hd
  have HRS := Lib.hid hrs
  clear hd hrs
  have ha0 : (st.armed == 0) = false := by simpa using ha
  have ha1 : decide (st.armed = 0) = false := by simpa using ha
  have H := Lib.hid h
  have HOK := Lib.hid hok
  obtain ⟨vn, vl, vd, vf, fs, hblk, hen, hel, hde, hfi, hfs, hM, hMr⟩ := h
  have HBLK := Lib.hid hblk
  have hml := blk_lt hblk
  obtain ⟨c0, c1, c2, c3, c4, c5, cfz⟩ := cells6 hblk
  have cf5 := cfz 5
  have HEN := Lib.hid hen
  have HEL := Lib.hid hel
  have HDE := Lib.hid hde
  have HFI := Lib.hid hfi
  have HFS := Lib.hid hfs
  have HM := Lib.hid hM
  have HMR := Lib.hid hMr
  clear hblk hen hel hde hfi hfs hM hMr hok cfz
  go_enter Try.func28, Try.ntmps28
  go_wp2_with fail
  refine (HD.out _ (by repeat (first | (with_reducible exact Below.refl _ _) | (with_reducible refine Below.setCell ?_ ?_ _) | (with_reducible refine Below.alloc ?_ ?_ _) | (with_reducible refine Below.drewN ?_ _) | (with_reducible refine Below.drew ?_) | (with_reducible exact Nat.le_refl _) | (focus (simp only [World.size_alloc, World.size_setCell, World.size_drew, World.size_drewN]; omega)) | omega | exact Nat.le_refl _ | (focus (simp; done)) | (focus (simp; omega))))).mono ?_
  rintro e w2 ⟨rfl, s, hR, has, h0, h1⟩
  obtain ⟨r1, r2⟩ := r
  simp only at h0 h1 hr15 HRS ⊢
  have HAB := Lib.hid HOK.out.armed
  have hsz := hR.2.size
  simp only [World.size_alloc] at hsz
  have HRT := Lib.hid (show RTo w w2 m M s from hR.from (by repeat (first | (with_reducible exact Below.refl _ _) | (with_reducible refine Below.setCell ?_ ?_ _) | (with_reducible refine Below.alloc ?_ ?_ _) | (with_reducible refine Below.drewN ?_ _) | (with_reducible refine Below.drew ?_) | (with_reducible exact Nat.le_refl _) | (focus (simp only [World.size_alloc, World.size_setCell, World.size_drew, World.size_drewN]; omega)) | omega | exact Nat.le_refl _ | (focus (simp; done)) | (focus (simp; omega)))))
  have HAS := Lib.hid has
  clear hR has c0 c1 c2 c3 c4 c5 cf5 HBLK HEN HEL HDE HFI HFS HM HMR
  obtain ⟨vn, vl, vd, vf, fs, hblk, hen, hel, hde, hfi, hfs, hM, hMr⟩ := HRT.out.1
  have HBLK := Lib.hid hblk
  have hml2 := blk_lt hblk
  obtain ⟨c0, c1, c2, c3, c4, c5, cfz⟩ := cells6 hblk
  have cf5 := cfz 5
  have HEN := Lib.hid hen
  have HEL := Lib.hid hel
  have HDE := Lib.hid hde
  have HFI := Lib.hid hfi
  have HFS := Lib.hid hfs
  have HM := Lib.hid hM
  have HMR := Lib.hid hMr
  clear hblk hen hel hde hfi hfs hM hMr cfz c0 c1 c2 c3 c4
  by_cases hz : r1 = 0
  · subst hz
    have H0 := Lib.hid (h0 rfl)
    clear h0 h1
    by_cases hp : 0 < s.armed
    · have hw : IntKind.i64.wrap (s.armed - 1) = s.armed - 1 := IntWalk.i64_in _ (by have := HAB.out; rw [← HAS.out] at this; omega)
      have hR := rfix (st' := { s with armed := s.armed - 1 }) (w' := w2.setCell ⟨m, 5, none⟩ (.int .i64 (s.armed - 1))) HBLK.out rfl (keeps_set 5 _) (by have h9 := blk_put HBLK.out 5 (.int .i64 (s.armed - 1)); simp only [List.setIfInBounds_toArray, List.set_cons_succ, List.set_cons_zero] at h9; exact h9) HEN.out HEL.out HDE.out HFI.out HFS.out HM.out HMR.out
      have HR2 := Lib.hid (show RTo w (w2.setCell ⟨m, 5, none⟩ (.int .i64 (s.armed - 1))) m M r2 by
        rw [← H0.out]
        unfold Dk.did
        rw [if_pos hp]
        exact HRT.out.trans hR)
      clear hR
      go_wp2_with fail
      go_ret3
      exact ⟨.slice none 0 0, rfl, reads_none _ _, by first | exact HR2.out | (rw [hw]; exact HR2.out)⟩
    · have hp0 : decide (0 < s.armed) = false := by simpa using hp
      go_wp2_with fail
      go_ret3
      refine ⟨.slice none 0 0, rfl, reads_none _ _, ?_⟩
      have h8 : s.did = s := by
        unfold Dk.did
        rw [if_neg (by omega)]
      rw [← H0.out, h8]
      exact HRT.out
  · have H1 := Lib.hid (h1 hz)
    have hz0 : ((r1 : Int) == 0) = false := by simpa using hz
    have hz1 : decide ((r1 : Int) = 0) = false := by simpa using hz
    have hz2 : decide (r1 = 0) = false := by simpa using hz
    have hz3 : (r1 == 0) = false := by simpa using hz
    clear h0 h1
    go_wp2_with fail
    go_ret3
    exact ⟨.slice none 0 0, rfl, reads_none _ _, by rw [← H1.out]; exact HRT.out⟩
set_option maxRecDepth 100000 in
set_option maxHeartbeats 4000000 in
theorem rdo_2 (m N : Nat) (M : Nat → Prop) (st : Dk) (nm to : Nm) (b : List UInt8) (ab af : Option Addr) (cb lf cf : Nat) (an am pn : Int) (w : World) (h : RefAt w m M st) (hok : DkOk N st) (hN : N < 4096) (ha : st.armed ≠ 0) (r : Nat × Dk) (hrs : r.1 ≠ 0 → r.2 = st) (hr15 : r.1 ≤ 15) (hd : ∀ W, Below w.heap.size w W → Calls Try.prog 47 #[(.pointer (some ⟨m, 0, none⟩)), .agg #[.int .i64 2, .string ⟨nm.toArray⟩, .string ⟨to.toArray⟩, .slice ab b.length cb, .int .i64 an, .int .i64 am, .int .i64 pn, .slice af lf cf]] W (RDeedOut W m M st r)) :
    Calls Try.prog 28 #[(.pointer (some ⟨m, 0, none⟩)), .agg #[.int .i64 2, .string ⟨nm.toArray⟩, .string ⟨to.toArray⟩, .slice ab b.length cb, .int .i64 an, .int .i64 am, .int .i64 pn, .slice af lf cf]] w (RDoOut w m M [] 0 r.1 r.2) := by
  have HD := Lib.hid hd
  have HRS := Lib.hid hrs
  clear hd hrs
  have ha0 : (st.armed == 0) = false := by simpa using ha
  have ha1 : decide (st.armed = 0) = false := by simpa using ha
  have H := Lib.hid h
  have HOK := Lib.hid hok
  obtain ⟨vn, vl, vd, vf, fs, hblk, hen, hel, hde, hfi, hfs, hM, hMr⟩ := h
  have HBLK := Lib.hid hblk
  have hml := blk_lt hblk
  obtain ⟨c0, c1, c2, c3, c4, c5, cfz⟩ := cells6 hblk
  have cf5 := cfz 5
  have HEN := Lib.hid hen
  have HEL := Lib.hid hel
  have HDE := Lib.hid hde
  have HFI := Lib.hid hfi
  have HFS := Lib.hid hfs
  have HM := Lib.hid hM
  have HMR := Lib.hid hMr
  clear hblk hen hel hde hfi hfs hM hMr hok cfz
  go_enter Try.func28, Try.ntmps28
  go_wp2_with fail
  refine (HD.out _ (by repeat (first | (with_reducible exact Below.refl _ _) | (with_reducible refine Below.setCell ?_ ?_ _) | (with_reducible refine Below.alloc ?_ ?_ _) | (with_reducible refine Below.drewN ?_ _) | (with_reducible refine Below.drew ?_) | (with_reducible exact Nat.le_refl _) | (focus (simp only [World.size_alloc, World.size_setCell, World.size_drew, World.size_drewN]; omega)) | omega | exact Nat.le_refl _ | (focus (simp; done)) | (focus (simp; omega))))).mono ?_
  rintro e w2 ⟨rfl, s, hR, has, h0, h1⟩
  obtain ⟨r1, r2⟩ := r
  simp only at h0 h1 hr15 HRS ⊢
  have HAB := Lib.hid HOK.out.armed
  have hsz := hR.2.size
  simp only [World.size_alloc] at hsz
  have HRT := Lib.hid (show RTo w w2 m M s from hR.from (by repeat (first | (with_reducible exact Below.refl _ _) | (with_reducible refine Below.setCell ?_ ?_ _) | (with_reducible refine Below.alloc ?_ ?_ _) | (with_reducible refine Below.drewN ?_ _) | (with_reducible refine Below.drew ?_) | (with_reducible exact Nat.le_refl _) | (focus (simp only [World.size_alloc, World.size_setCell, World.size_drew, World.size_drewN]; omega)) | omega | exact Nat.le_refl _ | (focus (simp; done)) | (focus (simp; omega)))))
  have HAS := Lib.hid has
  clear hR has c0 c1 c2 c3 c4 c5 cf5 HBLK HEN HEL HDE HFI HFS HM HMR
  obtain ⟨vn, vl, vd, vf, fs, hblk, hen, hel, hde, hfi, hfs, hM, hMr⟩ := HRT.out.1
  have HBLK := Lib.hid hblk
  have hml2 := blk_lt hblk
  obtain ⟨c0, c1, c2, c3, c4, c5, cfz⟩ := cells6 hblk
  have cf5 := cfz 5
  have HEN := Lib.hid hen
  have HEL := Lib.hid hel
  have HDE := Lib.hid hde
  have HFI := Lib.hid hfi
  have HFS := Lib.hid hfs
  have HM := Lib.hid hM
  have HMR := Lib.hid hMr
  clear hblk hen hel hde hfi hfs hM hMr cfz c0 c1 c2 c3 c4
  by_cases hz : r1 = 0
  · subst hz
    have H0 := Lib.hid (h0 rfl)
    clear h0 h1
    by_cases hp : 0 < s.armed
    · have hw : IntKind.i64.wrap (s.armed - 1) = s.armed - 1 := IntWalk.i64_in _ (by have := HAB.out; rw [← HAS.out] at this; omega)
      have hR := rfix (st' := { s with armed := s.armed - 1 }) (w' := w2.setCell ⟨m, 5, none⟩ (.int .i64 (s.armed - 1))) HBLK.out rfl (keeps_set 5 _) (by have h9 := blk_put HBLK.out 5 (.int .i64 (s.armed - 1)); simp only [List.setIfInBounds_toArray, List.set_cons_succ, List.set_cons_zero] at h9; exact h9) HEN.out HEL.out HDE.out HFI.out HFS.out HM.out HMR.out
      have HR2 := Lib.hid (show RTo w (w2.setCell ⟨m, 5, none⟩ (.int .i64 (s.armed - 1))) m M r2 by
        rw [← H0.out]
        unfold Dk.did
        rw [if_pos hp]
        exact HRT.out.trans hR)
      clear hR
      go_wp2_with fail
      go_ret3
      exact ⟨.slice none 0 0, rfl, reads_none _ _, by first | exact HR2.out | (rw [hw]; exact HR2.out)⟩
    · have hp0 : decide (0 < s.armed) = false := by simpa using hp
      go_wp2_with fail
      go_ret3
      refine ⟨.slice none 0 0, rfl, reads_none _ _, ?_⟩
      have h8 : s.did = s := by
        unfold Dk.did
        rw [if_neg (by omega)]
      rw [← H0.out, h8]
      exact HRT.out
  · have H1 := Lib.hid (h1 hz)
    have hz0 : ((r1 : Int) == 0) = false := by simpa using hz
    have hz1 : decide ((r1 : Int) = 0) = false := by simpa using hz
    have hz2 : decide (r1 = 0) = false := by simpa using hz
    have hz3 : (r1 == 0) = false := by simpa using hz
    clear h0 h1
    go_wp2_with fail
    go_ret3
    exact ⟨.slice none 0 0, rfl, reads_none _ _, by rw [← H1.out]; exact HRT.out⟩
set_option maxRecDepth 100000 in
set_option maxHeartbeats 4000000 in
theorem rdo_3 (m N : Nat) (M : Nat → Prop) (st : Dk) (nm to : Nm) (b : List UInt8) (ab af : Option Addr) (cb lf cf : Nat) (an am pn : Int) (w : World) (h : RefAt w m M st) (hok : DkOk N st) (hN : N < 4096) (ha : st.armed ≠ 0) (r : Nat × Dk) (hrs : r.1 ≠ 0 → r.2 = st) (hr15 : r.1 ≤ 15) (hd : ∀ W, Below w.heap.size w W → Calls Try.prog 47 #[(.pointer (some ⟨m, 0, none⟩)), .agg #[.int .i64 3, .string ⟨nm.toArray⟩, .string ⟨to.toArray⟩, .slice ab b.length cb, .int .i64 an, .int .i64 am, .int .i64 pn, .slice af lf cf]] W (RDeedOut W m M st r)) :
    Calls Try.prog 28 #[(.pointer (some ⟨m, 0, none⟩)), .agg #[.int .i64 3, .string ⟨nm.toArray⟩, .string ⟨to.toArray⟩, .slice ab b.length cb, .int .i64 an, .int .i64 am, .int .i64 pn, .slice af lf cf]] w (RDoOut w m M [] 0 r.1 r.2) := by
  have HD := Lib.hid hd
  have HRS := Lib.hid hrs
  clear hd hrs
  have ha0 : (st.armed == 0) = false := by simpa using ha
  have ha1 : decide (st.armed = 0) = false := by simpa using ha
  have H := Lib.hid h
  have HOK := Lib.hid hok
  obtain ⟨vn, vl, vd, vf, fs, hblk, hen, hel, hde, hfi, hfs, hM, hMr⟩ := h
  have HBLK := Lib.hid hblk
  have hml := blk_lt hblk
  obtain ⟨c0, c1, c2, c3, c4, c5, cfz⟩ := cells6 hblk
  have cf5 := cfz 5
  have HEN := Lib.hid hen
  have HEL := Lib.hid hel
  have HDE := Lib.hid hde
  have HFI := Lib.hid hfi
  have HFS := Lib.hid hfs
  have HM := Lib.hid hM
  have HMR := Lib.hid hMr
  clear hblk hen hel hde hfi hfs hM hMr hok cfz
  go_enter Try.func28, Try.ntmps28
  go_wp2_with fail
  refine (HD.out _ (by repeat (first | (with_reducible exact Below.refl _ _) | (with_reducible refine Below.setCell ?_ ?_ _) | (with_reducible refine Below.alloc ?_ ?_ _) | (with_reducible refine Below.drewN ?_ _) | (with_reducible refine Below.drew ?_) | (with_reducible exact Nat.le_refl _) | (focus (simp only [World.size_alloc, World.size_setCell, World.size_drew, World.size_drewN]; omega)) | omega | exact Nat.le_refl _ | (focus (simp; done)) | (focus (simp; omega))))).mono ?_
  rintro e w2 ⟨rfl, s, hR, has, h0, h1⟩
  obtain ⟨r1, r2⟩ := r
  simp only at h0 h1 hr15 HRS ⊢
  have HAB := Lib.hid HOK.out.armed
  have hsz := hR.2.size
  simp only [World.size_alloc] at hsz
  have HRT := Lib.hid (show RTo w w2 m M s from hR.from (by repeat (first | (with_reducible exact Below.refl _ _) | (with_reducible refine Below.setCell ?_ ?_ _) | (with_reducible refine Below.alloc ?_ ?_ _) | (with_reducible refine Below.drewN ?_ _) | (with_reducible refine Below.drew ?_) | (with_reducible exact Nat.le_refl _) | (focus (simp only [World.size_alloc, World.size_setCell, World.size_drew, World.size_drewN]; omega)) | omega | exact Nat.le_refl _ | (focus (simp; done)) | (focus (simp; omega)))))
  have HAS := Lib.hid has
  clear hR has c0 c1 c2 c3 c4 c5 cf5 HBLK HEN HEL HDE HFI HFS HM HMR
  obtain ⟨vn, vl, vd, vf, fs, hblk, hen, hel, hde, hfi, hfs, hM, hMr⟩ := HRT.out.1
  have HBLK := Lib.hid hblk
  have hml2 := blk_lt hblk
  obtain ⟨c0, c1, c2, c3, c4, c5, cfz⟩ := cells6 hblk
  have cf5 := cfz 5
  have HEN := Lib.hid hen
  have HEL := Lib.hid hel
  have HDE := Lib.hid hde
  have HFI := Lib.hid hfi
  have HFS := Lib.hid hfs
  have HM := Lib.hid hM
  have HMR := Lib.hid hMr
  clear hblk hen hel hde hfi hfs hM hMr cfz c0 c1 c2 c3 c4
  by_cases hz : r1 = 0
  · subst hz
    have H0 := Lib.hid (h0 rfl)
    clear h0 h1
    by_cases hp : 0 < s.armed
    · have hw : IntKind.i64.wrap (s.armed - 1) = s.armed - 1 := IntWalk.i64_in _ (by have := HAB.out; rw [← HAS.out] at this; omega)
      have hR := rfix (st' := { s with armed := s.armed - 1 }) (w' := w2.setCell ⟨m, 5, none⟩ (.int .i64 (s.armed - 1))) HBLK.out rfl (keeps_set 5 _) (by have h9 := blk_put HBLK.out 5 (.int .i64 (s.armed - 1)); simp only [List.setIfInBounds_toArray, List.set_cons_succ, List.set_cons_zero] at h9; exact h9) HEN.out HEL.out HDE.out HFI.out HFS.out HM.out HMR.out
      have HR2 := Lib.hid (show RTo w (w2.setCell ⟨m, 5, none⟩ (.int .i64 (s.armed - 1))) m M r2 by
        rw [← H0.out]
        unfold Dk.did
        rw [if_pos hp]
        exact HRT.out.trans hR)
      clear hR
      go_wp2_with fail
      go_ret3
      exact ⟨.slice none 0 0, rfl, reads_none _ _, by first | exact HR2.out | (rw [hw]; exact HR2.out)⟩
    · have hp0 : decide (0 < s.armed) = false := by simpa using hp
      go_wp2_with fail
      go_ret3
      refine ⟨.slice none 0 0, rfl, reads_none _ _, ?_⟩
      have h8 : s.did = s := by
        unfold Dk.did
        rw [if_neg (by omega)]
      rw [← H0.out, h8]
      exact HRT.out
  · have H1 := Lib.hid (h1 hz)
    have hz0 : ((r1 : Int) == 0) = false := by simpa using hz
    have hz1 : decide ((r1 : Int) = 0) = false := by simpa using hz
    have hz2 : decide (r1 = 0) = false := by simpa using hz
    have hz3 : (r1 == 0) = false := by simpa using hz
    clear h0 h1
    go_wp2_with fail
    go_ret3
    exact ⟨.slice none 0 0, rfl, reads_none _ _, by rw [← H1.out]; exact HRT.out⟩
set_option maxRecDepth 100000 in
set_option maxHeartbeats 4000000 in
theorem rdo_4 (m N : Nat) (M : Nat → Prop) (st : Dk) (nm to : Nm) (b : List UInt8) (ab af : Option Addr) (cb lf cf : Nat) (an am pn : Int) (w : World) (h : RefAt w m M st) (hok : DkOk N st) (hN : N < 4096) (ha : st.armed ≠ 0) (r : Nat × Dk) (hrs : r.1 ≠ 0 → r.2 = st) (hr15 : r.1 ≤ 15) (hd : ∀ W, Below w.heap.size w W → Calls Try.prog 47 #[(.pointer (some ⟨m, 0, none⟩)), .agg #[.int .i64 4, .string ⟨nm.toArray⟩, .string ⟨to.toArray⟩, .slice ab b.length cb, .int .i64 an, .int .i64 am, .int .i64 pn, .slice af lf cf]] W (RDeedOut W m M st r)) :
    Calls Try.prog 28 #[(.pointer (some ⟨m, 0, none⟩)), .agg #[.int .i64 4, .string ⟨nm.toArray⟩, .string ⟨to.toArray⟩, .slice ab b.length cb, .int .i64 an, .int .i64 am, .int .i64 pn, .slice af lf cf]] w (RDoOut w m M [] 0 r.1 r.2) := by
  have HD := Lib.hid hd
  have HRS := Lib.hid hrs
  clear hd hrs
  have ha0 : (st.armed == 0) = false := by simpa using ha
  have ha1 : decide (st.armed = 0) = false := by simpa using ha
  have H := Lib.hid h
  have HOK := Lib.hid hok
  obtain ⟨vn, vl, vd, vf, fs, hblk, hen, hel, hde, hfi, hfs, hM, hMr⟩ := h
  have HBLK := Lib.hid hblk
  have hml := blk_lt hblk
  obtain ⟨c0, c1, c2, c3, c4, c5, cfz⟩ := cells6 hblk
  have cf5 := cfz 5
  have HEN := Lib.hid hen
  have HEL := Lib.hid hel
  have HDE := Lib.hid hde
  have HFI := Lib.hid hfi
  have HFS := Lib.hid hfs
  have HM := Lib.hid hM
  have HMR := Lib.hid hMr
  clear hblk hen hel hde hfi hfs hM hMr hok cfz
  go_enter Try.func28, Try.ntmps28
  go_wp2_with fail
  refine (HD.out _ (by repeat (first | (with_reducible exact Below.refl _ _) | (with_reducible refine Below.setCell ?_ ?_ _) | (with_reducible refine Below.alloc ?_ ?_ _) | (with_reducible refine Below.drewN ?_ _) | (with_reducible refine Below.drew ?_) | (with_reducible exact Nat.le_refl _) | (focus (simp only [World.size_alloc, World.size_setCell, World.size_drew, World.size_drewN]; omega)) | omega | exact Nat.le_refl _ | (focus (simp; done)) | (focus (simp; omega))))).mono ?_
  rintro e w2 ⟨rfl, s, hR, has, h0, h1⟩
  obtain ⟨r1, r2⟩ := r
  simp only at h0 h1 hr15 HRS ⊢
  have HAB := Lib.hid HOK.out.armed
  have hsz := hR.2.size
  simp only [World.size_alloc] at hsz
  have HRT := Lib.hid (show RTo w w2 m M s from hR.from (by repeat (first | (with_reducible exact Below.refl _ _) | (with_reducible refine Below.setCell ?_ ?_ _) | (with_reducible refine Below.alloc ?_ ?_ _) | (with_reducible refine Below.drewN ?_ _) | (with_reducible refine Below.drew ?_) | (with_reducible exact Nat.le_refl _) | (focus (simp only [World.size_alloc, World.size_setCell, World.size_drew, World.size_drewN]; omega)) | omega | exact Nat.le_refl _ | (focus (simp; done)) | (focus (simp; omega)))))
  have HAS := Lib.hid has
  clear hR has c0 c1 c2 c3 c4 c5 cf5 HBLK HEN HEL HDE HFI HFS HM HMR
  obtain ⟨vn, vl, vd, vf, fs, hblk, hen, hel, hde, hfi, hfs, hM, hMr⟩ := HRT.out.1
  have HBLK := Lib.hid hblk
  have hml2 := blk_lt hblk
  obtain ⟨c0, c1, c2, c3, c4, c5, cfz⟩ := cells6 hblk
  have cf5 := cfz 5
  have HEN := Lib.hid hen
  have HEL := Lib.hid hel
  have HDE := Lib.hid hde
  have HFI := Lib.hid hfi
  have HFS := Lib.hid hfs
  have HM := Lib.hid hM
  have HMR := Lib.hid hMr
  clear hblk hen hel hde hfi hfs hM hMr cfz c0 c1 c2 c3 c4
  by_cases hz : r1 = 0
  · subst hz
    have H0 := Lib.hid (h0 rfl)
    clear h0 h1
    by_cases hp : 0 < s.armed
    · have hw : IntKind.i64.wrap (s.armed - 1) = s.armed - 1 := IntWalk.i64_in _ (by have := HAB.out; rw [← HAS.out] at this; omega)
      have hR := rfix (st' := { s with armed := s.armed - 1 }) (w' := w2.setCell ⟨m, 5, none⟩ (.int .i64 (s.armed - 1))) HBLK.out rfl (keeps_set 5 _) (by have h9 := blk_put HBLK.out 5 (.int .i64 (s.armed - 1)); simp only [List.setIfInBounds_toArray, List.set_cons_succ, List.set_cons_zero] at h9; exact h9) HEN.out HEL.out HDE.out HFI.out HFS.out HM.out HMR.out
      have HR2 := Lib.hid (show RTo w (w2.setCell ⟨m, 5, none⟩ (.int .i64 (s.armed - 1))) m M r2 by
        rw [← H0.out]
        unfold Dk.did
        rw [if_pos hp]
        exact HRT.out.trans hR)
      clear hR
      go_wp2_with fail
      go_ret3
      exact ⟨.slice none 0 0, rfl, reads_none _ _, by first | exact HR2.out | (rw [hw]; exact HR2.out)⟩
    · have hp0 : decide (0 < s.armed) = false := by simpa using hp
      go_wp2_with fail
      go_ret3
      refine ⟨.slice none 0 0, rfl, reads_none _ _, ?_⟩
      have h8 : s.did = s := by
        unfold Dk.did
        rw [if_neg (by omega)]
      rw [← H0.out, h8]
      exact HRT.out
  · have H1 := Lib.hid (h1 hz)
    have hz0 : ((r1 : Int) == 0) = false := by simpa using hz
    have hz1 : decide ((r1 : Int) = 0) = false := by simpa using hz
    have hz2 : decide (r1 = 0) = false := by simpa using hz
    have hz3 : (r1 == 0) = false := by simpa using hz
    clear h0 h1
    go_wp2_with fail
    go_ret3
    exact ⟨.slice none 0 0, rfl, reads_none _ _, by rw [← H1.out]; exact HRT.out⟩
set_option maxRecDepth 100000 in
set_option maxHeartbeats 4000000 in
theorem rdo_5 (m N : Nat) (M : Nat → Prop) (st : Dk) (nm to : Nm) (b : List UInt8) (ab af : Option Addr) (cb lf cf : Nat) (an am pn : Int) (w : World) (h : RefAt w m M st) (hok : DkOk N st) (hN : N < 4096) (ha : st.armed ≠ 0) (r : Nat × Dk) (hrs : r.1 ≠ 0 → r.2 = st) (hr15 : r.1 ≤ 15) (hd : ∀ W, Below w.heap.size w W → Calls Try.prog 47 #[(.pointer (some ⟨m, 0, none⟩)), .agg #[.int .i64 5, .string ⟨nm.toArray⟩, .string ⟨to.toArray⟩, .slice ab b.length cb, .int .i64 an, .int .i64 am, .int .i64 pn, .slice af lf cf]] W (RDeedOut W m M st r)) :
    Calls Try.prog 28 #[(.pointer (some ⟨m, 0, none⟩)), .agg #[.int .i64 5, .string ⟨nm.toArray⟩, .string ⟨to.toArray⟩, .slice ab b.length cb, .int .i64 an, .int .i64 am, .int .i64 pn, .slice af lf cf]] w (RDoOut w m M [] 0 r.1 r.2) := by
  have HD := Lib.hid hd
  have HRS := Lib.hid hrs
  clear hd hrs
  have ha0 : (st.armed == 0) = false := by simpa using ha
  have ha1 : decide (st.armed = 0) = false := by simpa using ha
  have H := Lib.hid h
  have HOK := Lib.hid hok
  obtain ⟨vn, vl, vd, vf, fs, hblk, hen, hel, hde, hfi, hfs, hM, hMr⟩ := h
  have HBLK := Lib.hid hblk
  have hml := blk_lt hblk
  obtain ⟨c0, c1, c2, c3, c4, c5, cfz⟩ := cells6 hblk
  have cf5 := cfz 5
  have HEN := Lib.hid hen
  have HEL := Lib.hid hel
  have HDE := Lib.hid hde
  have HFI := Lib.hid hfi
  have HFS := Lib.hid hfs
  have HM := Lib.hid hM
  have HMR := Lib.hid hMr
  clear hblk hen hel hde hfi hfs hM hMr hok cfz
  go_enter Try.func28, Try.ntmps28
  go_wp2_with fail
  refine (HD.out _ (by repeat (first | (with_reducible exact Below.refl _ _) | (with_reducible refine Below.setCell ?_ ?_ _) | (with_reducible refine Below.alloc ?_ ?_ _) | (with_reducible refine Below.drewN ?_ _) | (with_reducible refine Below.drew ?_) | (with_reducible exact Nat.le_refl _) | (focus (simp only [World.size_alloc, World.size_setCell, World.size_drew, World.size_drewN]; omega)) | omega | exact Nat.le_refl _ | (focus (simp; done)) | (focus (simp; omega))))).mono ?_
  rintro e w2 ⟨rfl, s, hR, has, h0, h1⟩
  obtain ⟨r1, r2⟩ := r
  simp only at h0 h1 hr15 HRS ⊢
  have HAB := Lib.hid HOK.out.armed
  have hsz := hR.2.size
  simp only [World.size_alloc] at hsz
  have HRT := Lib.hid (show RTo w w2 m M s from hR.from (by repeat (first | (with_reducible exact Below.refl _ _) | (with_reducible refine Below.setCell ?_ ?_ _) | (with_reducible refine Below.alloc ?_ ?_ _) | (with_reducible refine Below.drewN ?_ _) | (with_reducible refine Below.drew ?_) | (with_reducible exact Nat.le_refl _) | (focus (simp only [World.size_alloc, World.size_setCell, World.size_drew, World.size_drewN]; omega)) | omega | exact Nat.le_refl _ | (focus (simp; done)) | (focus (simp; omega)))))
  have HAS := Lib.hid has
  clear hR has c0 c1 c2 c3 c4 c5 cf5 HBLK HEN HEL HDE HFI HFS HM HMR
  obtain ⟨vn, vl, vd, vf, fs, hblk, hen, hel, hde, hfi, hfs, hM, hMr⟩ := HRT.out.1
  have HBLK := Lib.hid hblk
  have hml2 := blk_lt hblk
  obtain ⟨c0, c1, c2, c3, c4, c5, cfz⟩ := cells6 hblk
  have cf5 := cfz 5
  have HEN := Lib.hid hen
  have HEL := Lib.hid hel
  have HDE := Lib.hid hde
  have HFI := Lib.hid hfi
  have HFS := Lib.hid hfs
  have HM := Lib.hid hM
  have HMR := Lib.hid hMr
  clear hblk hen hel hde hfi hfs hM hMr cfz c0 c1 c2 c3 c4
  by_cases hz : r1 = 0
  · subst hz
    have H0 := Lib.hid (h0 rfl)
    clear h0 h1
    by_cases hp : 0 < s.armed
    · have hw : IntKind.i64.wrap (s.armed - 1) = s.armed - 1 := IntWalk.i64_in _ (by have := HAB.out; rw [← HAS.out] at this; omega)
      have hR := rfix (st' := { s with armed := s.armed - 1 }) (w' := w2.setCell ⟨m, 5, none⟩ (.int .i64 (s.armed - 1))) HBLK.out rfl (keeps_set 5 _) (by have h9 := blk_put HBLK.out 5 (.int .i64 (s.armed - 1)); simp only [List.setIfInBounds_toArray, List.set_cons_succ, List.set_cons_zero] at h9; exact h9) HEN.out HEL.out HDE.out HFI.out HFS.out HM.out HMR.out
      have HR2 := Lib.hid (show RTo w (w2.setCell ⟨m, 5, none⟩ (.int .i64 (s.armed - 1))) m M r2 by
        rw [← H0.out]
        unfold Dk.did
        rw [if_pos hp]
        exact HRT.out.trans hR)
      clear hR
      go_wp2_with fail
      go_ret3
      exact ⟨.slice none 0 0, rfl, reads_none _ _, by first | exact HR2.out | (rw [hw]; exact HR2.out)⟩
    · have hp0 : decide (0 < s.armed) = false := by simpa using hp
      go_wp2_with fail
      go_ret3
      refine ⟨.slice none 0 0, rfl, reads_none _ _, ?_⟩
      have h8 : s.did = s := by
        unfold Dk.did
        rw [if_neg (by omega)]
      rw [← H0.out, h8]
      exact HRT.out
  · have H1 := Lib.hid (h1 hz)
    have hz0 : ((r1 : Int) == 0) = false := by simpa using hz
    have hz1 : decide ((r1 : Int) = 0) = false := by simpa using hz
    have hz2 : decide (r1 = 0) = false := by simpa using hz
    have hz3 : (r1 == 0) = false := by simpa using hz
    clear h0 h1
    go_wp2_with fail
    go_ret3
    exact ⟨.slice none 0 0, rfl, reads_none _ _, by rw [← H1.out]; exact HRT.out⟩
set_option maxRecDepth 100000 in
set_option maxHeartbeats 4000000 in
theorem rdo_6 (m N : Nat) (M : Nat → Prop) (st : Dk) (nm to : Nm) (b : List UInt8) (ab af : Option Addr) (cb lf cf : Nat) (an am pn : Int) (w : World) (h : RefAt w m M st) (hok : DkOk N st) (hN : N < 4096) (ha : st.armed ≠ 0) (r : Nat × Dk) (hrs : r.1 ≠ 0 → r.2 = st) (hr15 : r.1 ≤ 15) (hd : ∀ W, Below w.heap.size w W → Calls Try.prog 47 #[(.pointer (some ⟨m, 0, none⟩)), .agg #[.int .i64 6, .string ⟨nm.toArray⟩, .string ⟨to.toArray⟩, .slice ab b.length cb, .int .i64 an, .int .i64 am, .int .i64 pn, .slice af lf cf]] W (RDeedOut W m M st r)) :
    Calls Try.prog 28 #[(.pointer (some ⟨m, 0, none⟩)), .agg #[.int .i64 6, .string ⟨nm.toArray⟩, .string ⟨to.toArray⟩, .slice ab b.length cb, .int .i64 an, .int .i64 am, .int .i64 pn, .slice af lf cf]] w (RDoOut w m M [] 0 r.1 r.2) := by
  have HD := Lib.hid hd
  have HRS := Lib.hid hrs
  clear hd hrs
  have ha0 : (st.armed == 0) = false := by simpa using ha
  have ha1 : decide (st.armed = 0) = false := by simpa using ha
  have H := Lib.hid h
  have HOK := Lib.hid hok
  obtain ⟨vn, vl, vd, vf, fs, hblk, hen, hel, hde, hfi, hfs, hM, hMr⟩ := h
  have HBLK := Lib.hid hblk
  have hml := blk_lt hblk
  obtain ⟨c0, c1, c2, c3, c4, c5, cfz⟩ := cells6 hblk
  have cf5 := cfz 5
  have HEN := Lib.hid hen
  have HEL := Lib.hid hel
  have HDE := Lib.hid hde
  have HFI := Lib.hid hfi
  have HFS := Lib.hid hfs
  have HM := Lib.hid hM
  have HMR := Lib.hid hMr
  clear hblk hen hel hde hfi hfs hM hMr hok cfz
  go_enter Try.func28, Try.ntmps28
  go_wp2_with fail
  refine (HD.out _ (by repeat (first | (with_reducible exact Below.refl _ _) | (with_reducible refine Below.setCell ?_ ?_ _) | (with_reducible refine Below.alloc ?_ ?_ _) | (with_reducible refine Below.drewN ?_ _) | (with_reducible refine Below.drew ?_) | (with_reducible exact Nat.le_refl _) | (focus (simp only [World.size_alloc, World.size_setCell, World.size_drew, World.size_drewN]; omega)) | omega | exact Nat.le_refl _ | (focus (simp; done)) | (focus (simp; omega))))).mono ?_
  rintro e w2 ⟨rfl, s, hR, has, h0, h1⟩
  obtain ⟨r1, r2⟩ := r
  simp only at h0 h1 hr15 HRS ⊢
  have HAB := Lib.hid HOK.out.armed
  have hsz := hR.2.size
  simp only [World.size_alloc] at hsz
  have HRT := Lib.hid (show RTo w w2 m M s from hR.from (by repeat (first | (with_reducible exact Below.refl _ _) | (with_reducible refine Below.setCell ?_ ?_ _) | (with_reducible refine Below.alloc ?_ ?_ _) | (with_reducible refine Below.drewN ?_ _) | (with_reducible refine Below.drew ?_) | (with_reducible exact Nat.le_refl _) | (focus (simp only [World.size_alloc, World.size_setCell, World.size_drew, World.size_drewN]; omega)) | omega | exact Nat.le_refl _ | (focus (simp; done)) | (focus (simp; omega)))))
  have HAS := Lib.hid has
  clear hR has c0 c1 c2 c3 c4 c5 cf5 HBLK HEN HEL HDE HFI HFS HM HMR
  obtain ⟨vn, vl, vd, vf, fs, hblk, hen, hel, hde, hfi, hfs, hM, hMr⟩ := HRT.out.1
  have HBLK := Lib.hid hblk
  have hml2 := blk_lt hblk
  obtain ⟨c0, c1, c2, c3, c4, c5, cfz⟩ := cells6 hblk
  have cf5 := cfz 5
  have HEN := Lib.hid hen
  have HEL := Lib.hid hel
  have HDE := Lib.hid hde
  have HFI := Lib.hid hfi
  have HFS := Lib.hid hfs
  have HM := Lib.hid hM
  have HMR := Lib.hid hMr
  clear hblk hen hel hde hfi hfs hM hMr cfz c0 c1 c2 c3 c4
  by_cases hz : r1 = 0
  · subst hz
    have H0 := Lib.hid (h0 rfl)
    clear h0 h1
    by_cases hp : 0 < s.armed
    · have hw : IntKind.i64.wrap (s.armed - 1) = s.armed - 1 := IntWalk.i64_in _ (by have := HAB.out; rw [← HAS.out] at this; omega)
      have hR := rfix (st' := { s with armed := s.armed - 1 }) (w' := w2.setCell ⟨m, 5, none⟩ (.int .i64 (s.armed - 1))) HBLK.out rfl (keeps_set 5 _) (by have h9 := blk_put HBLK.out 5 (.int .i64 (s.armed - 1)); simp only [List.setIfInBounds_toArray, List.set_cons_succ, List.set_cons_zero] at h9; exact h9) HEN.out HEL.out HDE.out HFI.out HFS.out HM.out HMR.out
      have HR2 := Lib.hid (show RTo w (w2.setCell ⟨m, 5, none⟩ (.int .i64 (s.armed - 1))) m M r2 by
        rw [← H0.out]
        unfold Dk.did
        rw [if_pos hp]
        exact HRT.out.trans hR)
      clear hR
      go_wp2_with fail
      go_ret3
      exact ⟨.slice none 0 0, rfl, reads_none _ _, by first | exact HR2.out | (rw [hw]; exact HR2.out)⟩
    · have hp0 : decide (0 < s.armed) = false := by simpa using hp
      go_wp2_with fail
      go_ret3
      refine ⟨.slice none 0 0, rfl, reads_none _ _, ?_⟩
      have h8 : s.did = s := by
        unfold Dk.did
        rw [if_neg (by omega)]
      rw [← H0.out, h8]
      exact HRT.out
  · have H1 := Lib.hid (h1 hz)
    have hz0 : ((r1 : Int) == 0) = false := by simpa using hz
    have hz1 : decide ((r1 : Int) = 0) = false := by simpa using hz
    have hz2 : decide (r1 = 0) = false := by simpa using hz
    have hz3 : (r1 == 0) = false := by simpa using hz
    clear h0 h1
    go_wp2_with fail
    go_ret3
    exact ⟨.slice none 0 0, rfl, reads_none _ _, by rw [← H1.out]; exact HRT.out⟩
set_option maxRecDepth 100000 in
set_option maxHeartbeats 4000000 in
theorem rdo9_none (m N : Nat) (M : Nat → Prop) (st : Dk) (nm to : Nm) (b : List UInt8) (ab af : Option Addr) (cb lf cf : Nat) (an am pn : Int) (w : World) (h : RefAt w m M st) (hok : DkOk N st) (hN : N < 4096) (k : Int) (h9 : 9 ≤ k) (ha : st.armed ≠ 0) (hg : dirGet st.now nm = none) :
    Calls Try.prog 28 #[(.pointer (some ⟨m, 0, none⟩)), .agg #[.int .i64 k, .string ⟨nm.toArray⟩, .string ⟨to.toArray⟩, .slice ab b.length cb, .int .i64 an, .int .i64 am, .int .i64 pn, .slice af lf cf]] w (RDoOut w m M [] 0 6 st) := by
  have ha0 : (st.armed == 0) = false := by simpa using ha
  have ha1 : decide (st.armed = 0) = false := by simpa using ha
  have hk8 : (k == 8) = false := by simp; omega
  have hk7 : (k == 7) = false := by simp; omega
  have hk82 : decide (k = 8) = false := by simp; omega
  have hk72 : decide (k = 7) = false := by simp; omega
  have hk9 : decide (k < 9) = false := by simp; omega
  have HF := Lib.hid (findI_none hg)
  clear hg
  have H := Lib.hid h
  have HOK := Lib.hid hok
  obtain ⟨vn, vl, vd, vf, fs, hblk, hen, hel, hde, hfi, hfs, hM, hMr⟩ := h
  have HBLK := Lib.hid hblk
  have hml := blk_lt hblk
  obtain ⟨c0, c1, c2, c3, c4, c5, cfz⟩ := cells6 hblk
  have cf5 := cfz 5
  have HEN := Lib.hid hen
  have HEL := Lib.hid hel
  have HDE := Lib.hid hde
  have HFI := Lib.hid hfi
  have HFS := Lib.hid hfs
  have HM := Lib.hid hM
  have HMR := Lib.hid hMr
  clear hblk hen hel hde hfi hfs hM hMr hok cfz
  have hlen := HOK.out.lnow
  have hen := HEN.out
  obtain ⟨na, nc, rfl⟩ := ownsRow_len hen
  clear hen
  go_enter Try.func28, Try.ntmps28
  go_wp2_with fail
  refine wp_region_now0 [3, 5] [(0, 0), (1, 0), (2, 0), (3, 2), (4, 0), (5, 2), (6, 1), (7, 0)] (by kernel_rfl) (by kernel_rfl) rfl (by kernel_rfl) ?_
  refine stepE0 rfl rfl (fun K hK => ?_)
  go_simp
  refine hK _ ?_
  clear hK K
  refine stepE0 rfl rfl (fun K hK => ?_)
  go_simp
  refine hK _ ?_
  clear hK K
  refine stepE0 rfl rfl (fun K hK => ?_)
  go_simp
  refine hK _ ?_
  clear hK K
  refine stepE2 rfl rfl ?_ (fun w1 hS => ?_) (fun K hK => ?_)
  rotate_left
  focus (obtain rfl : w1 = _ := hS; go_simp; rfl)
  go_simp
  refine hK _ ?_
  clear hK K
  refine stepE0 rfl rfl (fun K hK => ?_)
  go_simp
  refine hK _ ?_
  clear hK K
  refine stepE2 rfl rfl ?_ (fun w1 hS => ?_) (fun K hK => ?_)
  rotate_left
  focus (obtain rfl : w1 = _ := hS; go_simp; rfl)
  go_simp
  refine hK _ ?_
  clear hK K
  refine stepE1 rfl rfl (by kernel_rfl) (fun K hK => ?_)
  (go_wp2_with fail; refine Calls.mono (find07_any _ _ _ st.now nm _ rfl ((reads_of_owns HEN.out).below (by repeat (first | (with_reducible exact Below.refl _ _) | (with_reducible refine Below.setCell ?_ ?_ _) | (with_reducible refine Below.alloc ?_ ?_ _) | (with_reducible refine Below.drewN ?_ _) | (with_reducible refine Below.drew ?_) | (with_reducible exact Nat.le_refl _) | (focus (simp only [World.size_alloc, World.size_setCell, World.size_drew, World.size_drewN]; omega)) | omega | exact Nat.le_refl _ | (focus (simp; done)) | (focus (simp; omega))))) (by omega)) ?_; rintro e w2 ⟨rfl, rfl⟩; rw [HF.out]; go_wp2)
  refine stepE0 rfl rfl (fun K hK => ?_)
  go_simp
  refine hK _ ?_
  clear hK K
  try refine stepEnil0 ?_
  go_wp2_with fail
  go_ret3
  exact ⟨.slice none 0 0, rfl, reads_none _ _, RTo.below H.out (by repeat (first | (with_reducible exact Below.refl _ _) | (with_reducible refine Below.setCell ?_ ?_ _) | (with_reducible refine Below.alloc ?_ ?_ _) | (with_reducible refine Below.drewN ?_ _) | (with_reducible refine Below.drew ?_) | (with_reducible exact Nat.le_refl _) | (focus (simp only [World.size_alloc, World.size_setCell, World.size_drew, World.size_drewN]; omega)) | omega | exact Nat.le_refl _ | (focus (simp; done)) | (focus (simp; omega))))⟩
set_option maxRecDepth 100000 in
set_option maxHeartbeats 4000000 in
theorem rdo11 (m N : Nat) (M : Nat → Prop) (st : Dk) (nm to : Nm) (b : List UInt8) (ab af : Option Addr) (cb lf cf : Nat) (an am pn : Int) (w : World) (h : RefAt w m M st) (hok : DkOk N st) (hN : N < 4096) (k : Int) (h11 : 11 ≤ k) (ha : st.armed ≠ 0) (f : Nat) (hg : dirGet st.now nm = some f) :
    Calls Try.prog 28 #[(.pointer (some ⟨m, 0, none⟩)), .agg #[.int .i64 k, .string ⟨nm.toArray⟩, .string ⟨to.toArray⟩, .slice ab b.length cb, .int .i64 an, .int .i64 am, .int .i64 pn, .slice af lf cf]] w (RDoOut w m M [] (st.fileAt f).b.length 0 st) := by
  have ha0 : (st.armed == 0) = false := by simpa using ha
  have ha1 : decide (st.armed = 0) = false := by simpa using ha
  have h9 : 9 ≤ k := by omega
  have hk8 : (k == 8) = false := by simp; omega
  have hk7 : (k == 7) = false := by simp; omega
  have hk82 : decide (k = 8) = false := by simp; omega
  have hk72 : decide (k = 7) = false := by simp; omega
  have hk9 : decide (k < 9) = false := by simp; omega
  have hk92 : (k == 9) = false := by simp; omega
  have hk93 : decide (k = 9) = false := by simp; omega
  have hk10 : (k == 10) = false := by simp; omega
  have hk103 : decide (k = 10) = false := by simp; omega
  have hf := hok.fnow _ (get_mem hg)
  have HF := Lib.hid (findI_some hg)
  clear hg
  have H := Lib.hid h
  have HOK := Lib.hid hok
  obtain ⟨vn, vl, vd, vf, fs, hblk, hen, hel, hde, hfi, hfs, hM, hMr⟩ := h
  have HBLK := Lib.hid hblk
  have hml := blk_lt hblk
  obtain ⟨c0, c1, c2, c3, c4, c5, cfz⟩ := cells6 hblk
  have cf5 := cfz 5
  have HEN := Lib.hid hen
  have HEL := Lib.hid hel
  have HDE := Lib.hid hde
  have HFI := Lib.hid hfi
  have HFS := Lib.hid hfs
  have HM := Lib.hid hM
  have HMR := Lib.hid hMr
  clear hblk hen hel hde hfi hfs hM hMr hok cfz
  have hlen := HOK.out.lnow
  have hen := HEN.out
  obtain ⟨na, nc, rfl⟩ := ownsRow_len hen
  clear hen
  obtain ⟨vb, hvb⟩ := files_get HFS.out hf
  have hfi := HFI.out
  obtain ⟨gf, cg, ax, cx, rfl, ex, hfl, hgf, y0, y1⟩ := hfi.pair hvb
  clear hfi
  simp only at ex
  subst ex
  have HVB := Lib.hid hvb
  have HXR := Lib.hid (HFI.out.2 _ (List.mem_of_getElem? hvb)).1
  have hf0 : (0 : Int) ≤ (f : Int) := by omega
  have hf1 : (f : Int) < (fs.length : Int) := by omega
  have hxl := (HOK.out.at f).2
  clear hvb hf
  go_enter Try.func28, Try.ntmps28
  go_wp2_with fail
  refine wp_region_now0 [3, 5] [(0, 0), (1, 0), (2, 0), (3, 2), (4, 0), (5, 2), (6, 1), (7, 0)] (by kernel_rfl) (by kernel_rfl) rfl (by kernel_rfl) ?_
  refine stepE0 rfl rfl (fun K hK => ?_)
  go_simp
  refine hK _ ?_
  clear hK K
  refine stepE0 rfl rfl (fun K hK => ?_)
  go_simp
  refine hK _ ?_
  clear hK K
  refine stepE0 rfl rfl (fun K hK => ?_)
  go_simp
  refine hK _ ?_
  clear hK K
  refine stepE2 rfl rfl ?_ (fun w1 hS => ?_) (fun K hK => ?_)
  rotate_left
  focus (obtain rfl : w1 = _ := hS; go_simp; rfl)
  go_simp
  refine hK _ ?_
  clear hK K
  refine stepE0 rfl rfl (fun K hK => ?_)
  go_simp
  refine hK _ ?_
  clear hK K
  refine stepE2 rfl rfl ?_ (fun w1 hS => ?_) (fun K hK => ?_)
  rotate_left
  focus (obtain rfl : w1 = _ := hS; go_simp; rfl)
  go_simp
  refine hK _ ?_
  clear hK K
  refine stepE1 rfl rfl (by kernel_rfl) (fun K hK => ?_)
  (go_wp2_with fail; refine Calls.mono (find07_any _ _ _ st.now nm _ rfl ((reads_of_owns HEN.out).below (by repeat (first | (with_reducible exact Below.refl _ _) | (with_reducible refine Below.setCell ?_ ?_ _) | (with_reducible refine Below.alloc ?_ ?_ _) | (with_reducible refine Below.drewN ?_ _) | (with_reducible refine Below.drew ?_) | (with_reducible exact Nat.le_refl _) | (focus (simp only [World.size_alloc, World.size_setCell, World.size_drew, World.size_drewN]; omega)) | omega | exact Nat.le_refl _ | (focus (simp; done)) | (focus (simp; omega))))) (by omega)) ?_; rintro e w2 ⟨rfl, rfl⟩; rw [HF.out]; go_wp2)
  refine stepE0 rfl rfl (fun K hK => ?_)
  go_simp
  refine hK _ ?_
  clear hK K
  try refine stepEnil0 ?_
  go_wp2_with fail
  go_ret3
  exact ⟨.slice none 0 0, rfl, reads_none _ _, RTo.below H.out (by repeat (first | (with_reducible exact Below.refl _ _) | (with_reducible refine Below.setCell ?_ ?_ _) | (with_reducible refine Below.alloc ?_ ?_ _) | (with_reducible refine Below.drewN ?_ _) | (with_reducible refine Below.drew ?_) | (with_reducible exact Nat.le_refl _) | (focus (simp only [World.size_alloc, World.size_setCell, World.size_drew, World.size_drewN]; omega)) | omega | exact Nat.le_refl _ | (focus (simp; done)) | (focus (simp; omega))))⟩
set_option maxRecDepth 100000 in
set_option maxHeartbeats 4000000 in
theorem rdo9_arg (m N : Nat) (M : Nat → Prop) (st : Dk) (nm to : Nm) (b : List UInt8) (ab af : Option Addr) (cb lf cf : Nat) (an am pn : Int) (w : World) (h : RefAt w m M st) (hok : DkOk N st) (hN : N < 4096) (ha : st.armed ≠ 0) (f : Nat) (hg : dirGet st.now nm = some f) (hk : an < 0 ∨ ((st.fileAt f).b.length : Int) ≤ an) :
    Calls Try.prog 28 #[(.pointer (some ⟨m, 0, none⟩)), .agg #[.int .i64 9, .string ⟨nm.toArray⟩, .string ⟨to.toArray⟩, .slice ab b.length cb, .int .i64 an, .int .i64 am, .int .i64 pn, .slice af lf cf]] w (RDoOut w m M [] 0 1 st) := by
  have ha0 : (st.armed == 0) = false := by simpa using ha
  have ha1 : decide (st.armed = 0) = false := by simpa using ha
  have hf := hok.fnow _ (get_mem hg)
  have HF := Lib.hid (findI_some hg)
  clear hg
  have H := Lib.hid h
  have HOK := Lib.hid hok
  obtain ⟨vn, vl, vd, vf, fs, hblk, hen, hel, hde, hfi, hfs, hM, hMr⟩ := h
  have HBLK := Lib.hid hblk
  have hml := blk_lt hblk
  obtain ⟨c0, c1, c2, c3, c4, c5, cfz⟩ := cells6 hblk
  have cf5 := cfz 5
  have HEN := Lib.hid hen
  have HEL := Lib.hid hel
  have HDE := Lib.hid hde
  have HFI := Lib.hid hfi
  have HFS := Lib.hid hfs
  have HM := Lib.hid hM
  have HMR := Lib.hid hMr
  clear hblk hen hel hde hfi hfs hM hMr hok cfz
  have hlen := HOK.out.lnow
  have hen := HEN.out
  obtain ⟨na, nc, rfl⟩ := ownsRow_len hen
  clear hen
  obtain ⟨vb, hvb⟩ := files_get HFS.out hf
  have hfi := HFI.out
  obtain ⟨gf, cg, ax, cx, rfl, ex, hfl, hgf, y0, y1⟩ := hfi.pair hvb
  clear hfi
  simp only at ex
  subst ex
  have HVB := Lib.hid hvb
  have HXR := Lib.hid (HFI.out.2 _ (List.mem_of_getElem? hvb)).1
  have hf0 : (0 : Int) ≤ (f : Int) := by omega
  have hf1 : (f : Int) < (fs.length : Int) := by omega
  have hxl := (HOK.out.at f).2
  clear hvb hf
  go_enter Try.func28, Try.ntmps28
  go_wp2_with fail
  refine wp_region_now0 [3, 5] [(0, 0), (1, 0), (2, 0), (3, 2), (4, 0), (5, 2), (6, 1), (7, 0)] (by kernel_rfl) (by kernel_rfl) rfl (by kernel_rfl) ?_
  refine stepE0 rfl rfl (fun K hK => ?_)
  go_simp
  refine hK _ ?_
  clear hK K
  refine stepE0 rfl rfl (fun K hK => ?_)
  go_simp
  refine hK _ ?_
  clear hK K
  refine stepE0 rfl rfl (fun K hK => ?_)
  go_simp
  refine hK _ ?_
  clear hK K
  refine stepE2 rfl rfl ?_ (fun w1 hS => ?_) (fun K hK => ?_)
  rotate_left
  focus (obtain rfl : w1 = _ := hS; go_simp; rfl)
  go_simp
  refine hK _ ?_
  clear hK K
  refine stepE0 rfl rfl (fun K hK => ?_)
  go_simp
  refine hK _ ?_
  clear hK K
  refine stepE2 rfl rfl ?_ (fun w1 hS => ?_) (fun K hK => ?_)
  rotate_left
  focus (obtain rfl : w1 = _ := hS; go_simp; rfl)
  go_simp
  refine hK _ ?_
  clear hK K
  refine stepE1 rfl rfl (by kernel_rfl) (fun K hK => ?_)
  (go_wp2_with fail; refine Calls.mono (find07_any _ _ _ st.now nm _ rfl ((reads_of_owns HEN.out).below (by repeat (first | (with_reducible exact Below.refl _ _) | (with_reducible refine Below.setCell ?_ ?_ _) | (with_reducible refine Below.alloc ?_ ?_ _) | (with_reducible refine Below.drewN ?_ _) | (with_reducible refine Below.drew ?_) | (with_reducible exact Nat.le_refl _) | (focus (simp only [World.size_alloc, World.size_setCell, World.size_drew, World.size_drewN]; omega)) | omega | exact Nat.le_refl _ | (focus (simp; done)) | (focus (simp; omega))))) (by omega)) ?_; rintro e w2 ⟨rfl, rfl⟩; rw [HF.out]; go_wp2)
  refine stepE0 rfl rfl (fun K hK => ?_)
  go_simp
  refine hK _ ?_
  clear hK K
  try refine stepEnil0 ?_
  rcases hk with hk | hk
  · go_wp2_with fail
    go_ret3
    exact ⟨.slice none 0 0, rfl, reads_none _ _, RTo.below H.out (by repeat (first | (with_reducible exact Below.refl _ _) | (with_reducible refine Below.setCell ?_ ?_ _) | (with_reducible refine Below.alloc ?_ ?_ _) | (with_reducible refine Below.drewN ?_ _) | (with_reducible refine Below.drew ?_) | (with_reducible exact Nat.le_refl _) | (focus (simp only [World.size_alloc, World.size_setCell, World.size_drew, World.size_drewN]; omega)) | omega | exact Nat.le_refl _ | (focus (simp; done)) | (focus (simp; omega))))⟩
  · have hk0 : decide (an < 0) = false := by simp; omega
    go_wp2_with fail
    go_ret3
    exact ⟨.slice none 0 0, rfl, reads_none _ _, RTo.below H.out (by repeat (first | (with_reducible exact Below.refl _ _) | (with_reducible refine Below.setCell ?_ ?_ _) | (with_reducible refine Below.alloc ?_ ?_ _) | (with_reducible refine Below.drewN ?_ _) | (with_reducible refine Below.drew ?_) | (with_reducible exact Nat.le_refl _) | (focus (simp only [World.size_alloc, World.size_setCell, World.size_drew, World.size_drewN]; omega)) | omega | exact Nat.le_refl _ | (focus (simp; done)) | (focus (simp; omega))))⟩
set_option maxRecDepth 100000 in
set_option maxHeartbeats 4000000 in
theorem rdo10_arg (m N : Nat) (M : Nat → Prop) (st : Dk) (nm to : Nm) (b : List UInt8) (ab af : Option Addr) (cb lf cf : Nat) (an am pn : Int) (w : World) (h : RefAt w m M st) (hok : DkOk N st) (hN : N < 4096) (ha : st.armed ≠ 0) (f : Nat) (hg : dirGet st.now nm = some f) (hk : an < 0 ∨ am < 0) :
    Calls Try.prog 28 #[(.pointer (some ⟨m, 0, none⟩)), .agg #[.int .i64 10, .string ⟨nm.toArray⟩, .string ⟨to.toArray⟩, .slice ab b.length cb, .int .i64 an, .int .i64 am, .int .i64 pn, .slice af lf cf]] w (RDoOut w m M [] 0 1 st) := by
  have ha0 : (st.armed == 0) = false := by simpa using ha
  have ha1 : decide (st.armed = 0) = false := by simpa using ha
  have hf := hok.fnow _ (get_mem hg)
  have HF := Lib.hid (findI_some hg)
  clear hg
  have H := Lib.hid h
  have HOK := Lib.hid hok
  obtain ⟨vn, vl, vd, vf, fs, hblk, hen, hel, hde, hfi, hfs, hM, hMr⟩ := h
  have HBLK := Lib.hid hblk
  have hml := blk_lt hblk
  obtain ⟨c0, c1, c2, c3, c4, c5, cfz⟩ := cells6 hblk
  have cf5 := cfz 5
  have HEN := Lib.hid hen
  have HEL := Lib.hid hel
  have HDE := Lib.hid hde
  have HFI := Lib.hid hfi
  have HFS := Lib.hid hfs
  have HM := Lib.hid hM
  have HMR := Lib.hid hMr
  clear hblk hen hel hde hfi hfs hM hMr hok cfz
  have hlen := HOK.out.lnow
  have hen := HEN.out
  obtain ⟨na, nc, rfl⟩ := ownsRow_len hen
  clear hen
  obtain ⟨vb, hvb⟩ := files_get HFS.out hf
  have hfi := HFI.out
  obtain ⟨gf, cg, ax, cx, rfl, ex, hfl, hgf, y0, y1⟩ := hfi.pair hvb
  clear hfi
  simp only at ex
  subst ex
  have HVB := Lib.hid hvb
  have HXR := Lib.hid (HFI.out.2 _ (List.mem_of_getElem? hvb)).1
  have hf0 : (0 : Int) ≤ (f : Int) := by omega
  have hf1 : (f : Int) < (fs.length : Int) := by omega
  have hxl := (HOK.out.at f).2
  clear hvb hf
  go_enter Try.func28, Try.ntmps28
  go_wp2_with fail
  refine wp_region_now0 [3, 5] [(0, 0), (1, 0), (2, 0), (3, 2), (4, 0), (5, 2), (6, 1), (7, 0)] (by kernel_rfl) (by kernel_rfl) rfl (by kernel_rfl) ?_
  refine stepE0 rfl rfl (fun K hK => ?_)
  go_simp
  refine hK _ ?_
  clear hK K
  refine stepE0 rfl rfl (fun K hK => ?_)
  go_simp
  refine hK _ ?_
  clear hK K
  refine stepE0 rfl rfl (fun K hK => ?_)
  go_simp
  refine hK _ ?_
  clear hK K
  refine stepE2 rfl rfl ?_ (fun w1 hS => ?_) (fun K hK => ?_)
  rotate_left
  focus (obtain rfl : w1 = _ := hS; go_simp; rfl)
  go_simp
  refine hK _ ?_
  clear hK K
  refine stepE0 rfl rfl (fun K hK => ?_)
  go_simp
  refine hK _ ?_
  clear hK K
  refine stepE2 rfl rfl ?_ (fun w1 hS => ?_) (fun K hK => ?_)
  rotate_left
  focus (obtain rfl : w1 = _ := hS; go_simp; rfl)
  go_simp
  refine hK _ ?_
  clear hK K
  refine stepE1 rfl rfl (by kernel_rfl) (fun K hK => ?_)
  (go_wp2_with fail; refine Calls.mono (find07_any _ _ _ st.now nm _ rfl ((reads_of_owns HEN.out).below (by repeat (first | (with_reducible exact Below.refl _ _) | (with_reducible refine Below.setCell ?_ ?_ _) | (with_reducible refine Below.alloc ?_ ?_ _) | (with_reducible refine Below.drewN ?_ _) | (with_reducible refine Below.drew ?_) | (with_reducible exact Nat.le_refl _) | (focus (simp only [World.size_alloc, World.size_setCell, World.size_drew, World.size_drewN]; omega)) | omega | exact Nat.le_refl _ | (focus (simp; done)) | (focus (simp; omega))))) (by omega)) ?_; rintro e w2 ⟨rfl, rfl⟩; rw [HF.out]; go_wp2)
  refine stepE0 rfl rfl (fun K hK => ?_)
  go_simp
  refine hK _ ?_
  clear hK K
  try refine stepEnil0 ?_
  by_cases hk1 : an < 0
  · go_wp2_with fail
    go_ret3
    exact ⟨.slice none 0 0, rfl, reads_none _ _, RTo.below H.out (by repeat (first | (with_reducible exact Below.refl _ _) | (with_reducible refine Below.setCell ?_ ?_ _) | (with_reducible refine Below.alloc ?_ ?_ _) | (with_reducible refine Below.drewN ?_ _) | (with_reducible refine Below.drew ?_) | (with_reducible exact Nat.le_refl _) | (focus (simp only [World.size_alloc, World.size_setCell, World.size_drew, World.size_drewN]; omega)) | omega | exact Nat.le_refl _ | (focus (simp; done)) | (focus (simp; omega))))⟩
  · have hk0 : decide (an < 0) = false := by simp; omega
    have hk2 : am < 0 := by omega
    go_wp2_with fail
    go_ret3
    exact ⟨.slice none 0 0, rfl, reads_none _ _, RTo.below H.out (by repeat (first | (with_reducible exact Below.refl _ _) | (with_reducible refine Below.setCell ?_ ?_ _) | (with_reducible refine Below.alloc ?_ ?_ _) | (with_reducible refine Below.drewN ?_ _) | (with_reducible refine Below.drew ?_) | (with_reducible exact Nat.le_refl _) | (focus (simp only [World.size_alloc, World.size_setCell, World.size_drew, World.size_drewN]; omega)) | omega | exact Nat.le_refl _ | (focus (simp; done)) | (focus (simp; omega))))⟩
set_option maxRecDepth 100000 in
set_option maxHeartbeats 4000000 in
theorem rdo10_short (m N : Nat) (M : Nat → Prop) (st : Dk) (nm to : Nm) (b : List UInt8) (ab af : Option Addr) (cb lf cf : Nat) (an am pn : Int) (w : World) (h : RefAt w m M st) (hok : DkOk N st) (hN : N < 4096) (ha : st.armed ≠ 0) (f : Nat) (hg : dirGet st.now nm = some f) (hk1 : 0 ≤ an) (hk2 : 0 ≤ am) (ham : am ≤ 9223372036854775807) (hk : ((st.fileAt f).b.length : Int) < an + am) :
    Calls Try.prog 28 #[(.pointer (some ⟨m, 0, none⟩)), .agg #[.int .i64 10, .string ⟨nm.toArray⟩, .string ⟨to.toArray⟩, .slice ab b.length cb, .int .i64 an, .int .i64 am, .int .i64 pn, .slice af lf cf]] w (RDoOut w m M [] 0 3 st) := by
  have ha0 : (st.armed == 0) = false := by simpa using ha
  have ha1 : decide (st.armed = 0) = false := by simpa using ha
  have hf := hok.fnow _ (get_mem hg)
  have HF := Lib.hid (findI_some hg)
  clear hg
  have H := Lib.hid h
  have HOK := Lib.hid hok
  obtain ⟨vn, vl, vd, vf, fs, hblk, hen, hel, hde, hfi, hfs, hM, hMr⟩ := h
  have HBLK := Lib.hid hblk
  have hml := blk_lt hblk
  obtain ⟨c0, c1, c2, c3, c4, c5, cfz⟩ := cells6 hblk
  have cf5 := cfz 5
  have HEN := Lib.hid hen
  have HEL := Lib.hid hel
  have HDE := Lib.hid hde
  have HFI := Lib.hid hfi
  have HFS := Lib.hid hfs
  have HM := Lib.hid hM
  have HMR := Lib.hid hMr
  clear hblk hen hel hde hfi hfs hM hMr hok cfz
  have hlen := HOK.out.lnow
  have hen := HEN.out
  obtain ⟨na, nc, rfl⟩ := ownsRow_len hen
  clear hen
  obtain ⟨vb, hvb⟩ := files_get HFS.out hf
  have hfi := HFI.out
  obtain ⟨gf, cg, ax, cx, rfl, ex, hfl, hgf, y0, y1⟩ := hfi.pair hvb
  clear hfi
  simp only at ex
  subst ex
  have HVB := Lib.hid hvb
  have HXR := Lib.hid (HFI.out.2 _ (List.mem_of_getElem? hvb)).1
  have hf0 : (0 : Int) ≤ (f : Int) := by omega
  have hf1 : (f : Int) < (fs.length : Int) := by omega
  have hxl := (HOK.out.at f).2
  clear hvb hf
  go_enter Try.func28, Try.ntmps28
  go_wp2_with fail
  refine wp_region_now0 [3, 5] [(0, 0), (1, 0), (2, 0), (3, 2), (4, 0), (5, 2), (6, 1), (7, 0)] (by kernel_rfl) (by kernel_rfl) rfl (by kernel_rfl) ?_
  refine stepE0 rfl rfl (fun K hK => ?_)
  go_simp
  refine hK _ ?_
  clear hK K
  refine stepE0 rfl rfl (fun K hK => ?_)
  go_simp
  refine hK _ ?_
  clear hK K
  refine stepE0 rfl rfl (fun K hK => ?_)
  go_simp
  refine hK _ ?_
  clear hK K
  refine stepE2 rfl rfl ?_ (fun w1 hS => ?_) (fun K hK => ?_)
  rotate_left
  focus (obtain rfl : w1 = _ := hS; go_simp; rfl)
  go_simp
  refine hK _ ?_
  clear hK K
  refine stepE0 rfl rfl (fun K hK => ?_)
  go_simp
  refine hK _ ?_
  clear hK K
  refine stepE2 rfl rfl ?_ (fun w1 hS => ?_) (fun K hK => ?_)
  rotate_left
  focus (obtain rfl : w1 = _ := hS; go_simp; rfl)
  go_simp
  refine hK _ ?_
  clear hK K
  refine stepE1 rfl rfl (by kernel_rfl) (fun K hK => ?_)
  (go_wp2_with fail; refine Calls.mono (find07_any _ _ _ st.now nm _ rfl ((reads_of_owns HEN.out).below (by repeat (first | (with_reducible exact Below.refl _ _) | (with_reducible refine Below.setCell ?_ ?_ _) | (with_reducible refine Below.alloc ?_ ?_ _) | (with_reducible refine Below.drewN ?_ _) | (with_reducible refine Below.drew ?_) | (with_reducible exact Nat.le_refl _) | (focus (simp only [World.size_alloc, World.size_setCell, World.size_drew, World.size_drewN]; omega)) | omega | exact Nat.le_refl _ | (focus (simp; done)) | (focus (simp; omega))))) (by omega)) ?_; rintro e w2 ⟨rfl, rfl⟩; rw [HF.out]; go_wp2)
  refine stepE0 rfl rfl (fun K hK => ?_)
  go_simp
  refine hK _ ?_
  clear hK K
  try refine stepEnil0 ?_
  have ha1 : decide (an < 0) = false := by simp; omega
  have ha2 : decide (am < 0) = false := by simp; omega
  by_cases hk3 : ((st.fileAt f).b.length : Int) < an
  · go_wp2_with fail
    go_ret3
    exact ⟨.slice none 0 0, rfl, reads_none _ _, RTo.below H.out (by repeat (first | (with_reducible exact Below.refl _ _) | (with_reducible refine Below.setCell ?_ ?_ _) | (with_reducible refine Below.alloc ?_ ?_ _) | (with_reducible refine Below.drewN ?_ _) | (with_reducible refine Below.drew ?_) | (with_reducible exact Nat.le_refl _) | (focus (simp only [World.size_alloc, World.size_setCell, World.size_drew, World.size_drewN]; omega)) | omega | exact Nat.le_refl _ | (focus (simp; done)) | (focus (simp; omega))))⟩
  · have hk0 : decide (((st.fileAt f).b.length : Int) < an) = false := by simp; omega
    have hk4 : ((st.fileAt f).b.length : Int) - an < am := by omega
    go_wp2_with fail
    go_ret3
    exact ⟨.slice none 0 0, rfl, reads_none _ _, RTo.below H.out (by repeat (first | (with_reducible exact Below.refl _ _) | (with_reducible refine Below.setCell ?_ ?_ _) | (with_reducible refine Below.alloc ?_ ?_ _) | (with_reducible refine Below.drewN ?_ _) | (with_reducible refine Below.drew ?_) | (with_reducible exact Nat.le_refl _) | (focus (simp only [World.size_alloc, World.size_setCell, World.size_drew, World.size_drewN]; omega)) | omega | exact Nat.le_refl _ | (focus (simp; done)) | (focus (simp; omega))))⟩
set_option maxRecDepth 100000 in
set_option maxHeartbeats 4000000 in
theorem rdo10_do (m N : Nat) (M : Nat → Prop) (st : Dk) (nm to : Nm) (b : List UInt8) (ab af : Option Addr) (cb lf cf : Nat) (an am pn : Int) (w : World) (h : RefAt w m M st) (hok : DkOk N st) (hN : N < 4096) (ha : st.armed ≠ 0) (f i k : Nat) (hi : an = i) (hk : am = k) (hg : dirGet st.now nm = some f) (hik : i + k ≤ (st.fileAt f).b.length) :
    Calls Try.prog 28 #[(.pointer (some ⟨m, 0, none⟩)), .agg #[.int .i64 10, .string ⟨nm.toArray⟩, .string ⟨to.toArray⟩, .slice ab b.length cb, .int .i64 an, .int .i64 am, .int .i64 pn, .slice af lf cf]] w (RDoOut w m M (((st.fileAt f).b.drop i).take k) 0 0 st) := by
  have ha0 : (st.armed == 0) = false := by simpa using ha
  have ha1 : decide (st.armed = 0) = false := by simpa using ha
  subst hi hk
  have hf := hok.fnow _ (get_mem hg)
  have HF := Lib.hid (findI_some hg)
  clear hg
  have H := Lib.hid h
  have HOK := Lib.hid hok
  obtain ⟨vn, vl, vd, vf, fs, hblk, hen, hel, hde, hfi, hfs, hM, hMr⟩ := h
  have HBLK := Lib.hid hblk
  have hml := blk_lt hblk
  obtain ⟨c0, c1, c2, c3, c4, c5, cfz⟩ := cells6 hblk
  have cf5 := cfz 5
  have HEN := Lib.hid hen
  have HEL := Lib.hid hel
  have HDE := Lib.hid hde
  have HFI := Lib.hid hfi
  have HFS := Lib.hid hfs
  have HM := Lib.hid hM
  have HMR := Lib.hid hMr
  clear hblk hen hel hde hfi hfs hM hMr hok cfz
  have hlen := HOK.out.lnow
  have hen := HEN.out
  obtain ⟨na, nc, rfl⟩ := ownsRow_len hen
  clear hen
  obtain ⟨vb, hvb⟩ := files_get HFS.out hf
  have hfi := HFI.out
  obtain ⟨gf, cg, ax, cx, rfl, ex, hfl, hgf, y0, y1⟩ := hfi.pair hvb
  clear hfi
  simp only at ex
  subst ex
  have HVB := Lib.hid hvb
  have HXR := Lib.hid (HFI.out.2 _ (List.mem_of_getElem? hvb)).1
  have hf0 : (0 : Int) ≤ (f : Int) := by omega
  have hf1 : (f : Int) < (fs.length : Int) := by omega
  have hxl := (HOK.out.at f).2
  clear hvb hf
  go_enter Try.func28, Try.ntmps28
  go_wp2_with fail
  refine wp_region_now0 [3, 5] [(0, 0), (1, 0), (2, 0), (3, 2), (4, 0), (5, 2), (6, 1), (7, 0)] (by kernel_rfl) (by kernel_rfl) rfl (by kernel_rfl) ?_
  refine stepE0 rfl rfl (fun K hK => ?_)
  go_simp
  refine hK _ ?_
  clear hK K
  refine stepE0 rfl rfl (fun K hK => ?_)
  go_simp
  refine hK _ ?_
  clear hK K
  refine stepE0 rfl rfl (fun K hK => ?_)
  go_simp
  refine hK _ ?_
  clear hK K
  refine stepE2 rfl rfl ?_ (fun w1 hS => ?_) (fun K hK => ?_)
  rotate_left
  focus (obtain rfl : w1 = _ := hS; go_simp; rfl)
  go_simp
  refine hK _ ?_
  clear hK K
  refine stepE0 rfl rfl (fun K hK => ?_)
  go_simp
  refine hK _ ?_
  clear hK K
  refine stepE2 rfl rfl ?_ (fun w1 hS => ?_) (fun K hK => ?_)
  rotate_left
  focus (obtain rfl : w1 = _ := hS; go_simp; rfl)
  go_simp
  refine hK _ ?_
  clear hK K
  refine stepE1 rfl rfl (by kernel_rfl) (fun K hK => ?_)
  (go_wp2_with fail; refine Calls.mono (find07_any _ _ _ st.now nm _ rfl ((reads_of_owns HEN.out).below (by repeat (first | (with_reducible exact Below.refl _ _) | (with_reducible refine Below.setCell ?_ ?_ _) | (with_reducible refine Below.alloc ?_ ?_ _) | (with_reducible refine Below.drewN ?_ _) | (with_reducible refine Below.drew ?_) | (with_reducible exact Nat.le_refl _) | (focus (simp only [World.size_alloc, World.size_setCell, World.size_drew, World.size_drewN]; omega)) | omega | exact Nat.le_refl _ | (focus (simp; done)) | (focus (simp; omega))))) (by omega)) ?_; rintro e w2 ⟨rfl, rfl⟩; rw [HF.out]; go_wp2)
  refine stepE0 rfl rfl (fun K hK => ?_)
  go_simp
  refine hK _ ?_
  clear hK K
  try refine stepEnil0 ?_
  have hi1 : decide ((i : Int) < 0) = false := by simp
  have hi2 : decide ((k : Int) < 0) = false := by simp
  have hk0 : decide (((st.fileAt f).b.length : Int) < (i : Int)) = false := by simp; omega
  have hk02 : decide ((st.fileAt f).b.length < i) = false := by simp; omega
  have hk4 : decide (((st.fileAt f).b.length : Int) - (i : Int) < (k : Int)) = false := by simp; omega
  obtain ⟨n, hn⟩ : ∃ n, n = (st.fileAt f).b.length := ⟨_, rfl⟩
  have hrun := run_midT 22 5 Try.underlying22 (fun W => by kernel_rfl) ax (st.fileAt f).b.length cx i (i + k) (by omega) (by have := row_cap7 HXR.out; omega)
  rw [show ((i + k : Nat) : Int) = (i : Int) + (k : Int) by omega] at hrun
  have HMID := Lib.hid (mid_reads (l := i) (k := k) HXR.out rfl hik)
  obtain ⟨a', ha'⟩ : ∃ a', a' = (if cx = i then ax else ax.map (·.add (i * 1))) := ⟨_, rfl⟩
  obtain ⟨c', hc'⟩ : ∃ c', c' = cx - i := ⟨_, rfl⟩
  rw [← ha', ← hc'] at hrun HMID
  rw [show i + k - i = k by omega] at hrun
  clear ha' hc' hn
  go_wp2_with fail
  go_ret3
  have hlk : (((st.fileAt f).b.drop i).take k).length = k := by rw [List.length_take, List.length_drop]; omega
  exact ⟨.slice a' k c', rfl, by rw [hlk]; exact HMID.out.below (by repeat (first | (with_reducible exact Below.refl _ _) | (with_reducible refine Below.setCell ?_ ?_ _) | (with_reducible refine Below.alloc ?_ ?_ _) | (with_reducible refine Below.drewN ?_ _) | (with_reducible refine Below.drew ?_) | (with_reducible exact Nat.le_refl _) | (focus (simp only [World.size_alloc, World.size_setCell, World.size_drew, World.size_drewN]; omega)) | omega | exact Nat.le_refl _ | (focus (simp; done)) | (focus (simp; omega)))), RTo.below H.out (by repeat (first | (with_reducible exact Below.refl _ _) | (with_reducible refine Below.setCell ?_ ?_ _) | (with_reducible refine Below.alloc ?_ ?_ _) | (with_reducible refine Below.drewN ?_ _) | (with_reducible refine Below.drew ?_) | (with_reducible exact Nat.le_refl _) | (focus (simp only [World.size_alloc, World.size_setCell, World.size_drew, World.size_drewN]; omega)) | omega | exact Nat.le_refl _ | (focus (simp; done)) | (focus (simp; omega))))⟩
set_option maxRecDepth 100000 in
set_option maxHeartbeats 4000000 in
theorem rdo9_do (m N : Nat) (M : Nat → Prop) (st : Dk) (nm to : Nm) (b : List UInt8) (ab af : Option Addr) (cb lf cf : Nat) (an am pn : Int) (w : World) (h : RefAt w m M st) (hok : DkOk N st) (hN : N < 4096) (ha : st.armed ≠ 0) (f i : Nat) (hi : an = i) (hg : dirGet st.now nm = some f) (hik : i < (st.fileAt f).b.length) (x : UInt8) (hx : x = byteOf am) :
    Calls Try.prog 28 #[(.pointer (some ⟨m, 0, none⟩)), .agg #[.int .i64 9, .string ⟨nm.toArray⟩, .string ⟨to.toArray⟩, .slice ab b.length cb, .int .i64 an, .int .i64 am, .int .i64 pn, .slice af lf cf]] w (RDoOut w m M [] 0 0 (st.setF f ⟨xorAt (st.fileAt f).b i x, (st.fileAt f).lasts⟩)) := by
  have ha0 : (st.armed == 0) = false := by simpa using ha
  have ha1 : decide (st.armed = 0) = false := by simpa using ha
  subst hi
  have HXX := Lib.hid hx
  clear hx
  have hf := hok.fnow _ (get_mem hg)
  have HF := Lib.hid (findI_some hg)
  clear hg
  have H := Lib.hid h
  have HOK := Lib.hid hok
  obtain ⟨vn, vl, vd, vf, fs, hblk, hen, hel, hde, hfi, hfs, hM, hMr⟩ := h
  have HBLK := Lib.hid hblk
  have hml := blk_lt hblk
  obtain ⟨c0, c1, c2, c3, c4, c5, cfz⟩ := cells6 hblk
  have cf5 := cfz 5
  have HEN := Lib.hid hen
  have HEL := Lib.hid hel
  have HDE := Lib.hid hde
  have HFI := Lib.hid hfi
  have HFS := Lib.hid hfs
  have HM := Lib.hid hM
  have HMR := Lib.hid hMr
  clear hblk hen hel hde hfi hfs hM hMr hok cfz
  have hlen := HOK.out.lnow
  have hen := HEN.out
  obtain ⟨na, nc, rfl⟩ := ownsRow_len hen
  clear hen
  obtain ⟨vb, hvb⟩ := files_get HFS.out hf
  have hfi := HFI.out
  obtain ⟨gf, cg, ax, cx, rfl, ex, hfl, hgf, y0, y1⟩ := hfi.pair hvb
  clear hfi
  simp only at ex
  subst ex
  have HVB := Lib.hid hvb
  have HXR := Lib.hid (HFI.out.2 _ (List.mem_of_getElem? hvb)).1
  have hf0 : (0 : Int) ≤ (f : Int) := by omega
  have hf1 : (f : Int) < (fs.length : Int) := by omega
  have hxl := (HOK.out.at f).2
  clear hvb hf
  go_enter Try.func28, Try.ntmps28
  go_wp2_with fail
  refine wp_region_now0 [3, 5] [(0, 0), (1, 0), (2, 0), (3, 2), (4, 0), (5, 2), (6, 1), (7, 0)] (by kernel_rfl) (by kernel_rfl) rfl (by kernel_rfl) ?_
  refine stepE0 rfl rfl (fun K hK => ?_)
  go_simp
  refine hK _ ?_
  clear hK K
  refine stepE0 rfl rfl (fun K hK => ?_)
  go_simp
  refine hK _ ?_
  clear hK K
  refine stepE0 rfl rfl (fun K hK => ?_)
  go_simp
  refine hK _ ?_
  clear hK K
  refine stepE2 rfl rfl ?_ (fun w1 hS => ?_) (fun K hK => ?_)
  rotate_left
  focus (obtain rfl : w1 = _ := hS; go_simp; rfl)
  go_simp
  refine hK _ ?_
  clear hK K
  refine stepE0 rfl rfl (fun K hK => ?_)
  go_simp
  refine hK _ ?_
  clear hK K
  refine stepE2 rfl rfl ?_ (fun w1 hS => ?_) (fun K hK => ?_)
  rotate_left
  focus (obtain rfl : w1 = _ := hS; go_simp; rfl)
  go_simp
  refine hK _ ?_
  clear hK K
  refine stepE1 rfl rfl (by kernel_rfl) (fun K hK => ?_)
  (go_wp2_with fail; refine Calls.mono (find07_any _ _ _ st.now nm _ rfl ((reads_of_owns HEN.out).below (by repeat (first | (with_reducible exact Below.refl _ _) | (with_reducible refine Below.setCell ?_ ?_ _) | (with_reducible refine Below.alloc ?_ ?_ _) | (with_reducible refine Below.drewN ?_ _) | (with_reducible refine Below.drew ?_) | (with_reducible exact Nat.le_refl _) | (focus (simp only [World.size_alloc, World.size_setCell, World.size_drew, World.size_drewN]; omega)) | omega | exact Nat.le_refl _ | (focus (simp; done)) | (focus (simp; omega))))) (by omega)) ?_; rintro e w2 ⟨rfl, rfl⟩; rw [HF.out]; go_wp2)
  refine stepE0 rfl rfl (fun K hK => ?_)
  go_simp
  refine hK _ ?_
  clear hK K
  try refine stepEnil0 ?_
  have hi1 : decide ((i : Int) < 0) = false := by simp
  have hk0 : decide (((st.fileAt f).b.length : Int) ≤ (i : Int)) = false := by simp; omega
  have hk02 : decide ((st.fileAt f).b.length ≤ i) = false := by simp; omega
  have hby : Value.int .u8 (am % 256) = .int .u8 x.toNat := by
    rw [HXX.out]
    unfold byteOf
    congr 1
    rw [UInt8.toNat_ofNat']
    omega
  have hby2 : am % 256 = (x.toNat : Int) := by injection hby
  obtain ⟨i0, hi, hz0, hz1, hz2⟩ := info_parts byteT_info
  have HI := Lib.hid hi
  have HZ0 := Lib.hid hz0
  have HZ1 := Lib.hid hz1
  have HZ2 := Lib.hid hz2
  clear hi hz0 hz1 hz2 hby
  obtain ⟨yb, hyb⟩ : ∃ yb, (st.fileAt f).b[i]? = some yb := ⟨_, List.getElem?_eq_getElem hik⟩
  have HSET := Lib.hid (show xorAt (st.fileAt f).b i x = (st.fileAt f).b.set i (yb ^^^ x) by unfold xorAt; rw [hyb]; rfl)
  have HYB := Lib.hid hyb
  obtain ⟨n, hn⟩ : ∃ n, n = (st.fileAt f).b.length := ⟨_, rfl⟩
  have HN := Lib.hid hn
  have hxr := HXR.out
  unfold RB at hxr
  rw [← hn] at hxr hik hk0 hk02 hxl y0
  have HX2 := Lib.hid hxr
  have hBX : w.heap.size < (w.alloc (.cells #[.int .i64 9, .string ⟨nm.toArray⟩, .string ⟨to.toArray⟩, .slice ab b.length cb, .int .i64 i, .int .i64 am, .int .i64 pn, .slice af lf cf] 53)).heap.size := by simp
  clear hyb hn hxr
  obtain ⟨w1, hw1⟩ : ∃ w1, w1 = (w.alloc (.cells #[.int .i64 9, .string ⟨nm.toArray⟩, .string ⟨to.toArray⟩, .slice ab b.length cb, .int .i64 i, .int .i64 am, .int .i64 pn, .slice af lf cf] 53)).drew := ⟨_, rfl⟩
  have HB1 := Lib.hid (show Below w.heap.size w w1 by rw [hw1]; exact (by repeat (first | (with_reducible exact Below.refl _ _) | (with_reducible refine Below.setCell ?_ ?_ _) | (with_reducible refine Below.alloc ?_ ?_ _) | (with_reducible refine Below.drewN ?_ _) | (with_reducible refine Below.drew ?_) | (with_reducible exact Nat.le_refl _) | (focus (simp only [World.size_alloc, World.size_setCell, World.size_drew, World.size_drewN]; omega)) | omega | exact Nat.le_refl _ | (focus (simp; done)) | (focus (simp; omega)))))
  have hz1 : w1.heap.size = w.heap.size + 1 := by rw [hw1]; simp
  have HBA := Lib.hid (show w1.heap[w.heap.size]? = some (.cells #[.int .i64 9, .string ⟨nm.toArray⟩, .string ⟨to.toArray⟩, .slice ab b.length cb, .int .i64 i, .int .i64 am, .int .i64 pn, .slice af lf cf] 53 (0, 0)) by rw [hw1]; exact blk_drew7 (blk_new _ rfl))
  have HBM := Lib.hid (blk_below HBLK.out HB1.out)
  rw [← hw1]
  clear hw1 hBX
  obtain ⟨d0, d1, d2, d3, d4, d5, d6, d7⟩ := cells8 HBA.out
  obtain ⟨m0, m1, m2, m3, m4, m5, mf⟩ := cells6 HBM.out
  have hml1 := blk_lt HBM.out
  have hal1 := blk_lt HBA.out
  have y0' := (HB1.out.cell (p := ⟨gf, f * 2, none⟩) hgf).trans y0
  have hgf1 : gf < w1.heap.size := by omega
  clear mf
  go_upto_region 24 with fail
  go_wp2_with (at_builtin; refine wpList_append_reads _ rfl _ _ 22 rfl w1.heap.size 5 i0 (.int .u8 0) 1 1 Try.underlying22 HI.out HZ0.out HZ1.out HZ2.out rfl (by decide) (.slice (some ⟨w.heap.size + 1, 0, none⟩) 0 0) 0 [] rfl (lit_u8 hz1 (Nat.le_of_eq hz1)) (.slice ax n cx) n ((st.fileAt f).b.map bv) rfl (reads_of_owns (ownsRow_below (ownsRow_below HX2.out HB1.out) (by repeat (first | (with_reducible exact Below.refl _ _) | (with_reducible refine Below.setCell ?_ ?_ _) | (with_reducible refine Below.alloc ?_ ?_ _) | (with_reducible refine Below.drewN ?_ _) | (with_reducible refine Below.drew ?_) | (with_reducible exact Nat.le_refl _) | (focus (simp only [World.size_alloc, World.size_setCell, World.size_drew, World.size_drewN]; omega)) | omega | exact Nat.le_refl _ | (focus (simp; done)) | (focus (simp; omega)))))) (bv_one _) (by unfold maxLen; omega) (by omega) (by first | omega | (simp; done) | (simp; omega)) ?_; intro v1 w5 hown5 hgrow5 hat5; have hzq5 := hgrow5.size; simp only [World.size_alloc] at hzq5; have HB5 := Lib.hid (show Below w1.heap.size w1 w5 from Below.grown (by repeat (first | (with_reducible exact Below.refl _ _) | (with_reducible refine Below.setCell ?_ ?_ _) | (with_reducible refine Below.alloc ?_ ?_ _) | (with_reducible refine Below.drewN ?_ _) | (with_reducible refine Below.drew ?_) | (with_reducible exact Nat.le_refl _) | (focus (simp only [World.size_alloc, World.size_setCell, World.size_drew, World.size_drewN]; omega)) | omega | exact Nat.le_refl _ | (focus (simp; done)) | (focus (simp; omega)))) hgrow5 (by first | omega | (simp; done) | (simp; omega)) (fun q e => by have h9 : w.heap.size + 1 = q := (by simpa [Value.ownBlock] using e); omega)); have hown5' : w5.ownsRow w1.heap.size 5 1 v1 n ((st.fileAt f).b.map bv) := (by simpa using hown5); obtain ⟨a5, c5', rfl⟩ := ownsRow_len hown5'; have HO5 := Lib.hid hown5'; clear hown5 hown5' hgrow5 hat5)
  obtain ⟨g, rfl⟩ : ∃ g, a5 = some ⟨g, 0, none⟩ := by
    rcases row_addr HO5.out with ⟨rfl, _⟩ | h9
    · rcases HO5.out.2 with ⟨_, e⟩ | ⟨g, _, _, e, _⟩
      · omega
      · cases e
    · exact h9
  have hgc : w5.cell? ⟨g, i, none⟩ = some (.int .u8 yb.toNat) := by
    rw [HO5.out.cellAt i (by omega), List.getElem?_map, HYB.out]
    rfl
  have hgfz : w5.frozen? ⟨g, i, none⟩ = false := HO5.out.frozenAt _
  have hgl := (HO5.out.lt g rfl).2
  have hge := (HO5.out.lt g rfl).1
  have HB05 := Lib.hid (HB1.out.trans (HB5.out.mono (by omega)))
  have hba5 := blk_below HBA.out HB5.out
  have hbm5 := blk_below HBM.out HB5.out
  obtain ⟨q0, q1, q2, q3, q4, q5, q6, q7⟩ := cells8 hba5
  obtain ⟨r0, r1, r2, r3, r4, r5, rf⟩ := cells6 hbm5
  have hal5 := blk_lt hba5
  have hml5 := blk_lt hbm5
  have hgf5 : gf < w5.heap.size := by omega
  have hne1 : gf ≠ g := by omega
  have hne2 : g ≠ gf := by omega
  have hne3 : m ≠ g := by omega
  have hne4 : w.heap.size ≠ g := by omega
  have fz0 : w5.frozen? ⟨gf, f * 2, none⟩ = false := (ownsRow_below HFI.out.1 HB05.out).frozenAt _
  have z0 := (HB5.out.cell (p := ⟨gf, f * 2, none⟩) hgf1).trans y0'
  have hi0 : (0 : Int) ≤ (i : Int) := by omega
  have hik1 : (i : Int) < (n : Int) := by omega
  have HXB := Lib.hid (xor_bv yb x)
  clear rf q0 q1 q2 q3 q6 q7 d0 d1 d2 d3 d4 d5 d6 d7 m0 m1 m2 m3 m4 m5 hba5 hbm5 y0' y0 y1 c0 c1 c2 c3 c4 c5 cf5
  go_upto_region 25 with fail
  refine wp_region_now0 [2, 5, 7, 9] [(0, 0), (1, 0), (2, 2), (3, 0), (4, 0), (5, 2), (6, 0), (7, 2), (8, 0), (9, 2), (10, 0), (11, 0), (12, 0), (13, 1)] (by kernel_rfl) (by kernel_rfl) rfl (by kernel_rfl) ?_
  refine stepE0 rfl rfl (fun K hK => ?_)
  go_simp
  refine hK _ ?_
  clear hK K
  refine stepE0 rfl rfl (fun K hK => ?_)
  go_simp
  refine hK _ ?_
  clear hK K
  refine stepE2 rfl rfl ?_ (fun w1 hS => ?_) (fun K hK => ?_)
  rotate_left
  focus (obtain rfl : w1 = _ := hS; go_simp; rfl)
  go_simp
  refine hK _ ?_
  clear hK K
  refine stepE0 rfl rfl (fun K hK => ?_)
  go_simp
  refine hK _ ?_
  clear hK K
  refine stepE0 rfl rfl (fun K hK => ?_)
  go_simp
  refine hK _ ?_
  clear hK K
  refine stepE2 rfl rfl ?_ (fun w1 hS => ?_) (fun K hK => ?_)
  rotate_left
  focus (obtain rfl : w1 = _ := hS; go_simp; rfl)
  go_simp
  refine hK _ ?_
  clear hK K
  refine stepE0 rfl rfl (fun K hK => ?_)
  go_simp
  refine hK _ ?_
  clear hK K
  refine stepE2 rfl rfl ?_ (fun w1 hS => ?_) (fun K hK => ?_)
  rotate_left
  focus (obtain rfl : w1 = _ := hS; go_simp; rfl)
  go_simp
  refine hK _ ?_
  clear hK K
  refine stepE0 rfl rfl (fun K hK => ?_)
  go_simp
  refine hK _ ?_
  clear hK K
  refine stepE2 rfl rfl ?_ (fun w1 hS => ?_) (fun K hK => ?_)
  rotate_left
  focus (obtain rfl : w1 = _ := hS; go_simp; rfl)
  go_simp
  refine hK _ ?_
  clear hK K
  refine stepE0 rfl rfl (fun K hK => ?_)
  go_simp
  refine hK _ ?_
  clear hK K
  refine stepE0 rfl rfl (fun K hK => ?_)
  go_simp
  refine hK _ ?_
  clear hK K
  refine stepE0 rfl rfl (fun K hK => ?_)
  go_simp
  refine hK _ ?_
  clear hK K
  refine stepE1 rfl rfl (by kernel_rfl) (fun K hK => ?_)
  go_wp2
  try refine stepEnil0 ?_
  rw [hby2, HXB.out]
  clear hby2
  go_wp2_with fail
  go_ret3
  obtain ⟨w6, hw6⟩ : ∃ w6, w6 = w5.setCell ⟨g, i, none⟩ (bv (yb ^^^ x)) := ⟨_, rfl⟩
  have hR := rset_b (w2 := w6) (x := ⟨xorAt (st.fileAt f).b i x, (st.fileAt f).lasts⟩) HBLK.out HM.out HMR.out HEN.out HEL.out HDE.out HFI.out HFS.out HVB.out rfl (by rw [hw6]; exact Below.setCell HB05.out (by show w.heap.size ≤ g; omega) _) (vb := .slice (some ⟨g, 0, none⟩) n c5') (by rw [hw6, HSET.out]; exact rb_of (HO5.out.stored i (bv (yb ^^^ x))).1 (by rw [List.map_set]) (by rw [List.length_set]; exact HN.out)) (fun q e => .inr (by have h9 : g = q := (by simpa [Value.ownBlock] using e); omega))
  rw [hw6] at hR
  exact ⟨.slice none 0 0, rfl, reads_none _ _, by first | exact hR | exact ⟨hR.1, hR.2.drew⟩⟩
end Go.Proofs.Ytcicnjlkcbimgaa

/- corncribref07: any call of Do; New. -/
namespace Go.Proofs.Ytcicnjlkcbimgaa
open Go.RowKit Go.Maps
theorem call_none {st : Dk} {s : Nm} (ha : st.armed ≠ 0) (hg : dirGet st.now s = none) : st.fnd s = (6, 0) := fnd_none ha hg
theorem ref07_new (c : Nat) (w : World) : Calls Try.prog 27 #[.int .i64 c] w
    fun e w' => e = .returned (.agg #[.int .i64 c, .slice none 0 0, .slice none 0 0, .slice none 0 0, .slice none 0 0, .int .i64 (-1)]) ∧ Below w.heap.size w w' := by
  go_enter Try.func27, Try.ntmps27
  go_wp2
  refine bodyPost_ret (v := .agg #[.int .i64 c, .slice none 0 0, .slice none 0 0, .slice none 0 0, .slice none 0 0, .int .i64 (-1)]) ?_ rfl ?_
  · simp [results, Try.results27, go_sem]
  · exact ⟨rfl, (by repeat (first | (with_reducible exact Below.refl _ _) | (with_reducible refine Below.setCell ?_ ?_ _) | (with_reducible refine Below.alloc ?_ ?_ _) | (with_reducible refine Below.drewN ?_ _) | (with_reducible refine Below.drew ?_) | (with_reducible exact Nat.le_refl _) | (focus (simp only [World.size_alloc, World.size_setCell, World.size_drew, World.size_drewN]; omega)) | omega | exact Nat.le_refl _ | (focus (simp; done)) | (focus (simp; omega))))⟩
theorem ref_empty {w : World} {m c : Nat} (h : w.heap[m]? = some (.cells #[.int .i64 c, .slice none 0 0, .slice none 0 0, .slice none 0 0, .slice none 0 0, .int .i64 (-1)] 64 (0, 0))) : RefAt w m (fun k => k = m) (Dk.new c) :=
  ⟨.slice none 0 0, .slice none 0 0, .slice none 0 0, .slice none 0 0, [], h, World.ownsRow_nil _ _ _ _, World.ownsRow_nil _ _ _ _, World.ownsRow_nil _ _ _ _, ⟨World.ownsRow_nil _ _ _ _, fun p hp => absurd hp List.not_mem_nil⟩, rfl, rfl, fun k e => by rcases e with e | e | e | e <;> cases e⟩
theorem deeds_rs {st : Dk} (ha : st.armed ≠ 0) (a : DAct) (hk : 0 ≤ a.kind ∧ a.kind ≤ 6) : (st.call a).1 ≠ 0 → (st.call a).2 = st := by
  obtain ⟨k, nm, to, b, n, mm, p⟩ := a
  obtain ⟨h0, h6⟩ := hk
  simp only at h0 h6
  unfold Dk.call
  simp only
  split
  · unfold Dk.create; repeat (first | (intro h; first | rfl | exact absurd rfl h) | split)
  split
  · unfold Dk.append; repeat (first | (intro h; first | rfl | exact absurd rfl h) | split)
  split
  · unfold Dk.sync; repeat (first | (intro h; first | rfl | exact absurd rfl h) | split)
  split
  · unfold Dk.syncNames; repeat (first | (intro h; first | rfl | exact absurd rfl h) | split)
  split
  · unfold Dk.rename; repeat (first | (intro h; first | rfl | exact absurd rfl h) | split)
  split
  · unfold Dk.remove; repeat (first | (intro h; first | rfl | exact absurd rfl h) | split)
  split
  · unfold Dk.cut; repeat (first | (intro h; first | rfl | exact absurd rfl h) | split)
  · omega
theorem call_15 (st : Dk) (a : DAct) (hk : 0 ≤ a.kind ∧ a.kind ≤ 6) : (st.call a).1 ≤ 15 := by
  obtain ⟨k, nm, to, b, n, mm, p⟩ := a
  obtain ⟨h0, h6⟩ := hk
  simp only at h0 h6
  unfold Dk.call
  simp only
  split
  · exact create_le _ _
  split
  · exact append_le _ _ _
  split
  · exact sync_le _ _
  split
  · exact syncNames_le _
  split
  · exact rename_le _ _ _
  split
  · exact remove_le _ _
  split
  · exact cut_le _ _ _
  · omega
set_option maxRecDepth 100000 in
set_option maxHeartbeats 4000000 in
/-- Any call. -/
theorem rdo_any (m N : Nat) (M : Nat → Prop) (st : Dk) (a : DAct) (ab af : Option Addr) (cb cf : Nat) (w : World) (h : RefAt w m M st) (hok : DkOk N st) (hN : N < 4096) (hks : DkS st) (hMl : ∀ k, M k → k < w.heap.size) (ha : Dk.ok a) (hkd : 0 ≤ a.kind ∧ a.kind ≤ 11) (hbl : a.b.length ≤ 300) (hnl : -9223372036854775808 ≤ a.n)
    (hrb : Reads w 1 (.slice ab a.b.length cb) a.b.length (a.b.map bv)) (hrf : ∀ w', Keeps M w w' → Reads w' 2 (.slice af a.p.files.length cf) a.p.files.length (a.p.files.flatMap DPick.row)) :
    Calls Try.prog 28 #[(.pointer (some ⟨m, 0, none⟩)), actV a ab af cb cf] w (RDoOut w m M (st.callB a) (st.callN a) (st.call a).1 (st.call a).2) := by
  have hrs := fun ha => deeds_rs (st := st) ha a
  have h15 := call_15 st a
  have hdd := fun ha h8 => dead_call (st := st) ha a h8
  obtain ⟨k, nm, to, b, n, mm, pn, fs⟩ := a
  obtain ⟨h1, h2, h3, h4, h5, h6, h7, hpk⟩ := ha
  unfold actV
  simp only at *
  by_cases k8 : k = 8
  · subst k8
    exact rdo8 m N M st nm to b ab af cb fs.length cf n mm pn w h hok hN hks.2.2 hMl fs rfl hrf h5 h6 h7 hpk
  by_cases hz : st.armed = 0
  · obtain ⟨e1, e2, e3⟩ := hdd hz k8
    rw [e1, e2, e3]
    exact rdo_dead m N M st nm to b ab af cb fs.length cf n mm pn w h hok hN k k8 hz
  have hrs' := hrs hz
  clear hrs hdd
  by_cases k0 : k = 0
  · subst k0
    refine rdo_0 m N M st nm to b ab af cb fs.length cf n mm pn w h hok hN hz (st.create nm) (hrs' (by omega)) (h15 (by omega)) fun W hb => ?_
    have hW := h.below hb
    cases hn : namedB nm with
    | false => exact rdeed0_arg m N M st nm to b ab af cb fs.length cf n mm pn W hW hok hN hz h1 hn
    | true =>
      cases hg : dirGet st.now nm with
      | some f => exact rdeed0_there m N M st nm to b ab af cb fs.length cf n mm pn W hW hok hN hz h1 hn f hg
      | none =>
        by_cases hl : 64 ≤ st.now.length
        · exact rdeed0_full m N M st nm to b ab af cb fs.length cf n mm pn W hW hok hN hz h1 hn hg hl
        · exact rdeed0_do m N M st nm to b ab af cb fs.length cf n mm pn W hW hok hN hz h1 hn hg hl
  by_cases k1 : k = 1
  · subst k1
    refine rdo_1 m N M st nm to b ab af cb fs.length cf n mm pn w h hok hN hz (st.append nm b) (hrs' (by omega)) (h15 (by omega)) fun W hb => ?_
    have hW := h.below hb
    cases hg : dirGet st.now nm with
    | none => exact rdeed1_none m N M st nm to b ab af cb fs.length cf n mm pn W hW hok hN hz h1 hg
    | some f =>
      by_cases hk : 16777216 < (st.fileAt f).b.length + b.length
      · exact rdeed1_long m N M st nm to b ab af cb fs.length cf n mm pn W hW hok hN hz h1 f hg hbl hk
      by_cases hc : st.cap < st.used + b.length
      · exact rdeed1_full m N M st nm to b ab af cb fs.length cf n mm pn W hW hok hN hz h1 f hg hbl hk hc
      · exact rdeed1_do m N M st nm to b ab af cb fs.length cf n mm pn W hW hok hN hz h1 f hg hbl hk hc (hrb.below hb)
  by_cases k2 : k = 2
  · subst k2
    refine rdo_2 m N M st nm to b ab af cb fs.length cf n mm pn w h hok hN hz (st.sync nm) (hrs' (by omega)) (h15 (by omega)) fun W hb => ?_
    have hW := h.below hb
    cases hg : dirGet st.now nm with
    | none => exact rdeed2_none m N M st nm to b ab af cb fs.length cf n mm pn W hW hok hN hz h1 hg
    | some f => exact rdeed2_do m N M st nm to b ab af cb fs.length cf n mm pn W hW hok hN hz h1 f hg
  by_cases k3 : k = 3
  · subst k3
    exact rdo_3 m N M st nm to b ab af cb fs.length cf n mm pn w h hok hN hz st.syncNames (hrs' (by omega)) (h15 (by omega)) fun W hb => rdeed_3 m N M st nm to b ab af cb fs.length cf n mm pn W (h.below hb) hok hN hz h1
  by_cases k4 : k = 4
  · subst k4
    refine rdo_4 m N M st nm to b ab af cb fs.length cf n mm pn w h hok hN hz (st.rename nm to) (hrs' (by omega)) (h15 (by omega)) fun W hb => ?_
    have hW := h.below hb
    cases hg : dirGet st.now nm with
    | none => exact rdeed4_none m N M st nm to b ab af cb fs.length cf n mm pn W hW hok hN hz h1 hg
    | some f =>
      cases hn : namedB to with
      | false => exact rdeed4_arg m N M st nm to b ab af cb fs.length cf n mm pn W hW hok hN hz h1 f hg h2 hn
      | true => exact rdeed4_do m N M st nm to b ab af cb fs.length cf n mm pn W hW hok hN hz h1 f hg h2 hn
  by_cases k5 : k = 5
  · subst k5
    refine rdo_5 m N M st nm to b ab af cb fs.length cf n mm pn w h hok hN hz (st.remove nm) (hrs' (by omega)) (h15 (by omega)) fun W hb => ?_
    have hW := h.below hb
    cases hg : dirGet st.now nm with
    | none => exact rdeed5_none m N M st nm to b ab af cb fs.length cf n mm pn W hW hok hN hz h1 hg
    | some f => exact rdeed5_do m N M st nm to b ab af cb fs.length cf n mm pn W hW hok hN hz h1 f hg
  by_cases k6 : k = 6
  · subst k6
    refine rdo_6 m N M st nm to b ab af cb fs.length cf n mm pn w h hok hN hz (st.cut nm n) (hrs' (by omega)) (h15 (by omega)) fun W hb => ?_
    have hW := h.below hb
    cases hg : dirGet st.now nm with
    | none => exact rdeed6_none m N M st nm to b ab af cb fs.length cf n mm pn W hW hok hN hz h1 hg
    | some f =>
      by_cases hk : n < 0 ∨ ((st.fileAt f).b.length : Int) < n
      · exact rdeed6_arg m N M st nm to b ab af cb fs.length cf n mm pn W hW hok hN hz h1 f hg hk
      · obtain ⟨j, rfl⟩ : ∃ j : Nat, n = j := ⟨n.toNat, by omega⟩
        exact rdeed6_do m N M st nm to b ab af cb fs.length cf mm mm pn W hW hok hN hz h1 j f hg (by omega)
  by_cases k7 : k = 7
  · subst k7
    by_cases hn : n < 0
    · have e : st.call ⟨7, nm, to, b, n, mm, ⟨pn, fs⟩⟩ = (1, st) := by show st.arm n = _; unfold Dk.arm; rw [if_neg hz, if_pos hn]
      rw [e]
      exact rdo7_no m N M st nm to b ab af cb fs.length cf n mm pn w h hok hN hz hn
    · have e : st.call ⟨7, nm, to, b, n, mm, ⟨pn, fs⟩⟩ = (0, { st with armed := n }) := by show st.arm n = _; unfold Dk.arm; rw [if_neg hz, if_neg hn]
      rw [e]
      exact rdo7_do m N M st nm to b ab af cb fs.length cf n mm pn w h hok hN hz hn
  have hk9 : 9 ≤ k := by omega
  cases hg : dirGet st.now nm with
  | none =>
    have hf : st.fnd nm = (6, 0) := fnd_none hz hg
    have e1 : st.call ⟨k, nm, to, b, n, mm, ⟨pn, fs⟩⟩ = (6, st) := by
      unfold Dk.call
      simp only [k0, k1, k2, k3, k4, k5, k6, k7, k8, if_false]
      unfold Dk.spoil Dk.read Dk.size
      rw [hf]
      simp
    have e2 : st.callB ⟨k, nm, to, b, n, mm, ⟨pn, fs⟩⟩ = [] := by unfold Dk.callB Dk.read; rw [hf]; simp
    have e3 : st.callN ⟨k, nm, to, b, n, mm, ⟨pn, fs⟩⟩ = 0 := by unfold Dk.callN Dk.size; rw [hf]; simp
    rw [e1, e2, e3]
    exact rdo9_none m N M st nm to b ab af cb fs.length cf n mm pn w h hok hN k hk9 hz hg
  | some f =>
    have hf : st.fnd nm = (0, f) := fnd_some hz hg
    by_cases k9 : k = 9
    · subst k9
      by_cases hk : n < 0 ∨ ((st.fileAt f).b.length : Int) ≤ n
      · have e : st.call ⟨9, nm, to, b, n, mm, ⟨pn, fs⟩⟩ = (1, st) := by show st.spoil nm n (byteOf mm) = _; unfold Dk.spoil; rw [hf, if_neg (by simp), if_pos hk]
        rw [e]
        exact rdo9_arg m N M st nm to b ab af cb fs.length cf n mm pn w h hok hN hz f hg hk
      · obtain ⟨j, rfl⟩ : ∃ j : Nat, n = j := ⟨n.toNat, by omega⟩
        have e : st.call ⟨9, nm, to, b, j, mm, ⟨pn, fs⟩⟩ = (0, st.setF f ⟨xorAt (st.fileAt f).b j (byteOf mm), (st.fileAt f).lasts⟩) := by show st.spoil nm j (byteOf mm) = _; unfold Dk.spoil; rw [hf, if_neg (by simp), if_neg hk]; rfl
        rw [e]
        exact rdo9_do m N M st nm to b ab af cb fs.length cf (j : Int) mm pn w h hok hN hz f j rfl hg (by omega) (byteOf mm) rfl
    by_cases k10 : k = 10
    · subst k10
      by_cases hk1 : n < 0 ∨ mm < 0
      · have e : st.read nm n mm = (1, []) := by unfold Dk.read; rw [hf, if_neg (by simp), if_pos hk1]
        have e1 : st.call ⟨10, nm, to, b, n, mm, ⟨pn, fs⟩⟩ = (1, st) := by show ((st.read nm n mm).1, st) = _; rw [e]
        have e2 : st.callB ⟨10, nm, to, b, n, mm, ⟨pn, fs⟩⟩ = [] := by show (st.read nm n mm).2 = _; rw [e]
        rw [e1, e2]
        exact rdo10_arg m N M st nm to b ab af cb fs.length cf n mm pn w h hok hN hz f hg hk1
      by_cases hk2 : ((st.fileAt f).b.length : Int) < n + mm
      · have e : st.read nm n mm = (3, []) := by unfold Dk.read; rw [hf, if_neg (by simp), if_neg hk1, if_pos hk2]
        have e1 : st.call ⟨10, nm, to, b, n, mm, ⟨pn, fs⟩⟩ = (3, st) := by show ((st.read nm n mm).1, st) = _; rw [e]
        have e2 : st.callB ⟨10, nm, to, b, n, mm, ⟨pn, fs⟩⟩ = [] := by show (st.read nm n mm).2 = _; rw [e]
        rw [e1, e2]
        exact rdo10_short m N M st nm to b ab af cb fs.length cf n mm pn w h hok hN hz f hg (by omega) (by omega) h4 hk2
      · have e : st.read nm n mm = (0, ((st.fileAt f).b.drop n.toNat).take mm.toNat) := by unfold Dk.read; rw [hf, if_neg (by simp), if_neg hk1, if_neg hk2]
        have e1 : st.call ⟨10, nm, to, b, n, mm, ⟨pn, fs⟩⟩ = (0, st) := by show ((st.read nm n mm).1, st) = _; rw [e]
        have e2 : st.callB ⟨10, nm, to, b, n, mm, ⟨pn, fs⟩⟩ = ((st.fileAt f).b.drop n.toNat).take mm.toNat := by show (st.read nm n mm).2 = _; rw [e]
        rw [e1, e2]
        exact rdo10_do m N M st nm to b ab af cb fs.length cf n mm pn w h hok hN hz f n.toNat mm.toNat (by omega) (by omega) hg (by omega)
    have k11 : k = 11 := by omega
    subst k11
    have e : st.size nm = (0, (st.fileAt f).b.length) := by unfold Dk.size; rw [hf, if_neg (by simp)]
    have e1 : st.call ⟨11, nm, to, b, n, mm, ⟨pn, fs⟩⟩ = (0, st) := by show ((st.size nm).1, st) = _; rw [e]
    have e3 : st.callN ⟨11, nm, to, b, n, mm, ⟨pn, fs⟩⟩ = (st.fileAt f).b.length := by show (st.size nm).2 = _; rw [e]
    rw [e1, e3]
    exact rdo11 m N M st nm to b ab af cb fs.length cf n mm pn w h hok hN 11 (by omega) hz f hg
end Go.Proofs.Ytcicnjlkcbimgaa

/- Arguments of chapter 07's statements: acts. -/
namespace Go.Proofs.Ytcicnjlkcbimgaa
open Go.RowKit Go.ChangeShapes Go.WideShapes Go.Deep
/-- An act as it came in: where its rows lie. -/
structure AArg where
  a : DAct
  ab : Option Addr
  cb : Nat
  af : Option Addr
  cf : Nat
def AArg.row (x : AArg) : List Value := [.int .i64 x.a.kind, .string ⟨x.a.name.toArray⟩, .string ⟨x.a.to.toArray⟩, .slice x.ab x.a.b.length x.cb, .int .i64 x.a.n, .int .i64 x.a.m, .int .i64 x.a.p.names, .slice x.af x.a.p.files.length x.cf]
theorem AArg.row_len (x : AArg) : x.row.length = 8 := rfl
structure AOk (w : World) (x : AArg) : Prop where
  name : x.a.name.length ≤ maxLen
  to : x.a.to.length ≤ maxLen
  n : -9223372036854775808 ≤ x.a.n ∧ x.a.n ≤ 9223372036854775807
  m : -9223372036854775808 ≤ x.a.m ∧ x.a.m ≤ 9223372036854775807
  pn : -9223372036854775808 ≤ x.a.p.names ∧ x.a.p.names ≤ 9223372036854775807
  pf : ∀ c ∈ x.a.p.files, PickOk c
  rb : Reads w 1 (.slice x.ab x.a.b.length x.cb) x.a.b.length (x.a.b.map bv)
  rf : Reads w 2 (.slice x.af x.a.p.files.length x.cf) x.a.p.files.length (x.a.p.files.flatMap DPick.row)
theorem AOk.below {w w' : World} {x : AArg} (h : AOk w x) (hb : Below w.heap.size w w') : AOk w' x := ⟨h.name, h.to, h.n, h.m, h.pn, h.pf, h.rb.below hb, h.rf.below hb⟩
section
variable {H : Type} {enc : TypeId × Value → H} {w : World} {base : Nat} {spare : Nat → Bool} {held : Bool}
theorem open_str {t : TypeId} (ht : Try.prog.underlying t = some .string) {fuel : Nat} {cs : List Value} {x : DataW H × List MemPlace} (h : DataW.trod enc Try.prog w base spare held fuel t cs = some x) : ∃ s : List UInt8, cs = [.string ⟨s.toArray⟩] ∧ s.length ≤ maxLen := by
  obtain ⟨s, h1, _, h2⟩ := DataW.trod_string ht h
  exact ⟨s.data.toList, by rw [h1], h2⟩
set_option maxRecDepth 100000 in
theorem act7_of {fuel : Nat} {cs : List Value} {x : DataW H × List MemPlace} (h : DataW.trod enc Try.prog w base spare held fuel 53 cs = some x) : ∃ c : AArg, cs = c.row ∧ AOk w c := by
  obtain ⟨xs, n, _, _, hlen, hxl, hf⟩ := DataW.trod_struct Try.underlying53 h
  have hC : Try.prog.cellsOf 53 = 8 := by kernel_rfl
  have hI : Try.prog.cellsOf 3 = 1 := by kernel_rfl
  have hS : Try.prog.cellsOf 9 = 1 := by kernel_rfl
  have hB : Try.prog.cellsOf 22 = 1 := by kernel_rfl
  have hP : Try.prog.cellsOf 25 = 2 := by kernel_rfl
  rw [hC] at hlen
  match cs, hlen with
  | [c0, c1, c2, c3, c4, c5, c6, c7], _ =>
    have e0 := hf 0 _ rfl
    have e1 := hf 1 _ rfl
    have e2 := hf 2 _ rfl
    have e3 := hf 3 _ rfl
    have e4 := hf 4 _ rfl
    have e5 := hf 5 _ rfl
    have e6 := hf 6 _ rfl
    simp [hI, hS, hB, hP] at e0 e1 e2 e3 e4 e5 e6
    match xs, hxl with
    | [x0, x1, x2, x3, x4, x5, x6], _ =>
      simp at e0 e1 e2 e3 e4 e5 e6
      obtain ⟨kind, h0, _⟩ := open_int Try.underlying3 e0
      obtain ⟨nm, h1, hn1⟩ := open_str Try.underlying9 e1
      obtain ⟨to, h2, hn2⟩ := open_str Try.underlying9 e2
      obtain ⟨ab, lb, cb, b, h3, h3l, h3r, _⟩ := open_bytes e3
      obtain ⟨nn, h4, hw4⟩ := open_int Try.underlying3 e4
      obtain ⟨mm, h5, hw5⟩ := open_int Try.underlying3 e5
      obtain ⟨p, af, cf, h6, h6r, h6o, h6a, h6b⟩ := picks_of e6
      simp at h0 h1 h2 h3 h4 h5 h6
      obtain ⟨h6, h7⟩ := h6
      subst h0 h1 h2 h3 h4 h5 h6 h7 h3l
      exact ⟨⟨⟨kind, nm, to, b, nn, mm, p⟩, ab, cb, af, cf⟩, rfl, ⟨hn1, hn2, wf_of_i64 hw4, wf_of_i64 hw5, ⟨h6a, h6b⟩, h6o, h3r, h6r⟩⟩
/-- The argument itself. -/
theorem arg_acts7 {a : Option Addr} {len cap : Nat} {d : DataW H} {p : List MemPlace} (h : DataW.Trod enc Try.prog w base spare held 50 (.slice a len cap) d p) :
    ∃ l : List AArg, l.length = len ∧ Reads w 8 (.slice a len cap) len (l.flatMap AArg.row) ∧ ∀ x ∈ l, AOk w x := by
  obtain ⟨fuel, hf⟩ := h
  obtain ⟨a', len', cap', l, h1, h2, h3, h4, _⟩ := open_row (α := AArg) Try.underlying50 (by kernel_rfl : Try.prog.cellsOf 53 = 8) (by omega) AArg.row AArg.row_len (AOk w) (fun _ _ _ h => act7_of h) hf
  simp [Value.cells] at h1
  obtain ⟨rfl, rfl, rfl⟩ := h1
  exact ⟨l, h2, h3, h4⟩
end
/-- The cells of one act. -/
theorem act_cells {w : World} {v : Value} {n : Nat} {l : List AArg} (h : Reads w 8 v n (l.flatMap AArg.row)) {k : Nat} {x : AArg} (hx : l[k]? = some x) (hn : 0 < n) :
    ∃ b o c, v = .slice (some ⟨b, o, none⟩) n c ∧ b < w.heap.size ∧ w.cell? ⟨b, o + k * 8, none⟩ = some (.int .i64 x.a.kind) ∧ w.cell? ⟨b, o + k * 8 + 1, none⟩ = some (.string ⟨x.a.name.toArray⟩) ∧ w.cell? ⟨b, o + k * 8 + 2, none⟩ = some (.string ⟨x.a.to.toArray⟩) ∧
      w.cell? ⟨b, o + k * 8 + 3, none⟩ = some (.slice x.ab x.a.b.length x.cb) ∧ w.cell? ⟨b, o + k * 8 + 4, none⟩ = some (.int .i64 x.a.n) ∧ w.cell? ⟨b, o + k * 8 + 5, none⟩ = some (.int .i64 x.a.m) ∧ w.cell? ⟨b, o + k * 8 + 6, none⟩ = some (.int .i64 x.a.p.names) ∧ w.cell? ⟨b, o + k * 8 + 7, none⟩ = some (.slice x.af x.a.p.files.length x.cf) := by
  obtain ⟨b, o, c, e, h1, _, h2⟩ := reads_at h hn (by omega)
  have key : ∀ j u, j < 8 → (x.row)[j]? = some u → w.cell? ⟨b, o + (k * 8 + j), none⟩ = some u := fun j u hj hu => h2 (k * 8 + j) u (by rw [getElem?_flatMap_row AArg.row 8 AArg.row_len l k j hj, hx]; exact hu)
  exact ⟨b, o, c, e, h1, key 0 _ (by omega) rfl, key 1 _ (by omega) rfl, key 2 _ (by omega) rfl, key 3 _ (by omega) rfl, key 4 _ (by omega) rfl, key 5 _ (by omega) rfl, key 6 _ (by omega) rfl, key 7 _ (by omega) rfl⟩
/-- Is it more than is looked at? -/
def badAct (x : AArg) : Bool := decide (300 < x.a.b.length) || (decide (60 < x.a.name.length) || (decide (60 < x.a.to.length) || (decide (100 < x.a.p.files.length) || (decide (x.a.kind < 0) || decide (11 < x.a.kind)))))
def farB (l : List AArg) : Bool := decide (60 < l.length) || l.any badAct
end Go.Proofs.Ytcicnjlkcbimgaa

/- corncriblaw07.Far. -/
namespace Go.Proofs.Ytcicnjlkcbimgaa
open Go.RowKit
theorem any_take {α : Type} {p : α → Bool} {l : List α} {k : Nat} {x : α} (hx : l[k]? = some x) (h : p x = false) (hk : (l.take k).any p = false) : (l.take (k + 1)).any p = false := by
  rw [take_snoc_at l k x hx, List.any_append, hk]
  simp [h]
set_option maxRecDepth 100000 in
set_option maxHeartbeats 4000000 in
theorem far_any (a : Option Addr) (n c : Nat) (l : List AArg) (w : World) (hl : l.length = n) (hr : Reads w 8 (.slice a n c) n (l.flatMap AArg.row)) :
    Calls Try.prog 23 #[.slice a n c] w fun e w' => e = .returned (.bool (farB l)) ∧ w = w' := by
  by_cases h60 : 60 < n
  · have hf : farB l = true := by unfold farB; rw [decide_eq_true (by omega)]; rfl
    have h1 : (60 : Int) < (n : Int) := by omega
    rw [hf]
    clear hr hf
    go_enter Try.func23, Try.ntmps23
    go_wp2_with fail
    go_ret
    exact ⟨rfl, rfl⟩
  · have h1 : decide ((60 : Int) < (n : Int)) = false := by simp; omega
    have HL := Lib.hid hl
    have HR := Lib.hid hr
    have HF := Lib.hid (show farB l = l.any badAct by unfold farB; rw [decide_eq_false (by omega)]; rfl)
    clear hl hr
    go_enter Try.func23, Try.ntmps23
    go_wp2_with fail
    go_loopw [3] (fun i wr => ∃ k : Nat, k ≤ n ∧ i = .int .i64 k ∧ (l.take k).any badAct = false ∧ w = wr) (fun i _ => n - (intOf i).toNat)
    case atStart => exact ⟨0, Nat.zero_le _, rfl, by simp, rfl⟩
    case round =>
      obtain ⟨k, hk, rfl, hb, rfl⟩ := hrel
      have HB := Lib.hid hb
      clear hb
      by_cases hlt : k < n
      · obtain ⟨x, hx⟩ : ∃ x, l[k]? = some x := ⟨_, List.getElem?_eq_getElem (by rw [HL.out]; exact hlt)⟩
        obtain ⟨b, o, cc, e, hbl, x0, x1, x2, x3, x4, x5, x6, x7⟩ := act_cells HR.out hx (by omega)
        obtain ⟨rfl, -, rfl⟩ := sl_inj e
        have HX := Lib.hid hx
        have hbad : badAct x = true → l.any badAct = true := fun h => List.any_eq_true.2 ⟨x, List.mem_of_getElem? hx, h⟩
        have HBAD := Lib.hid hbad
        have hk0 : (0 : Int) ≤ (k : Int) := by omega
        have hk1 : (k : Int) < (n : Int) := by omega
        clear hx e hbad x4 x5 x6
        obtain ⟨⟨kd, nm, to, bs, nn, mm, ⟨pn, fs⟩⟩, ab, cb, af, cf⟩ := x
        simp only at x0 x1 x2 x3 x7
        by_cases t1 : 300 < bs.length
        · have g1 : (300 : Int) < (bs.length : Int) := by omega
          go_wp2_with fail
          go_ret
          exact ⟨by rw [HF.out, HBAD.out (by simp [badAct, t1])]; rfl, rfl⟩
        have g1 : decide ((300 : Int) < (bs.length : Int)) = false := by simp; omega
        by_cases t2 : 60 < nm.length
        · have g2 : (60 : Int) < (nm.length : Int) := by omega
          go_wp2_with fail
          go_ret
          exact ⟨by rw [HF.out, HBAD.out (by simp [badAct, t2])]; rfl, rfl⟩
        have g2 : decide ((60 : Int) < (nm.length : Int)) = false := by simp; omega
        by_cases t3 : 60 < to.length
        · have g3 : (60 : Int) < (to.length : Int) := by omega
          go_wp2_with fail
          go_ret
          exact ⟨by rw [HF.out, HBAD.out (by simp [badAct, t3])]; rfl, rfl⟩
        have g3 : decide ((60 : Int) < (to.length : Int)) = false := by simp; omega
        by_cases t4 : 100 < fs.length
        · have g4 : (100 : Int) < (fs.length : Int) := by omega
          go_wp2_with fail
          go_ret
          exact ⟨by rw [HF.out, HBAD.out (by simp [badAct, t4])]; rfl, rfl⟩
        have g4 : decide ((100 : Int) < (fs.length : Int)) = false := by simp; omega
        by_cases t5 : kd < 0
        · go_wp2_with fail
          go_ret
          exact ⟨by rw [HF.out, HBAD.out (by simp [badAct, t5])]; rfl, rfl⟩
        have g5 : decide (kd < 0) = false := by simp; omega
        by_cases t6 : 11 < kd
        · go_wp2_with fail
          go_ret
          exact ⟨by rw [HF.out, HBAD.out (by simp [badAct, t6])]; rfl, rfl⟩
        have g6 : decide (11 < kd) = false := by simp; omega
        have HGO := Lib.hid (any_take HX.out (show badAct ⟨⟨kd, nm, to, bs, nn, mm, ⟨pn, fs⟩⟩, ab, cb, af, cf⟩ = false by simp [badAct]; omega) HB.out)
        go_wp2_with fail
        go_roundw
        case rel => exact ⟨k + 1, by omega, by go_num, HGO.out, trivial⟩
        case measure => simp [intOf]; omega
      · have hkn : l.take k = l := List.take_of_length_le (by rw [HL.out]; omega)
        rw [hkn] at HB
        clear hkn
        go_wp2_with fail
        go_ret
        exact ⟨by rw [HF.out, HB.out]; rfl, rfl⟩
end Go.Proofs.Ytcicnjlkcbimgaa

/- corncriblaw07.same. -/
namespace Go.Proofs.Ytcicnjlkcbimgaa
open Go.RowKit Go.Maps
theorem DS.widen {w w' : World} {d K : Nat} {P : Nat → Prop} {st : Dk} (h : DS w d P K st) (hk : Keeps P w w') : DS w' d (fun k => P k ∨ (w.heap.size ≤ k ∧ k < w'.heap.size)) K st := by
  obtain ⟨F, q, h1, h2, h3⟩ := h
  exact ⟨F, q, h1.keeps hk (fun k hf => (h3 k hf).1), h2, fun k hf => ⟨fun e => e.elim (h3 k hf).1 fun e => by have := (h3 k hf).2; omega, Nat.lt_of_lt_of_le (h3 k hf).2 hk.size⟩⟩
theorem names_map {l : Dir} (h : Srt l) : namesOf l = l.map (·.1) := names_srt h
set_option maxRecDepth 100000 in
set_option maxHeartbeats 4000000 in
theorem same07_any {d K m N : Nat} {P M : Nat → Prop} {st : Dk} {w : World} (h : DS w d P K st) (hm : RefAt w m M st) (hok : DkOk N st) (hs : Srt st.now) :
    Calls Try.prog 29 #[(.pointer (some ⟨d, 0, none⟩)), (.pointer (some ⟨m, 0, none⟩))] w fun e w' => e = .returned (.bool true) ∧ Below w.heap.size w w' := by
  have H := Lib.hid h
  have HR := Lib.hid hm
  have HOK := Lib.hid hok
  have HNM := Lib.hid (names_map hs)
  obtain ⟨vn, vl, vd, vf, fs, hblk, hen, hel, hde, hfi, hfs, hM, hMr⟩ := hm
  obtain ⟨na, nc, rfl⟩ := ownsRow_len hen
  have HEN := Lib.hid hen
  have HBLK := Lib.hid hblk
  have hml := blk_lt hblk
  have hlen := hok.lnow
  obtain ⟨bb, hbb⟩ : ∃ bb : Bool, bb = (st.armed == 0) := ⟨_, rfl⟩
  have HBB := Lib.hid hbb
  have hbe : (st.armed == 0) = bb := hbb.symm
  have hbd : decide (st.armed = 0) = bb := by rw [← hbe]; by_cases e : st.armed = 0 <;> simp [e]
  clear h hok hs hblk hen hel hde hfi hfs hM hMr hbb
  go_enter Try.func29, Try.ntmps29
  go_wp2_with fail
  refine (names_ds H.out).mono ?_
  rintro e w1 ⟨v1, rfl, ho1, hb1⟩
  obtain ⟨a1, c1, rfl⟩ := ownsRow_len ho1
  rw [HNM.out] at ho1
  have HO1 := Lib.hid ho1
  have HB1 := Lib.hid hb1
  have H1 := Lib.hid (H.out.below hb1)
  have HR1 := Lib.hid (HR.out.below hb1)
  have hbm1 := blk_below HBLK.out hb1
  have hz1 := hb1.size
  clear ho1 hb1
  go_upto_region 2 with fail
  obtain ⟨SS, HSD⟩ : ∃ SS : World → Prop, Hid (SS = fun w' => w'.heap[m]? = some (.cells #[.int .i64 st.cap, .slice na st.now.length nc, vl, vd, vf, .int .i64 st.armed] 64 (0, 0))) := ⟨_, Lib.hid rfl⟩
  refine wp_region_mask0 SS [5, 21] [0, 1, 0, 4, 12, 28, 60, 127, 255, 511, 1023, 511, 4095, 8191, 16383, 32767, 65535, 131071, 65535, 327679, 851967, 1900543, 3997695, 8388607, 16777215] (.op 0 0 (.op 1 0 (.op 2 0 (.op 3 0 (.op 4 0 (.op 5 2 (.op 6 0 (.op 7 0 (.op 8 0 (.op 9 0 (.op 11 0 (.op 10 1 (.op 12 1 (.op 13 0 (.op 14 0 (.op 15 0 (.op 16 0 (.op 18 0 (.op 19 0 (.op 20 0 (.op 21 2 (.op 22 0 (.op 17 1 (.op 23 0 (.op 24 0 .nil))))))))))))))))))))))))) (by kernel_rfl) (by kernel_rfl) rfl (by kernel_rfl) (by kernel_rfl) ?_ ?_
  focus (rw [HSD.out]; exact hbm1)
  refine stepM0 rfl rfl (fun K hK => ?_)
  go_simp
  refine hK _ ?_
  clear hK K
  refine stepM0 rfl rfl (fun K hK => ?_)
  go_simp
  refine hK _ ?_
  clear hK K
  refine stepM0 rfl rfl (fun K hK => ?_)
  go_simp
  refine hK _ ?_
  clear hK K
  refine stepM0 rfl rfl (fun K hK => ?_)
  go_simp
  refine hK _ ?_
  clear hK K
  refine stepM0 rfl rfl (fun K hK => ?_)
  go_simp
  refine hK _ ?_
  clear hK K
  refine stepM2 rfl rfl ?_ (fun w1 hS => ?_) (fun K hK => ?_)
  rotate_left
  focus (rw [HSD.out] at hS; obtain ⟨s0, s1, s2, s3, s4, s5, _⟩ := cells6 hS; go_simp; rfl)
  go_simp
  refine hK _ ?_
  clear hK K
  refine stepM0 rfl rfl (fun K hK => ?_)
  go_simp
  refine hK _ ?_
  clear hK K
  refine stepM0 rfl rfl (fun K hK => ?_)
  go_simp
  refine hK _ ?_
  clear hK K
  refine stepM0 rfl rfl (fun K hK => ?_)
  go_simp
  refine hK _ ?_
  clear hK K
  refine stepM0 rfl rfl (fun K hK => ?_)
  go_simp
  refine hK _ ?_
  clear hK K
  refine stepM0 rfl rfl (fun K hK => ?_)
  go_simp
  refine hK _ ?_
  clear hK K
  refine stepM1S rfl rfl (fun K hK => ?_)
  (go_wp2_with fail; refine Calls.mono (used_ds (H1.out.below (by repeat (first | (with_reducible exact Below.refl _ _) | (with_reducible refine Below.setCell ?_ ?_ _) | (with_reducible refine Below.alloc ?_ ?_ _) | (with_reducible refine Below.drewN ?_ _) | (with_reducible refine Below.drew ?_) | (with_reducible exact Nat.le_refl _) | (focus (simp only [World.size_alloc, World.size_setCell, World.size_drew, World.size_drewN]; omega)) | omega | exact Nat.le_refl _ | (focus (simp; done)) | (focus (simp; omega)))))) ?_; rintro e w2 ⟨rfl, hb2⟩; have hb2' := (show Below w1.heap.size w1 w2 from Below.trans (by repeat (first | (with_reducible exact Below.refl _ _) | (with_reducible refine Below.setCell ?_ ?_ _) | (with_reducible refine Below.alloc ?_ ?_ _) | (with_reducible refine Below.drewN ?_ _) | (with_reducible refine Below.drew ?_) | (with_reducible exact Nat.le_refl _) | (focus (simp only [World.size_alloc, World.size_setCell, World.size_drew, World.size_drewN]; omega)) | omega | exact Nat.le_refl _ | (focus (simp; done)) | (focus (simp; omega)))) (hb2.mono (by simp))); have HB2 := Lib.hid hb2'; have hbm2 := blk_below hbm1 hb2'; have hz2 := hb2'.size; clear hb2 hb2'; go_wp2)
  refine ⟨by rw [HSD.out]; exact (hbm2), ?_⟩
  refine stepM1S rfl rfl (fun K hK => ?_)
  (go_wp2_with fail; refine Calls.mono (rused_any m N M st _ ((HR1.out.below HB2.out).below (by repeat (first | (with_reducible exact Below.refl _ _) | (with_reducible refine Below.setCell ?_ ?_ _) | (with_reducible refine Below.alloc ?_ ?_ _) | (with_reducible refine Below.drewN ?_ _) | (with_reducible refine Below.drew ?_) | (with_reducible exact Nat.le_refl _) | (focus (simp only [World.size_alloc, World.size_setCell, World.size_drew, World.size_drewN]; omega)) | omega | exact Nat.le_refl _ | (focus (simp; done)) | (focus (simp; omega))))) HOK.out) ?_; rintro e w3 ⟨rfl, hb3⟩; have hb3' := (show Below w2.heap.size w2 w3 from Below.trans (by repeat (first | (with_reducible exact Below.refl _ _) | (with_reducible refine Below.setCell ?_ ?_ _) | (with_reducible refine Below.alloc ?_ ?_ _) | (with_reducible refine Below.drewN ?_ _) | (with_reducible refine Below.drew ?_) | (with_reducible exact Nat.le_refl _) | (focus (simp only [World.size_alloc, World.size_setCell, World.size_drew, World.size_drewN]; omega)) | omega | exact Nat.le_refl _ | (focus (simp; done)) | (focus (simp; omega)))) (hb3.mono (by simp))); have HB3 := Lib.hid (HB2.out.trans (hb3'.mono hz2)); have hbm3 := blk_below hbm2 hb3'; have hz3 := hb3'.size; clear hb3 hb3'; go_wp2)
  refine ⟨by rw [HSD.out]; exact (hbm3), ?_⟩
  refine stepM0 rfl rfl (fun K hK => ?_)
  go_simp
  refine hK _ ?_
  clear hK K
  refine stepM0 rfl rfl (fun K hK => ?_)
  go_simp
  refine hK _ ?_
  clear hK K
  refine stepM0 rfl rfl (fun K hK => ?_)
  go_simp
  refine hK _ ?_
  clear hK K
  refine stepM0 rfl rfl (fun K hK => ?_)
  go_simp
  refine hK _ ?_
  clear hK K
  refine stepM0 rfl rfl (fun K hK => ?_)
  go_simp
  refine hK _ ?_
  clear hK K
  refine stepM0 rfl rfl (fun K hK => ?_)
  go_simp
  refine hK _ ?_
  clear hK K
  refine stepM0 rfl rfl (fun K hK => ?_)
  go_simp
  refine hK _ ?_
  clear hK K
  refine stepM2 rfl rfl ?_ (fun w1 hS => ?_) (fun K hK => ?_)
  rotate_left
  focus (rw [HSD.out] at hS; obtain ⟨s0, s1, s2, s3, s4, s5, _⟩ := cells6 hS; go_simp; rfl)
  go_simp
  refine hK _ ?_
  clear hK K
  refine stepM0 rfl rfl (fun K hK => ?_)
  go_simp
  refine hK _ ?_
  clear hK K
  refine stepM1S rfl rfl (fun K hK => ?_)
  (go_wp2_with fail; refine Calls.mono (down_ds ((H1.out.below HB3.out).below (by repeat (first | (with_reducible exact Below.refl _ _) | (with_reducible refine Below.setCell ?_ ?_ _) | (with_reducible refine Below.alloc ?_ ?_ _) | (with_reducible refine Below.drewN ?_ _) | (with_reducible refine Below.drew ?_) | (with_reducible exact Nat.le_refl _) | (focus (simp only [World.size_alloc, World.size_setCell, World.size_drew, World.size_drewN]; omega)) | omega | exact Nat.le_refl _ | (focus (simp; done)) | (focus (simp; omega)))))) ?_; rintro e w4 ⟨rfl, rfl⟩; go_wp2)
  refine ⟨by rw [HSD.out]; exact (hbm3), ?_⟩
  refine stepM0 rfl rfl (fun K hK => ?_)
  go_simp
  refine hK _ ?_
  clear hK K
  refine stepM0 rfl rfl (fun K hK => ?_)
  go_simp
  refine hK _ ?_
  clear hK K
  try refine stepMnil0 ?_
  clear HSD SS
  have HB03 := Lib.hid (HB1.out.trans (HB3.out.mono hz1))
  clear hbm1 hbm2 hbm3
  go_wp2_with fail
  go_loopw [6] (fun i wr => ∃ j : Nat, j ≤ st.now.length ∧ i = .int .i64 j ∧ Below w3.heap.size w3 wr) (fun i _ => st.now.length - (intOf i).toNat)
  case atStart => exact ⟨0, Nat.zero_le _, rfl, by first | exact Below.refl _ _ | exact (Below.refl _ _).drew⟩
  case round =>
    obtain ⟨j, hj, rfl, hbr⟩ := hrel
    have HBR := Lib.hid (HB03.out.trans (hbr.mono (by have := HB03.out.size; omega)))
    have HBR1 := Lib.hid (HB3.out.trans (hbr.mono (by have := HB3.out.size; omega)))
    have HBRR := Lib.hid hbr
    clear hbr
    by_cases hlt : j < st.now.length
    · obtain ⟨x, hx⟩ : ∃ x, st.now[j]? = some x := ⟨_, List.getElem?_eq_getElem hlt⟩
      obtain ⟨g, c, e, _, hgl, x0, x1⟩ := ents_cell (ownsRow_below HEN.out HBR.out) hx
      obtain ⟨rfl, -, rfl⟩ := sl_inj e
      obtain ⟨g1, rfl⟩ : ∃ g, a1 = some ⟨g, 0, none⟩ := by
        rcases HO1.out.2 with ⟨e, h0⟩ | ⟨g, _, _, e, _⟩
        · omega
        · simp only [Value.slice.injEq] at e
          exact ⟨g, e.1⟩
      have hc1 : wr.cell? ⟨g1, j, none⟩ = some (.string ⟨x.1.toArray⟩) := by
        rw [(ownsRow_below HO1.out HBR1.out).cellAt j (by omega), List.getElem?_map, List.getElem?_map, hx]
        rfl
      have hg1 := ((ownsRow_below HO1.out HBR1.out).lt g1 rfl).2
      have hbmr := blk_below HBLK.out HBR.out
      obtain ⟨m0, m1, m2, m3, m4, m5, _⟩ := cells6 hbmr
      have hmlr := blk_lt hbmr
      have hj0 : (0 : Int) ≤ (j : Int) := by omega
      have hj1 : (j : Int) < (st.now.length : Int) := by omega
      obtain ⟨s, f⟩ := x
      simp only at x0 x1 hc1
      clear hx e hbmr
      go_wp2_with fail
      refine wp_region_now0 [3, 7, 11] [(0, 0), (1, 0), (2, 0), (3, 2), (4, 0), (5, 0), (6, 0), (7, 2), (8, 0), (9, 0), (10, 0), (11, 2), (12, 0)] (by kernel_rfl) (by kernel_rfl) rfl (by kernel_rfl) ?_
      refine stepE0 rfl rfl (fun K hK => ?_)
      go_simp
      refine hK _ ?_
      clear hK K
      refine stepE0 rfl rfl (fun K hK => ?_)
      go_simp
      refine hK _ ?_
      clear hK K
      refine stepE0 rfl rfl (fun K hK => ?_)
      go_simp
      refine hK _ ?_
      clear hK K
      refine stepE2 rfl rfl ?_ (fun w1 hS => ?_) (fun K hK => ?_)
      rotate_left
      focus (obtain rfl : w1 = _ := hS; go_simp; rfl)
      go_simp
      refine hK _ ?_
      clear hK K
      refine stepE0 rfl rfl (fun K hK => ?_)
      go_simp
      refine hK _ ?_
      clear hK K
      refine stepE0 rfl rfl (fun K hK => ?_)
      go_simp
      refine hK _ ?_
      clear hK K
      refine stepE0 rfl rfl (fun K hK => ?_)
      go_simp
      refine hK _ ?_
      clear hK K
      refine stepE2 rfl rfl ?_ (fun w1 hS => ?_) (fun K hK => ?_)
      rotate_left
      focus (obtain rfl : w1 = _ := hS; go_simp; rfl)
      go_simp
      refine hK _ ?_
      clear hK K
      refine stepE0 rfl rfl (fun K hK => ?_)
      go_simp
      refine hK _ ?_
      clear hK K
      refine stepE0 rfl rfl (fun K hK => ?_)
      go_simp
      refine hK _ ?_
      clear hK K
      refine stepE0 rfl rfl (fun K hK => ?_)
      go_simp
      refine hK _ ?_
      clear hK K
      refine stepE2 rfl rfl ?_ (fun w1 hS => ?_) (fun K hK => ?_)
      rotate_left
      focus (obtain rfl : w1 = _ := hS; go_simp; rfl)
      go_simp
      refine hK _ ?_
      clear hK K
      refine stepE0 rfl rfl (fun K hK => ?_)
      go_simp
      refine hK _ ?_
      clear hK K
      try refine stepEnil0 ?_
      go_wp2_with fail
      go_roundw
      case rel => exact ⟨j + 1, by omega, by go_num, by first | exact HBRR.out | exact HBRR.out.drew⟩
      case measure => simp [intOf]; omega
    · have hjn : decide ((j : Int) < (st.now.length : Int)) = false := by simp; omega
      go_wp2_with fail
      go_ret
      exact ⟨rfl, HBR.out⟩
end Go.Proofs.Ytcicnjlkcbimgaa

/- DiskPlays: the walk. -/
namespace Go.Proofs.Ytcicnjlkcbimgaa
open Go.RowKit Go.Maps
theorem far_no7 {l : List AArg} (h : farB l = false) : l.length ≤ 60 ∧ ∀ x ∈ l, badAct x = false := by
  unfold farB at h
  simp only [Bool.or_eq_false_iff, decide_eq_false_iff_not, List.any_eq_false] at h
  exact ⟨by omega, fun x hx => by have := h.2 x hx; simpa using this⟩
theorem act_ok7 {w : World} {x : AArg} (h : AOk w x) (hb : badAct x = false) : Dk.ok x.a ∧ x.a.b.length ≤ 300 ∧ (0 ≤ x.a.kind ∧ x.a.kind ≤ 11) ∧ -9223372036854775808 ≤ x.a.n := by
  unfold badAct at hb
  simp at hb
  exact ⟨⟨h.name, h.to, h.n.2, h.m.2, by omega, h.pn.1, h.pn.2, h.pf⟩, by omega, by omega, h.n.1⟩
theorem srt_get {l : Dir} (h : Srt l) {s : Nm} {f : Nat} (hx : (s, f) ∈ l) : dirGet l s = some f := by
  refine get_of_mem (h.imp fun {a b} e e2 => ?_) hx
  rw [e2, Go.WideAt.bytes_irrefl] at e
  cases e
theorem read_all {st : Dk} (ha : st.armed ≠ 0) {s : Nm} {f : Nat} (hg : dirGet st.now s = some f) : st.read s 0 (st.fileAt f).b.length = (0, (st.fileAt f).b) := by
  unfold Dk.read
  rw [fnd_some ha hg]
  simp
set_option maxRecDepth 100000 in
set_option maxHeartbeats 8000000 in
theorem plays_any (c : Nat) (hc : c ≤ 1073741824) (a : Option Addr) (n ca : Nat) (l : List AArg) (w : World) (hl : l.length = n) (hr : Reads w 8 (.slice a n ca) n (l.flatMap AArg.row)) (hok : ∀ x ∈ l, AOk w x) (hfar : farB l = false) :
    Calls Try.prog 5 #[.int .i64 c, .slice a n ca] w fun e w' => e = .returned (.bool true) ∧ Below w.heap.size w w' := by
  have hc0 : decide ((c : Int) < 0) = false := by simp
  have hc1 : decide ((1073741824 : Int) < (c : Int)) = false := by simp; omega
  have hc2 : (c : Int) ≤ 1073741824 := by omega
  have HL := Lib.hid hl
  have HR := Lib.hid hr
  have HOK := Lib.hid hok
  obtain ⟨hn60, hbad⟩ := far_no7 hfar
  rw [HL.out] at hn60
  have HBAD := Lib.hid hbad
  have HFAR := Lib.hid hfar
  clear hbad hfar hl hr hok
  go_enter Try.func5, Try.ntmps5
  go_wp2_with fail
  refine (alive07 _).mono ?_
  rintro e w1 ⟨rfl, hb1⟩
  have HB1 := Lib.hid hb1
  have hz1 := hb1.size
  clear hb1
  go_wp2_with fail
  refine (far_any a n ca l _ HL.out (HR.out.below HB1.out)).mono ?_
  rintro e w2 ⟨rfl, rfl⟩
  rw [HFAR.out]
  go_wp2_with fail
  refine (new_ds c hc _).mono ?_
  rintro e w2 ⟨rfl, hd2, hb2, hz2⟩
  have HD2 := Lib.hid hd2
  have HB2 := Lib.hid hb2
  clear hd2 hb2
  go_wp2_with fail
  refine (ref07_new c _).mono ?_
  rintro e w3 ⟨rfl, hb3⟩
  have HD3 := Lib.hid (HD2.out.below hb3)
  have HB3 := Lib.hid (HB2.out.trans (hb3.mono (by omega)))
  have hz3 := HB3.out.size
  clear hb3
  go_wp2_with fail
  obtain ⟨w4, hw4⟩ : ∃ w4 : World, w4 = w3.alloc (.cells #[.int .i64 c, .slice none 0 0, .slice none 0 0, .slice none 0 0, .slice none 0 0, .int .i64 (-1)] 64) := ⟨_, rfl⟩
  have hz4 : w4.heap.size = w3.heap.size + 1 := by rw [hw4]; simp
  have hb34 : Below w3.heap.size w3 w4 := by rw [hw4]; exact Below.alloc (Below.refl _ _) (Nat.le_refl _) _
  have HR4 := Lib.hid (show RefAt w4 w3.heap.size (fun k => k = w3.heap.size) (Dk.new c) from ref_empty (by rw [hw4]; exact heap_new w3 _))
  have HD4 := Lib.hid (show DS w4 (w1.heap.size + 2) (fun k => k < w1.heap.size ∨ k = w3.heap.size) 0 (Dk.new c) from HD3.out.later hb34 fun k hk => hk.imp id fun e => Nat.le_of_eq e.symm)
  have HB4 := Lib.hid (HB3.out.trans (hb34.mono hz3))
  obtain ⟨bm, hbm⟩ : ∃ bm, bm = w3.heap.size := ⟨_, rfl⟩
  rw [← hw4]
  rw [← hbm] at HR4 HD4 ⊢
  have hbm4 : bm < w4.heap.size := by omega
  have hbm1 : w1.heap.size ≤ bm := by omega
  clear hw4 hb34 hbm
  go_wp2_with fail
  go_loopw [8] (fun i wr => ∃ (k : Nat) (st : Dk) (M : Nat → Prop), k ≤ n ∧ i = .int .i64 k ∧ DS wr (w1.heap.size + 2) (fun q => q < w1.heap.size ∨ M q) k st ∧ RefAt wr bm M st ∧ DkS st ∧ (∀ q, M q → w1.heap.size ≤ q ∧ q < wr.heap.size) ∧ Below w1.heap.size w1 wr) (fun i _ => n - (intOf i).toNat)
  case atStart => exact ⟨0, Dk.new c, fun q => q = bm, Nat.zero_le _, rfl, HD4.out, HR4.out, DkS.new c, fun q hq => by rw [hq]; exact ⟨hbm1, hbm4⟩, HB4.out⟩
  case round =>
    obtain ⟨k, st, M, hk, rfl, hd, hm, hks, hM, hbr⟩ := hrel
    have HD := Lib.hid hd
    have HM := Lib.hid hm
    have HKS := Lib.hid hks
    have HMM := Lib.hid hM
    have HBR := Lib.hid hbr
    have hzr := hbr.size
    have HBW := Lib.hid (HB1.out.trans (hbr.mono hz1))
    clear hd hm hks hM hbr
    by_cases hlt : k < n
    · obtain ⟨x, hx⟩ : ∃ x, l[k]? = some x := ⟨_, List.getElem?_eq_getElem (by rw [HL.out]; exact hlt)⟩
      have hxm := List.mem_of_getElem? hx
      have HAO := Lib.hid (HOK.out x hxm)
      have HAK := Lib.hid (act_ok7 (HOK.out x hxm) (HBAD.out x hxm))
      have HXX := Lib.hid hx
      obtain ⟨b, o, cc, e, hbl, y0, y1, y2, y3, y4, y5, y6, y7⟩ := act_cells (HR.out.below HBW.out) hx (by omega)
      obtain ⟨rfl, -, rfl⟩ := sl_inj e
      have hk0 : (0 : Int) ≤ (k : Int) := by omega
      have hk1 : (k : Int) < (n : Int) := by omega
      clear hx e hxm
      obtain ⟨⟨kd, nm, to, bs, nn, mm, ⟨pn, fs⟩⟩, ab, cb, af', cf'⟩ := x
      simp only at y0 y1 y2 y3 y4 y5 y6 y7
      go_wp2_with fail
      have hao := HAO.out.below HBW.out
      refine (do07_any HD.out (fun q hq => hq.elim (fun h => by omega) fun h => (HMM.out q h).2) (by omega) ⟨kd, nm, to, bs, nn, mm, ⟨pn, fs⟩⟩ HAK.out.1 ab af' cb cf' hao.rb hao.rf).mono ?_
      clear hao y0 y1 y2 y3 y4 y5 y6 y7
      rintro e w5 ⟨v5, rfl, ho5, hd5, hk5⟩
      obtain ⟨a5, c5, rfl⟩ := ownsRow_len ho5
      have HO5 := Lib.hid ho5
      have HD5 := Lib.hid hd5
      have hb5 : Below w1.heap.size wr w5 := hk5.below (by omega) fun q hq => .inl hq
      have HB5 := Lib.hid (HBR.out.trans hb5)
      have HBW5 := Lib.hid (HBW.out.trans (hb5.mono hz1))
      have HM5 := Lib.hid (HM.out.kp hk5 fun q hq => .inr hq)
      have hz5 := hb5.size
      have hzr5 := hk5.size
      clear ho5 hd5 hk5 hb5
      obtain ⟨b2, o2, cc2, e, hbl2, y0, y1, y2, y3, y4, y5, y6, y7⟩ := act_cells (HR.out.below HBW5.out) HXX.out (by omega)
      obtain ⟨e, -, -⟩ := sl_inj e
      simp only [Option.some.injEq, Addr.mk.injEq, and_true] at e
      obtain ⟨rfl, rfl⟩ := e
      simp only at y0 y1 y2 y3 y4 y5 y6 y7
      go_wp2_with fail
      have hao := HAO.out.below HBW5.out
      refine (rdo_any bm k M st ⟨kd, nm, to, bs, nn, mm, ⟨pn, fs⟩⟩ ab af' cb cf' _ HM5.out HD.out.ok (by omega) HKS.out (fun q hq => by have := (HMM.out q hq).2; omega) HAK.out.1 HAK.out.2.2.1 HAK.out.2.1 HAK.out.2.2.2 hao.rb (fun w' hk => (HAO.out.below (HBW5.out.trans ((Keeps.below hk (B := w1.heap.size) (by omega) fun q hq => (HMM.out q hq).1).mono hz1))).rf)).mono ?_
      clear hao y0 y1 y2 y3 y4 y5 y6 y7
      have HKS' := Lib.hid (HKS.out.call ⟨kd, nm, to, bs, nn, mm, ⟨pn, fs⟩⟩)
      rintro e w6 hR
      obtain ⟨st', hst'⟩ : ∃ st', st' = (st.call ⟨kd, nm, to, bs, nn, mm, ⟨pn, fs⟩⟩).2 := ⟨_, rfl⟩
      obtain ⟨r, hr⟩ : ∃ r, r = (st.call ⟨kd, nm, to, bs, nn, mm, ⟨pn, fs⟩⟩).1 := ⟨_, rfl⟩
      obtain ⟨sn, hsn⟩ : ∃ sn, sn = st.callN ⟨kd, nm, to, bs, nn, mm, ⟨pn, fs⟩⟩ := ⟨_, rfl⟩
      obtain ⟨xs, hxs⟩ : ∃ xs, xs = st.callB ⟨kd, nm, to, bs, nn, mm, ⟨pn, fs⟩⟩ := ⟨_, rfl⟩
      rw [← hst', ← hr, ← hsn, ← hxs] at hR
      rw [← hst'] at HD5 HKS'
      rw [← hxs] at HO5
      rw [← hr, ← hsn, ← hxs]
      clear hst' hr hsn hxs
      obtain ⟨v6, rfl, hr6, hm6, hk6⟩ := hR
      have HO6 := Lib.hid (show w6.ownsRow wr.heap.size 5 1 (.slice a5 xs.length c5) xs.length (xs.map bv) from ownsRow_keeps HO5.out hk6 fun q hq e => by
        have h1 := (HO5.out.lt q hq).1
        have h2 := (HMM.out q e).2
        omega)
      have HR6 := Lib.hid hr6
      have HM6 := Lib.hid hm6
      have HD6 := Lib.hid (HD5.out.widen (Keeps.mono hk6 (G := fun q => q < w1.heap.size ∨ M q) fun q _ e => .inr e))
      have HB6 := Lib.hid (HB5.out.trans ((Keeps.below hk6 (B := w1.heap.size) (by omega) fun q hq => (HMM.out q hq).1)))
      have hz6 := hk6.size
      clear hr6 hm6 hk6
      obtain ⟨x6, hx6⟩ : ∃ v, v = v6 := ⟨_, rfl⟩
      rw [← hx6] at HR6 ⊢
      clear hx6
      go_wp2_with fail
      refine (same_any _ _ xs xs _ (reads_of_owns HO6.out) HR6.out).mono ?_
      rintro e w7 ⟨rfl, hb7⟩
      rw [decide_eq_true (rfl : xs = xs)]
      have HD7 := Lib.hid (HD6.out.below hb7)
      have HM7 := Lib.hid (HM6.out.below hb7)
      have HB7 := Lib.hid (HB6.out.trans (hb7.mono (by have := HB6.out.size; omega)))
      have hz7 := hb7.size
      clear hb7
      go_wp2_with fail
      refine (same07_any HD7.out HM7.out HD7.out.ok HKS'.out.1).mono ?_
      rintro e w8 ⟨rfl, hb8⟩
      have HD8 := Lib.hid (HD7.out.below hb8)
      have HM8 := Lib.hid (HM7.out.below hb8)
      have HB8 := Lib.hid (HB7.out.trans (hb8.mono (by have := HB7.out.size; omega)))
      have hz8 := hb8.size
      clear hb8
      go_wp2_with fail
      go_roundw
      case rel => exact ⟨k + 1, st', fun q => M q ∨ (w5.heap.size ≤ q ∧ q < w6.heap.size), by omega, by go_num, HD8.out.less (fun q hq => by
          rcases hq with h | h | h
          · exact .inl (.inl h)
          · exact .inl (.inr h)
          · exact .inr h), HM8.out, HKS'.out, fun q hq => by
          rcases hq with h | h
          · have := HMM.out q h
            omega
          · omega, HB8.out⟩
      case measure => simp [intOf]; omega
    · have hkn : decide ((k : Int) < (n : Int)) = false := by simp; omega
      obtain ⟨wo, rfl⟩ : ∃ W : World, W = wr := ⟨_, rfl⟩
      have HNK := Lib.hid HD.out.ok
      obtain ⟨vn, vl, vd, vf, fs, hblk, hen, hel, hde, hfi, hfs, hMm, hMr⟩ := HM.out
      obtain ⟨na, nc, rfl⟩ := ownsRow_len hen
      have HEN := Lib.hid hen
      have HFI := Lib.hid hfi
      have HFS := Lib.hid hfs
      have HBLK := Lib.hid hblk
      have hmlo := blk_lt hblk
      have hlen := HNK.out.lnow
      clear hblk hen hel hde hfi hfs hMm hMr
      go_wp2_with fail
      go_loopw [15] (fun i wr => ∃ j : Nat, j ≤ st.now.length ∧ i = .int .i64 j ∧ Below wo.heap.size wo wr) (fun i _ => st.now.length - (intOf i).toNat)
      case atStart => exact ⟨0, Nat.zero_le _, rfl, Below.refl _ _⟩
      case round =>
        obtain ⟨j, hj, rfl, hbr⟩ := hrel
        have HBR2 := Lib.hid hbr
        have hbm := blk_below HBLK.out hbr
        obtain ⟨m0, m1, m2, m3, m4, m5, _⟩ := cells6 hbm
        have hmlr := blk_lt hbm
        have hzr2 := hbr.size
        have HDR := Lib.hid (HD.out.below hbr)
        have HBWR := Lib.hid (HBW.out.trans (hbr.mono (by omega)))
        clear hbr hbm m0 m2 m3
        by_cases hjl : j < st.now.length
        · obtain ⟨x, hx⟩ : ∃ x, st.now[j]? = some x := ⟨_, List.getElem?_eq_getElem hjl⟩
          have hj0 : (0 : Int) ≤ (j : Int) := by omega
          have hj1 : (j : Int) < (st.now.length : Int) := by omega
          by_cases ha : st.armed = 0
          · rw [ha] at m5
            go_wp2_with fail
            go_ret
            exact ⟨rfl, HBWR.out⟩
          · have ha0 : (st.armed == 0) = false := by simpa using ha
            have ha1 : decide (st.armed = 0) = false := by simpa using ha
            obtain ⟨s, f⟩ := x
            have hmem := List.mem_of_getElem? hx
            have hfn := HNK.out.fnow _ hmem
            have hg := srt_get HKS.out.1 hmem
            have hrd := read_all ha hg
            obtain ⟨vb, hvb⟩ := files_get HFS.out hfn
            obtain ⟨gf, cg, ax, cx, rfl, ex, hfl, hgf, z0, z1⟩ := (show RFiles wo M vf fs from HFI.out).pair hvb
            simp only at ex
            subst ex
            have HXR := Lib.hid (HFI.out.2 _ (List.mem_of_getElem? hvb)).1
            obtain ⟨g, cn, e, _, hgl, x0, x1⟩ := ents_cell HEN.out hx
            obtain ⟨rfl, -, rfl⟩ := sl_inj e
            have y0 := (HBR2.out.cell (p := ⟨g, j * 2, none⟩) hgl).trans x0
            have y1 := (HBR2.out.cell (p := ⟨g, j * 2 + 1, none⟩) hgl).trans x1
            have q0 := (HBR2.out.cell (p := ⟨gf, f * 2, none⟩) hgf).trans z0
            have hgl2 : g < wr.heap.size := by omega
            have hgf2 : gf < wr.heap.size := by omega
            have hf0 : (0 : Int) ≤ (f : Int) := by omega
            have hf1 : (f : Int) < (fs.length : Int) := by omega
            have hbl24 := (HNK.out.at f).2
            have HRD := Lib.hid hrd
            have hsl : s.length ≤ maxLen := by
              obtain ⟨F, qq, h1, _, _⟩ := HD.out
              exact dir_keys h1.now (s, f) hmem
            have HSL := Lib.hid hsl
            simp only at y0 y1
            clear hx e hvb x0 x1 z0 z1 hmem hg hrd hfn hsl ha
            go_wp2_with fail
            refine wp_region_now0 [1, 3, 7, 10] [(0, 0), (1, 2), (2, 0), (3, 2), (4, 0), (5, 0), (6, 0), (7, 2), (8, 0), (9, 0), (10, 2), (11, 0)] (by kernel_rfl) (by kernel_rfl) rfl (by kernel_rfl) ?_
            refine stepE0 rfl rfl (fun K hK => ?_)
            go_simp
            refine hK _ ?_
            clear hK K
            refine stepE2 rfl rfl ?_ (fun w1 hS => ?_) (fun K hK => ?_)
            rotate_left
            focus (obtain rfl : w1 = _ := hS; go_simp; rfl)
            go_simp
            refine hK _ ?_
            clear hK K
            refine stepE0 rfl rfl (fun K hK => ?_)
            go_simp
            refine hK _ ?_
            clear hK K
            refine stepE2 rfl rfl ?_ (fun w1 hS => ?_) (fun K hK => ?_)
            rotate_left
            focus (obtain rfl : w1 = _ := hS; go_simp; rfl)
            go_simp
            refine hK _ ?_
            clear hK K
            refine stepE0 rfl rfl (fun K hK => ?_)
            go_simp
            refine hK _ ?_
            clear hK K
            refine stepE0 rfl rfl (fun K hK => ?_)
            go_simp
            refine hK _ ?_
            clear hK K
            refine stepE0 rfl rfl (fun K hK => ?_)
            go_simp
            refine hK _ ?_
            clear hK K
            refine stepE2 rfl rfl ?_ (fun w1 hS => ?_) (fun K hK => ?_)
            rotate_left
            focus (obtain rfl : w1 = _ := hS; go_simp; rfl)
            go_simp
            refine hK _ ?_
            clear hK K
            refine stepE0 rfl rfl (fun K hK => ?_)
            go_simp
            refine hK _ ?_
            clear hK K
            refine stepE0 rfl rfl (fun K hK => ?_)
            go_simp
            refine hK _ ?_
            clear hK K
            refine stepE2 rfl rfl ?_ (fun w1 hS => ?_) (fun K hK => ?_)
            rotate_left
            focus (obtain rfl : w1 = _ := hS; go_simp; rfl)
            go_simp
            refine hK _ ?_
            clear hK K
            refine stepE0 rfl rfl (fun K hK => ?_)
            go_simp
            refine hK _ ?_
            clear hK K
            try refine stepEnil0 ?_
            go_wp2_with fail
            refine (read_ds (HDR.out.below (by repeat (first | (with_reducible exact Below.refl _ _) | (with_reducible refine Below.setCell ?_ ?_ _) | (with_reducible refine Below.alloc ?_ ?_ _) | (with_reducible refine Below.drewN ?_ _) | (with_reducible refine Below.drew ?_) | (with_reducible exact Nat.le_refl _) | (focus (simp only [World.size_alloc, World.size_setCell, World.size_drew, World.size_drewN]; omega)) | omega | exact Nat.le_refl _ | (focus (simp; done)) | (focus (simp; omega))))) s 0 (st.fileAt f).b.length HSL.out (by omega) (by omega)).mono ?_
            rintro e w5 hR
            rw [HRD.out] at hR
            obtain ⟨v5, rfl, ho5, hb5⟩ := hR
            obtain ⟨a5, c5, rfl⟩ := ownsRow_len ho5
            have HO5 := Lib.hid ho5
            have HB5 := Lib.hid (HBR2.out.trans ((show Below wr.heap.size wr w5 from Below.trans (by repeat (first | (with_reducible exact Below.refl _ _) | (with_reducible refine Below.setCell ?_ ?_ _) | (with_reducible refine Below.alloc ?_ ?_ _) | (with_reducible refine Below.drewN ?_ _) | (with_reducible refine Below.drew ?_) | (with_reducible exact Nat.le_refl _) | (focus (simp only [World.size_alloc, World.size_setCell, World.size_drew, World.size_drewN]; omega)) | omega | exact Nat.le_refl _ | (focus (simp; done)) | (focus (simp; omega)))) (hb5.mono (by simp))).mono hzr2))
            clear ho5 hb5
            go_wp2_with fail
            refine (code0 _).mono ?_
            rintro e w6 ⟨rfl, rfl⟩
            go_wp2_with fail
            refine (same_any _ _ (st.fileAt f).b (st.fileAt f).b _ (reads_of_owns (ownsRow_below HXR.out HB5.out)) (reads_of_owns HO5.out)).mono ?_
            rintro e w7 ⟨rfl, hb7⟩
            rw [decide_eq_true (rfl : (st.fileAt f).b = (st.fileAt f).b)]
            have HB7 := Lib.hid (HB5.out.trans (hb7.mono (by have := HB5.out.size; omega)))
            clear hb7
            go_wp2_with fail
            go_roundw
            case rel => exact ⟨j + 1, by omega, by go_num, HB7.out⟩
            case measure => simp [intOf]; omega
        · have hjn : decide ((j : Int) < (st.now.length : Int)) = false := by simp; omega
          have hjn2 : decide (j < st.now.length) = false := by simp; omega
          go_wp2_with fail
          go_ret
          exact ⟨rfl, HBWR.out⟩
set_option maxRecDepth 100000 in
set_option maxHeartbeats 2000000 in
theorem plays_bad (c : Int) (hc : c < 0 ∨ 1073741824 < c) (a : Option Addr) (n ca : Nat) (l : List AArg) (w : World) (hl : l.length = n) (hr : Reads w 8 (.slice a n ca) n (l.flatMap AArg.row)) (hfar : farB l = false) :
    Calls Try.prog 5 #[.int .i64 c, .slice a n ca] w fun e w' => e = .returned (.bool true) ∧ Below w.heap.size w w' := by
  have HL := Lib.hid hl
  have HR := Lib.hid hr
  have HFAR := Lib.hid hfar
  have HC := Lib.hid hc
  clear hfar hl hr hc
  go_enter Try.func5, Try.ntmps5
  go_wp2_with fail
  refine (alive07 _).mono ?_
  rintro e w1 ⟨rfl, hb1⟩
  have HB1 := Lib.hid hb1
  clear hb1
  go_wp2_with fail
  refine (far_any a n ca l _ HL.out (HR.out.below HB1.out)).mono ?_
  rintro e w2 ⟨rfl, rfl⟩
  rw [HFAR.out]
  go_wp2_with fail
  refine (new_bad c HC.out _).mono ?_
  rintro e w2 ⟨rfl, rfl⟩
  by_cases h0 : c < 0
  · go_wp2_with fail
    refine (code_any 1 (by omega) (by omega) _).mono ?_
    rintro e w3 ⟨rfl, rfl⟩
    go_wp2_with fail
    go_ret
    exact ⟨rfl, HB1.out⟩
  · have h1 : decide (c < 0) = false := by simp; omega
    have h2 : (1073741824 : Int) < c := by have := HC.out; omega
    go_wp2_with fail
    refine (code_any 1 (by omega) (by omega) _).mono ?_
    rintro e w3 ⟨rfl, rfl⟩
    go_wp2_with fail
    go_ret
    exact ⟨rfl, HB1.out⟩
set_option maxRecDepth 100000 in
set_option maxHeartbeats 2000000 in
theorem plays_far (c : Int) (a : Option Addr) (n ca : Nat) (l : List AArg) (w : World) (hl : l.length = n) (hr : Reads w 8 (.slice a n ca) n (l.flatMap AArg.row)) (hfar : farB l = true) :
    Calls Try.prog 5 #[.int .i64 c, .slice a n ca] w fun e w' => e = .returned (.bool true) ∧ Below w.heap.size w w' := by
  have HL := Lib.hid hl
  have HR := Lib.hid hr
  have HFAR := Lib.hid hfar
  clear hfar hl hr
  go_enter Try.func5, Try.ntmps5
  go_wp2_with fail
  refine (alive07 _).mono ?_
  rintro e w1 ⟨rfl, hb1⟩
  have HB1 := Lib.hid hb1
  clear hb1
  go_wp2_with fail
  refine (far_any a n ca l _ HL.out (HR.out.below HB1.out)).mono ?_
  rintro e w2 ⟨rfl, rfl⟩
  rw [HFAR.out]
  go_wp2_with fail
  go_ret
  exact ⟨rfl, HB1.out⟩
end Go.Proofs.Ytcicnjlkcbimgaa
