/- corncribref07: (*Disk).deed (written by genref07.py). -/
import Derived.Test.YtcicnjlkcbimgaaDp2
namespace Go.Proofs.Ytcicnjlkcbimgaa
open Go.RowKit Go.Maps
/-- What a deed is told, and what it has made of the disk, ahead of the count. -/
def RDeedOut (w : World) (m : Nat) (M : Nat → Prop) (st : Dk) (r : Nat × Dk) (e : Ending) (w' : World) : Prop :=
  e = .returned (.int .i64 r.1) ∧ ∃ s : Dk, RTo w w' m M s ∧ s.armed = st.armed ∧ (r.1 = 0 → s.did = r.2) ∧ (r.1 ≠ 0 → s = r.2)
theorem RDeedOut.no {w w' : World} {m k : Nat} {M : Nat → Prop} {st : Dk} {r : Nat × Dk} (h : RTo w w' m M st) (hr : r = (k, st)) (hk : k ≠ 0) : RDeedOut w m M st r (.returned (.int .i64 k)) w' := by
  subst hr
  exact ⟨rfl, st, h, rfl, fun e => absurd e hk, fun _ => rfl⟩
theorem RDeedOut.yes {w w' : World} {m : Nat} {M : Nat → Prop} {st s : Dk} {r : Nat × Dk} (h : RTo w w' m M s) (ha : s.armed = st.armed) (hr : r = (0, s.did)) : RDeedOut w m M st r (.returned (.int .i64 0)) w' := by
  subst hr
  exact ⟨rfl, s, h, ha, fun _ => rfl, fun e => absurd rfl e⟩
theorem findI_none {l : Dir} {s : Nm} (h : dirGet l s = none) : findI l s = -1 := by unfold findI; rw [h]
theorem findI_some {l : Dir} {s : Nm} {f : Nat} (h : dirGet l s = some f) : findI l s = (f : Int) := by unfold findI; rw [h]
theorem fnd_none {d : Dk} {s : Nm} (ha : d.armed ≠ 0) (h : dirGet d.now s = none) : d.fnd s = (6, 0) := by unfold Dk.fnd; rw [if_neg ha, h]
theorem blk_drew7 {w : World} {k : Nat} {x : Obj} (h : w.heap[k]? = some x) : w.drew.heap[k]? = some x := h
theorem fnd_some {d : Dk} {s : Nm} {f : Nat} (ha : d.armed ≠ 0) (h : dirGet d.now s = some f) : d.fnd s = (0, f) := by unfold Dk.fnd; rw [if_neg ha, h]
theorem fileR_info : (Try.prog.info? 70).map (fun i => (i.zero, i.size, i.bytes)) = some (some (.agg #[.slice none 0 0, .int .i64 0]), 2, 32) := by kernel_rfl
theorem rfile_fin {w w1 w3 : World} {m g cap : Nat} {M : Nat → Prop} {st : Dk} {o : Obj} {vn vl vd vf : Value} {fs : List (Value × DFile)} (hblk : w.heap[m]? = some (.cells #[.int .i64 st.cap, vn, vl, vd, vf, .int .i64 st.armed] 64 (0, 0)))
    (hM : M m) (hMr : ∀ k, (vn.ownBlock = some k ∨ vl.ownBlock = some k ∨ vd.ownBlock = some k ∨ vf.ownBlock = some k) → M k) (hen : REnts w vn st.now) (hel : REnts w vl st.lasting) (hde : RDeeds w vd st.deeds) (hfi : RFiles w M vf fs) (hfs : fs.map (·.2) = st.files)
    (hb : Below w.heap.size w w1) (hg : (w1.alloc o).grownBy w3 vf.ownBlock) (hat : vf.ownBlock = some g ∨ g = w1.heap.size + 1) (hown : w3.ownsRow 0 70 2 (.slice (some ⟨g, 0, none⟩) (fs.length + 1) cap) (fs.length + 1) (fs.flatMap fileRow ++ [.slice none 0 0, .int .i64 0]))
    (hm3 : w3.heap[m]? = some (.cells #[.int .i64 st.cap, vn, vl, vd, vf, .int .i64 st.armed] 64 (0, 0))) :
    RTo w (w3.setCell ⟨m, 4, none⟩ (.slice (some ⟨g, 0, none⟩) (fs.length + 1) cap)) m M { st with files := st.files ++ [⟨[], 0⟩] } := by
  have hz := hb.size
  have hkg : Keeps (fun k => vf.ownBlock = some k) w w3 := Keeps.grown ((keeps_below _ hb).alloc o) hg fun k e _ => e
  have hh := hits_row hfi.1
  have hk4 : Keeps (fun k => k = m) w3 (w3.setCell ⟨m, 4, none⟩ (.slice (some ⟨g, 0, none⟩) (fs.length + 1) cap)) := keeps_set 4 _
  have hmF : (w3.setCell ⟨m, 4, none⟩ (.slice (some ⟨g, 0, none⟩) (fs.length + 1) cap)).heap[m]? = some (.cells #[.int .i64 st.cap, vn, vl, vd, .slice (some ⟨g, 0, none⟩) (fs.length + 1) cap, .int .i64 st.armed] 64 (0, 0)) := by simpa using blk_put hm3 4 (.slice (some ⟨g, 0, none⟩) (fs.length + 1) cap)
  have e1 : (72 + 1 : Nat) ≠ 70 + 1 := by decide
  have e2 : (115 + 1 : Nat) ≠ 70 + 1 := by decide
  have e4 : (5 + 1 : Nat) ≠ 70 + 1 := by decide
  have hgl := (hown.lt g rfl).2
  have hz3 := hg.size
  simp only [World.size_alloc] at hz3
  have hR := rfix (M := fun k => M k ∨ (w.heap.size ≤ k ∧ k < w3.heap.size)) (st' := { st with files := st.files ++ [⟨[], 0⟩] }) (fs := fs ++ [(.slice none 0 0, ⟨[], 0⟩)]) hm3 rfl hk4 hmF (keep_row hkg hh hen e1) (keep_row hkg hh hel e1) (keep_row hkg hh hde e2)
    ⟨by rw [List.length_append, List.flatMap_append]; exact hown, fun p hp => by
      rcases List.mem_append.1 hp with hp | hp
      · exact ⟨keep_row hkg hh (hfi.2 p hp).1 e4, fun k e => .inl ((hfi.2 p hp).2 k e)⟩
      · obtain rfl : p = (.slice none 0 0, ⟨[], 0⟩) := by simpa using hp
        exact ⟨World.ownsRow_nil _ _ _ _, fun k e => by cases e⟩⟩ (by rw [List.map_append, hfs]; rfl) (.inl hM) (fun k e => by
      rcases e with e | e | e | e
      · exact .inl (hMr k (.inl e))
      · exact .inl (hMr k (.inr (.inl e)))
      · exact .inl (hMr k (.inr (.inr (.inl e))))
      · have e5 : g = k := by simpa [Value.ownBlock] using e
        subst e5
        rcases hat with e | e
        · exact .inl (hMr _ (.inr (.inr (.inr e))))
        · exact .inr ⟨by omega, hgl⟩)
  have hz4 : (w3.setCell ⟨m, 4, none⟩ (.slice (some ⟨g, 0, none⟩) (fs.length + 1) cap)).heap.size = w3.heap.size := by simp
  refine ⟨hR.1.mono fun k e => ?_, Keeps.mono (F := fun k => M k) ?_ fun _ _ e => e⟩
  · rcases e with (e | e) | e
    · exact .inl e
    · exact .inr ⟨e.1, by omega⟩
    · exact .inr ⟨by omega, e.2⟩
  · refine Keeps.trans (F := fun k => M k) (Keeps.mono hkg fun k _ e => hMr k (.inr (.inr (.inr e)))) hk4 fun k _ e => ?_
    rw [e]
    exact hM
set_option maxRecDepth 100000 in
set_option maxHeartbeats 4000000 in
theorem rdeed0_arg (m N : Nat) (M : Nat → Prop) (st : Dk) (nm to : Nm) (b : List UInt8) (ab af : Option Addr) (cb lf cf : Nat) (an am pn : Int) (w : World) (h : RefAt w m M st) (hok : DkOk N st) (hN : N < 4096) (ha : st.armed ≠ 0) (hnm : nm.length ≤ maxLen) (hn : namedB nm = false) :
    Calls Try.prog 47 #[(.pointer (some ⟨m, 0, none⟩)), .agg #[.int .i64 0, .string ⟨nm.toArray⟩, .string ⟨to.toArray⟩, .slice ab b.length cb, .int .i64 an, .int .i64 am, .int .i64 pn, .slice af lf cf]] w (RDeedOut w m M st (st.create nm)) := by
  have H := Lib.hid h
  have HOK := Lib.hid hok
  have HA := Lib.hid ha
  have HNM := Lib.hid hn
  have HR := Lib.hid (show st.create nm = (1, st) by unfold Dk.create; rw [if_neg ha, if_pos hn])
  obtain ⟨F, hF⟩ : ∃ F, F = findI st.now nm := ⟨_, rfl⟩
  have HF := Lib.hid hF.symm
  clear hn hF
  have hlen := hok.lnow
  obtain ⟨vn, vl, vd, vf, fs, hblk, hen, hel, hde, hfi, hfs, hM, hMr⟩ := h
  obtain ⟨na, nc, rfl⟩ := ownsRow_len hen
  have HEN := Lib.hid hen
  have HEL := Lib.hid hel
  have HDE := Lib.hid hde
  have HFI := Lib.hid hfi
  have HFS := Lib.hid hfs
  have HBLK := Lib.hid hblk
  have HM := Lib.hid hM
  have HMR := Lib.hid hMr
  have hml := blk_lt hblk
  obtain ⟨c0, c1, c2, c3, c4, c5, cf⟩ := cells6 hblk
  have cf1 := cf 1
  have cf2 := cf 2
  have cf3 := cf 3
  have cf4 := cf 4
  clear hen hel hde hfi hfs hM hMr hblk hok ha cf
  go_enter Try.func47, Try.ntmps47
  go_wp2_with fail
  refine wp_region_now0 [3, 5] [(0, 0), (1, 0), (2, 0), (3, 2), (4, 0), (5, 2), (6, 1), (7, 0)] (by kernel_rfl) (by kernel_rfl) rfl (by kernel_rfl) ?_
  refine stepE0 rfl rfl (fun K hK => ?_)
  go_simp
  refine hK _ ?_
  clear hK K
  refine stepE0 rfl rfl (fun K hK => ?_)
  go_simp
  refine hK _ ?_
  clear hK K
  refine stepE0 rfl rfl (fun K hK => ?_)
  go_simp
  refine hK _ ?_
  clear hK K
  refine stepE2 rfl rfl ?_ (fun w1 hS => ?_) (fun K hK => ?_)
  rotate_left
  focus (obtain rfl : w1 = _ := hS; go_simp; rfl)
  go_simp
  refine hK _ ?_
  clear hK K
  refine stepE0 rfl rfl (fun K hK => ?_)
  go_simp
  refine hK _ ?_
  clear hK K
  refine stepE2 rfl rfl ?_ (fun w1 hS => ?_) (fun K hK => ?_)
  rotate_left
  focus (obtain rfl : w1 = _ := hS; go_simp; rfl)
  go_simp
  refine hK _ ?_
  clear hK K
  refine stepE1 rfl rfl (by kernel_rfl) (fun K hK => ?_)
  (go_wp2_with fail; refine Calls.mono (find07_any _ _ _ st.now nm _ rfl ((reads_of_owns HEN.out).below (by repeat (first | (with_reducible exact Below.refl _ _) | (with_reducible refine Below.setCell ?_ ?_ _) | (with_reducible refine Below.alloc ?_ ?_ _) | (with_reducible refine Below.drewN ?_ _) | (with_reducible refine Below.drew ?_) | (with_reducible exact Nat.le_refl _) | (focus (simp only [World.size_alloc, World.size_setCell, World.size_drew, World.size_drewN]; omega)) | omega | exact Nat.le_refl _ | (focus (simp; done)) | (focus (simp; omega))))) (by omega)) ?_; rintro e w2 ⟨rfl, rfl⟩; rw [HF.out]; go_wp2)
  refine stepE0 rfl rfl (fun K hK => ?_)
  go_simp
  refine hK _ ?_
  clear hK K
  try refine stepEnil0 ?_
  go_wp2_with fail
  refine (named07_any nm _ hnm).mono ?_
  rintro e w3 ⟨rfl, rfl⟩
  rw [HNM.out]
  go_wp2_with fail
  go_ret
  exact RDeedOut.no (RTo.below H.out (by repeat (first | (with_reducible exact Below.refl _ _) | (with_reducible refine Below.setCell ?_ ?_ _) | (with_reducible refine Below.alloc ?_ ?_ _) | (with_reducible refine Below.drewN ?_ _) | (with_reducible refine Below.drew ?_) | (with_reducible exact Nat.le_refl _) | (focus (simp only [World.size_alloc, World.size_setCell, World.size_drew, World.size_drewN]; omega)) | omega | exact Nat.le_refl _ | (focus (simp; done)) | (focus (simp; omega))))) HR.out (by decide)
set_option maxRecDepth 100000 in
set_option maxHeartbeats 4000000 in
theorem rdeed0_there (m N : Nat) (M : Nat → Prop) (st : Dk) (nm to : Nm) (b : List UInt8) (ab af : Option Addr) (cb lf cf : Nat) (an am pn : Int) (w : World) (h : RefAt w m M st) (hok : DkOk N st) (hN : N < 4096) (ha : st.armed ≠ 0) (hnm : nm.length ≤ maxLen) (hn : namedB nm = true) (f : Nat) (hg : dirGet st.now nm = some f) :
    Calls Try.prog 47 #[(.pointer (some ⟨m, 0, none⟩)), .agg #[.int .i64 0, .string ⟨nm.toArray⟩, .string ⟨to.toArray⟩, .slice ab b.length cb, .int .i64 an, .int .i64 am, .int .i64 pn, .slice af lf cf]] w (RDeedOut w m M st (st.create nm)) := by
  have H := Lib.hid h
  have HOK := Lib.hid hok
  have HA := Lib.hid ha
  have HNM := Lib.hid hn
  have HR := Lib.hid (show st.create nm = (8, st) by unfold Dk.create; rw [if_neg ha, if_neg (by rw [hn]; simp), if_pos (by rw [hg]; rfl)])
  have HF := Lib.hid (findI_some hg)
  have hf0 : (0 : Int) ≤ (f : Int) := by omega
  clear hn hg
  have hlen := hok.lnow
  obtain ⟨vn, vl, vd, vf, fs, hblk, hen, hel, hde, hfi, hfs, hM, hMr⟩ := h
  obtain ⟨na, nc, rfl⟩ := ownsRow_len hen
  have HEN := Lib.hid hen
  have HEL := Lib.hid hel
  have HDE := Lib.hid hde
  have HFI := Lib.hid hfi
  have HFS := Lib.hid hfs
  have HBLK := Lib.hid hblk
  have HM := Lib.hid hM
  have HMR := Lib.hid hMr
  have hml := blk_lt hblk
  obtain ⟨c0, c1, c2, c3, c4, c5, cf⟩ := cells6 hblk
  have cf1 := cf 1
  have cf2 := cf 2
  have cf3 := cf 3
  have cf4 := cf 4
  clear hen hel hde hfi hfs hM hMr hblk hok ha cf
  go_enter Try.func47, Try.ntmps47
  go_wp2_with fail
  refine wp_region_now0 [3, 5] [(0, 0), (1, 0), (2, 0), (3, 2), (4, 0), (5, 2), (6, 1), (7, 0)] (by kernel_rfl) (by kernel_rfl) rfl (by kernel_rfl) ?_
  refine stepE0 rfl rfl (fun K hK => ?_)
  go_simp
  refine hK _ ?_
  clear hK K
  refine stepE0 rfl rfl (fun K hK => ?_)
  go_simp
  refine hK _ ?_
  clear hK K
  refine stepE0 rfl rfl (fun K hK => ?_)
  go_simp
  refine hK _ ?_
  clear hK K
  refine stepE2 rfl rfl ?_ (fun w1 hS => ?_) (fun K hK => ?_)
  rotate_left
  focus (obtain rfl : w1 = _ := hS; go_simp; rfl)
  go_simp
  refine hK _ ?_
  clear hK K
  refine stepE0 rfl rfl (fun K hK => ?_)
  go_simp
  refine hK _ ?_
  clear hK K
  refine stepE2 rfl rfl ?_ (fun w1 hS => ?_) (fun K hK => ?_)
  rotate_left
  focus (obtain rfl : w1 = _ := hS; go_simp; rfl)
  go_simp
  refine hK _ ?_
  clear hK K
  refine stepE1 rfl rfl (by kernel_rfl) (fun K hK => ?_)
  (go_wp2_with fail; refine Calls.mono (find07_any _ _ _ st.now nm _ rfl ((reads_of_owns HEN.out).below (by repeat (first | (with_reducible exact Below.refl _ _) | (with_reducible refine Below.setCell ?_ ?_ _) | (with_reducible refine Below.alloc ?_ ?_ _) | (with_reducible refine Below.drewN ?_ _) | (with_reducible refine Below.drew ?_) | (with_reducible exact Nat.le_refl _) | (focus (simp only [World.size_alloc, World.size_setCell, World.size_drew, World.size_drewN]; omega)) | omega | exact Nat.le_refl _ | (focus (simp; done)) | (focus (simp; omega))))) (by omega)) ?_; rintro e w2 ⟨rfl, rfl⟩; rw [HF.out]; go_wp2)
  refine stepE0 rfl rfl (fun K hK => ?_)
  go_simp
  refine hK _ ?_
  clear hK K
  try refine stepEnil0 ?_
  go_wp2_with fail
  refine (named07_any nm _ hnm).mono ?_
  rintro e w3 ⟨rfl, rfl⟩
  rw [HNM.out]
  go_wp2_with fail
  go_ret
  exact RDeedOut.no (RTo.below H.out (by repeat (first | (with_reducible exact Below.refl _ _) | (with_reducible refine Below.setCell ?_ ?_ _) | (with_reducible refine Below.alloc ?_ ?_ _) | (with_reducible refine Below.drewN ?_ _) | (with_reducible refine Below.drew ?_) | (with_reducible exact Nat.le_refl _) | (focus (simp only [World.size_alloc, World.size_setCell, World.size_drew, World.size_drewN]; omega)) | omega | exact Nat.le_refl _ | (focus (simp; done)) | (focus (simp; omega))))) HR.out (by decide)
set_option maxRecDepth 100000 in
set_option maxHeartbeats 4000000 in
theorem rdeed0_full (m N : Nat) (M : Nat → Prop) (st : Dk) (nm to : Nm) (b : List UInt8) (ab af : Option Addr) (cb lf cf : Nat) (an am pn : Int) (w : World) (h : RefAt w m M st) (hok : DkOk N st) (hN : N < 4096) (ha : st.armed ≠ 0) (hnm : nm.length ≤ maxLen) (hn : namedB nm = true) (hg : dirGet st.now nm = none) (hl : 64 ≤ st.now.length) :
    Calls Try.prog 47 #[(.pointer (some ⟨m, 0, none⟩)), .agg #[.int .i64 0, .string ⟨nm.toArray⟩, .string ⟨to.toArray⟩, .slice ab b.length cb, .int .i64 an, .int .i64 am, .int .i64 pn, .slice af lf cf]] w (RDeedOut w m M st (st.create nm)) := by
  have H := Lib.hid h
  have HOK := Lib.hid hok
  have HA := Lib.hid ha
  have HNM := Lib.hid hn
  have HR := Lib.hid (show st.create nm = (11, st) by unfold Dk.create; rw [if_neg ha, if_neg (by rw [hn]; simp), if_neg (by rw [hg]; simp), if_pos hl])
  have HF := Lib.hid (findI_none hg)
  have hl2 : (64 : Int) ≤ (st.now.length : Int) := by omega
  clear hn hg
  have hlen := hok.lnow
  obtain ⟨vn, vl, vd, vf, fs, hblk, hen, hel, hde, hfi, hfs, hM, hMr⟩ := h
  obtain ⟨na, nc, rfl⟩ := ownsRow_len hen
  have HEN := Lib.hid hen
  have HEL := Lib.hid hel
  have HDE := Lib.hid hde
  have HFI := Lib.hid hfi
  have HFS := Lib.hid hfs
  have HBLK := Lib.hid hblk
  have HM := Lib.hid hM
  have HMR := Lib.hid hMr
  have hml := blk_lt hblk
  obtain ⟨c0, c1, c2, c3, c4, c5, cf⟩ := cells6 hblk
  have cf1 := cf 1
  have cf2 := cf 2
  have cf3 := cf 3
  have cf4 := cf 4
  clear hen hel hde hfi hfs hM hMr hblk hok ha cf
  go_enter Try.func47, Try.ntmps47
  go_wp2_with fail
  refine wp_region_now0 [3, 5] [(0, 0), (1, 0), (2, 0), (3, 2), (4, 0), (5, 2), (6, 1), (7, 0)] (by kernel_rfl) (by kernel_rfl) rfl (by kernel_rfl) ?_
  refine stepE0 rfl rfl (fun K hK => ?_)
  go_simp
  refine hK _ ?_
  clear hK K
  refine stepE0 rfl rfl (fun K hK => ?_)
  go_simp
  refine hK _ ?_
  clear hK K
  refine stepE0 rfl rfl (fun K hK => ?_)
  go_simp
  refine hK _ ?_
  clear hK K
  refine stepE2 rfl rfl ?_ (fun w1 hS => ?_) (fun K hK => ?_)
  rotate_left
  focus (obtain rfl : w1 = _ := hS; go_simp; rfl)
  go_simp
  refine hK _ ?_
  clear hK K
  refine stepE0 rfl rfl (fun K hK => ?_)
  go_simp
  refine hK _ ?_
  clear hK K
  refine stepE2 rfl rfl ?_ (fun w1 hS => ?_) (fun K hK => ?_)
  rotate_left
  focus (obtain rfl : w1 = _ := hS; go_simp; rfl)
  go_simp
  refine hK _ ?_
  clear hK K
  refine stepE1 rfl rfl (by kernel_rfl) (fun K hK => ?_)
  (go_wp2_with fail; refine Calls.mono (find07_any _ _ _ st.now nm _ rfl ((reads_of_owns HEN.out).below (by repeat (first | (with_reducible exact Below.refl _ _) | (with_reducible refine Below.setCell ?_ ?_ _) | (with_reducible refine Below.alloc ?_ ?_ _) | (with_reducible refine Below.drewN ?_ _) | (with_reducible refine Below.drew ?_) | (with_reducible exact Nat.le_refl _) | (focus (simp only [World.size_alloc, World.size_setCell, World.size_drew, World.size_drewN]; omega)) | omega | exact Nat.le_refl _ | (focus (simp; done)) | (focus (simp; omega))))) (by omega)) ?_; rintro e w2 ⟨rfl, rfl⟩; rw [HF.out]; go_wp2)
  refine stepE0 rfl rfl (fun K hK => ?_)
  go_simp
  refine hK _ ?_
  clear hK K
  try refine stepEnil0 ?_
  go_wp2_with fail
  refine (named07_any nm _ hnm).mono ?_
  rintro e w3 ⟨rfl, rfl⟩
  rw [HNM.out]
  go_wp2_with fail
  go_ret
  exact RDeedOut.no (RTo.below H.out (by repeat (first | (with_reducible exact Below.refl _ _) | (with_reducible refine Below.setCell ?_ ?_ _) | (with_reducible refine Below.alloc ?_ ?_ _) | (with_reducible refine Below.drewN ?_ _) | (with_reducible refine Below.drew ?_) | (with_reducible exact Nat.le_refl _) | (focus (simp only [World.size_alloc, World.size_setCell, World.size_drew, World.size_drewN]; omega)) | omega | exact Nat.le_refl _ | (focus (simp; done)) | (focus (simp; omega))))) HR.out (by decide)
set_option maxRecDepth 100000 in
set_option maxHeartbeats 4000000 in
theorem rdeed0_do (m N : Nat) (M : Nat → Prop) (st : Dk) (nm to : Nm) (b : List UInt8) (ab af : Option Addr) (cb lf cf : Nat) (an am pn : Int) (w : World) (h : RefAt w m M st) (hok : DkOk N st) (hN : N < 4096) (ha : st.armed ≠ 0) (hnm : nm.length ≤ maxLen) (hn : namedB nm = true) (hg : dirGet st.now nm = none) (hl : ¬ 64 ≤ st.now.length) :
    Calls Try.prog 47 #[(.pointer (some ⟨m, 0, none⟩)), .agg #[.int .i64 0, .string ⟨nm.toArray⟩, .string ⟨to.toArray⟩, .slice ab b.length cb, .int .i64 an, .int .i64 am, .int .i64 pn, .slice af lf cf]] w (RDeedOut w m M st (st.create nm)) := by
  have H := Lib.hid h
  have HOK := Lib.hid hok
  have HA := Lib.hid ha
  have HNM := Lib.hid hn
  have HR := Lib.hid (show st.create nm = (0, ({ st with files := st.files ++ [⟨[], 0⟩] } : Dk).turn ⟨0, [], nm, st.files.length⟩) by unfold Dk.create; rw [if_neg ha, if_neg (by rw [hn]; simp), if_neg (by rw [hg]; simp), if_neg hl])
  have HF := Lib.hid (findI_none hg)
  have hl2 : (st.now.length : Int) < 64 := by omega
  clear hn hg
  have hlen := hok.lnow
  obtain ⟨vn, vl, vd, vf, fs, hblk, hen, hel, hde, hfi, hfs, hM, hMr⟩ := h
  obtain ⟨na, nc, rfl⟩ := ownsRow_len hen
  obtain ⟨fa, fc, rfl⟩ := ownsRow_len hfi.1
  have HEN := Lib.hid hen
  have HEL := Lib.hid hel
  have HDE := Lib.hid hde
  have HFI := Lib.hid hfi
  have HFS := Lib.hid hfs
  have HBLK := Lib.hid hblk
  have HM := Lib.hid hM
  have HMR := Lib.hid hMr
  have hml := blk_lt hblk
  obtain ⟨c0, c1, c2, c3, c4, c5, cf⟩ := cells6 hblk
  have cf1 := cf 1
  have cf2 := cf 2
  have cf3 := cf 3
  have cf4 := cf 4
  clear hen hel hde hfi hfs hM hMr hblk hok ha cf
  go_enter Try.func47, Try.ntmps47
  go_wp2_with fail
  refine wp_region_now0 [3, 5] [(0, 0), (1, 0), (2, 0), (3, 2), (4, 0), (5, 2), (6, 1), (7, 0)] (by kernel_rfl) (by kernel_rfl) rfl (by kernel_rfl) ?_
  refine stepE0 rfl rfl (fun K hK => ?_)
  go_simp
  refine hK _ ?_
  clear hK K
  refine stepE0 rfl rfl (fun K hK => ?_)
  go_simp
  refine hK _ ?_
  clear hK K
  refine stepE0 rfl rfl (fun K hK => ?_)
  go_simp
  refine hK _ ?_
  clear hK K
  refine stepE2 rfl rfl ?_ (fun w1 hS => ?_) (fun K hK => ?_)
  rotate_left
  focus (obtain rfl : w1 = _ := hS; go_simp; rfl)
  go_simp
  refine hK _ ?_
  clear hK K
  refine stepE0 rfl rfl (fun K hK => ?_)
  go_simp
  refine hK _ ?_
  clear hK K
  refine stepE2 rfl rfl ?_ (fun w1 hS => ?_) (fun K hK => ?_)
  rotate_left
  focus (obtain rfl : w1 = _ := hS; go_simp; rfl)
  go_simp
  refine hK _ ?_
  clear hK K
  refine stepE1 rfl rfl (by kernel_rfl) (fun K hK => ?_)
  (go_wp2_with fail; refine Calls.mono (find07_any _ _ _ st.now nm _ rfl ((reads_of_owns HEN.out).below (by repeat (first | (with_reducible exact Below.refl _ _) | (with_reducible refine Below.setCell ?_ ?_ _) | (with_reducible refine Below.alloc ?_ ?_ _) | (with_reducible refine Below.drewN ?_ _) | (with_reducible refine Below.drew ?_) | (with_reducible exact Nat.le_refl _) | (focus (simp only [World.size_alloc, World.size_setCell, World.size_drew, World.size_drewN]; omega)) | omega | exact Nat.le_refl _ | (focus (simp; done)) | (focus (simp; omega))))) (by omega)) ?_; rintro e w2 ⟨rfl, rfl⟩; rw [HF.out]; go_wp2)
  refine stepE0 rfl rfl (fun K hK => ?_)
  go_simp
  refine hK _ ?_
  clear hK K
  try refine stepEnil0 ?_
  go_wp2_with fail
  refine (named07_any nm _ hnm).mono ?_
  rintro e w3 ⟨rfl, rfl⟩
  rw [HNM.out]
  go_upto_region 9 with fail
  have hne : Value.ownBlock (.slice fa fs.length fc) ≠ some m := fun e => by
    have h1 := hits_row HFI.out.1 m _ e HBLK.out
    exact absurd h1 (by show 64 + 1 ≠ 70 + 1; decide)
  have HNE := Lib.hid hne
  have hfn : fs.length ≤ 4096 := by have := HOK.out.nf; rw [← HFS.out, List.length_map] at this; omega
  obtain ⟨w1, hw1⟩ : ∃ w1, w1 = (w.alloc (.cells #[.int .i64 0, .string ⟨nm.toArray⟩, .string ⟨to.toArray⟩, .slice ab b.length cb, .int .i64 an, .int .i64 am, .int .i64 pn, .slice af lf cf] 53)).drew := ⟨_, rfl⟩
  have HB1 := Lib.hid (show Below w.heap.size w w1 by rw [hw1]; exact (by repeat (first | (with_reducible exact Below.refl _ _) | (with_reducible refine Below.setCell ?_ ?_ _) | (with_reducible refine Below.alloc ?_ ?_ _) | (with_reducible refine Below.drewN ?_ _) | (with_reducible refine Below.drew ?_) | (with_reducible exact Nat.le_refl _) | (focus (simp only [World.size_alloc, World.size_setCell, World.size_drew, World.size_drewN]; omega)) | omega | exact Nat.le_refl _ | (focus (simp; done)) | (focus (simp; omega)))))
  have hz1 : w1.heap.size = w.heap.size + 1 := by rw [hw1]; simp
  have hba : w1.heap[w.heap.size]? = some (.cells #[.int .i64 0, .string ⟨nm.toArray⟩, .string ⟨to.toArray⟩, .slice ab b.length cb, .int .i64 an, .int .i64 am, .int .i64 pn, .slice af lf cf] 53 (0, 0)) := by rw [hw1]; exact blk_drew7 (blk_new _ rfl)
  have hbm : w1.heap[m]? = some (.cells #[.int .i64 st.cap, .slice na st.now.length nc, vl, vd, .slice fa fs.length fc, .int .i64 st.armed] 64 (0, 0)) := blk_below HBLK.out HB1.out
  rw [← hw1]
  clear hw1 hne
  obtain ⟨s0, s1, s2, s3, s4, s5, sf⟩ := cells6 hbm
  have sf4 := sf 4
  have HBM := Lib.hid hbm
  have HBA := Lib.hid hba
  clear sf hbm hba
  obtain ⟨i0, hi, hi0, hi1, hi2⟩ := info_parts fileR_info
  have HI := Lib.hid hi
  have HI0 := Lib.hid hi0
  have HI1 := Lib.hid hi1
  have HI2 := Lib.hid hi2
  clear hi hi0 hi1 hi2
  go_wp2_with (at_builtin; refine wpList_append_lies _ rfl _ _ 62 rfl 0 70 i0 (.agg #[.slice none 0 0, .int .i64 0]) 2 32 Try.underlying62 HI.out HI0.out HI1.out HI2.out rfl (by decide) (.slice fa fs.length fc) fs.length (fs.flatMap fileRow) rfl ((ownsRow_below HFI.out.1 HB1.out).alloc _) ⟨w.heap.size + 1, 0, none⟩ 1 1 [.slice none 0 0, .int .i64 0] rfl rfl (World.news_of_block (cs := #[.slice none 0 0, .int .i64 0]) (t := 70) (fr := (0, 0)) (by have h9 := heap_alloc_new w1 (.cells #[.slice none 0 0, .int .i64 0] 70); rw [hz1] at h9; exact h9)) (by simp [Value.oneCell']) (by omega) (by unfold maxLen; omega) (by omega) (Nat.zero_le _) _ rfl ?_; intro g cap w3 hown3 hgrow3 hat3 hlt3; have hz3 := hgrow3.size; simp only [World.size_alloc] at hz3; have hm3 := (hgrow3.block m (by simp; omega) (fun e => HNE.out e.symm)).trans (by exact blk_alloc HBM.out _); have ha3 := (hgrow3.block w.heap.size (by simp; omega) (fun e => by have := (HFI.out.1.lt _ e.symm).2; omega)).trans (by exact blk_alloc HBA.out _); have HO3 := Lib.hid hown3; have HG3 := Lib.hid hgrow3; have HAT3 := Lib.hid hat3; clear hown3 hgrow3 hat3; have hml3 := blk_lt hm3; obtain ⟨t0, t1, t2, t3, t4, t5, tf⟩ := cells6 hm3; have tf4 := tf 4; clear tf)
  obtain ⟨w4, hw4⟩ : ∃ w4, w4 = w3.setCell ⟨m, 4, none⟩ (.slice (some ⟨g, 0, none⟩) (fs.length + 1) cap) := ⟨_, rfl⟩
  have hR := rfile_fin (cap := cap) HBLK.out HM.out HMR.out HEN.out HEL.out HDE.out HFI.out HFS.out HB1.out HG3.out (HAT3.out.imp id fun e => by simpa using e) HO3.out hm3
  rw [← hw4] at hR ⊢
  have hm4 : w4.heap[m]? = some (.cells #[.int .i64 st.cap, .slice na st.now.length nc, vl, vd, .slice (some ⟨g, 0, none⟩) (fs.length + 1) cap, .int .i64 st.armed] 64 (0, 0)) := by
    rw [hw4]
    simpa using blk_put hm3 4 (.slice (some ⟨g, 0, none⟩) (fs.length + 1) cap)
  have ha4 : w4.heap[w.heap.size]? = some (.cells #[.int .i64 0, .string ⟨nm.toArray⟩, .string ⟨to.toArray⟩, .slice ab b.length cb, .int .i64 an, .int .i64 am, .int .i64 pn, .slice af lf cf] 53 (0, 0)) := by
    rw [hw4]
    exact blk_set ha3 _ _ (by show w.heap.size ≠ m; omega)
  have hz4 : w4.heap.size = w3.heap.size := by rw [hw4]; simp
  have hml4 := blk_lt hm4
  obtain ⟨u0, u1, u2, u3, u4, u5, uf⟩ := cells6 hm4
  have d1 := cell_of_row _ _ 1 _ _ _ ha4
  simp at d1
  have HR4 := Lib.hid hR
  have hfe : ((fs.length : Int) + 1) - 1 = (fs.length : Int) := by omega
  clear hw4 hR hm3 ha3 t0 t1 t2 t3 t4 t5 tf4 s0 s1 s2 s3 s4 s5 sf4 uf hm4 ha4 c0 c1 c2 c3 c4 c5 cf1 cf2 cf3 cf4
  go_wp2_with fail
  refine wp_region_now0 [2, 6] [(0, 0), (1, 0), (2, 2), (3, 0), (4, 0), (5, 0), (6, 2), (7, 0), (8, 0), (9, 0), (10, 1)] (by kernel_rfl) (by kernel_rfl) rfl (by kernel_rfl) ?_
  refine stepE0 rfl rfl (fun K hK => ?_)
  go_simp
  refine hK _ ?_
  clear hK K
  refine stepE0 rfl rfl (fun K hK => ?_)
  go_simp
  refine hK _ ?_
  clear hK K
  refine stepE2 rfl rfl ?_ (fun w1 hS => ?_) (fun K hK => ?_)
  rotate_left
  focus (obtain rfl : w1 = _ := hS; go_simp; rfl)
  go_simp
  refine hK _ ?_
  clear hK K
  refine stepE0 rfl rfl (fun K hK => ?_)
  go_simp
  refine hK _ ?_
  clear hK K
  refine stepE0 rfl rfl (fun K hK => ?_)
  go_simp
  refine hK _ ?_
  clear hK K
  refine stepE0 rfl rfl (fun K hK => ?_)
  go_simp
  refine hK _ ?_
  clear hK K
  refine stepE2 rfl rfl ?_ (fun w1 hS => ?_) (fun K hK => ?_)
  rotate_left
  focus (obtain rfl : w1 = _ := hS; go_simp; rfl)
  go_simp
  refine hK _ ?_
  clear hK K
  refine stepE0 rfl rfl (fun K hK => ?_)
  go_simp
  refine hK _ ?_
  clear hK K
  refine stepE0 rfl rfl (fun K hK => ?_)
  go_simp
  refine hK _ ?_
  clear hK K
  refine stepE0 rfl rfl (fun K hK => ?_)
  go_simp
  refine hK _ ?_
  clear hK K
  refine stepE1 rfl rfl (by kernel_rfl) (fun K hK => ?_)
  (go_wp2_with fail; refine Calls.mono (rturn_any m (N + 1) _ { st with files := st.files ++ [⟨[], 0⟩] } ⟨0, [], nm, fs.length⟩ (by show (0 : Nat) ≤ 2; omega) _ (HR4.out.1.below (by repeat (first | (with_reducible exact Below.refl _ _) | (with_reducible refine Below.setCell ?_ ?_ _) | (with_reducible refine Below.alloc ?_ ?_ _) | (with_reducible refine Below.drewN ?_ _) | (with_reducible refine Below.drew ?_) | (with_reducible exact Nat.le_refl _) | (focus (simp only [World.size_alloc, World.size_setCell, World.size_drew, World.size_drewN]; omega)) | omega | exact Nat.le_refl _ | (focus (simp; done)) | (focus (simp; omega))))) HOK.out.newFile (by omega)) ?_; rintro e w5 ⟨rfl, h5⟩; have H5 := Lib.hid h5; clear h5; go_wp2)
  try refine stepEnil0 ?_
  go_wp2_with fail
  go_ret
  refine RDeedOut.yes (HR4.out.trans (H5.out.from (Below.drew (Below.refl _ _)))) rfl ?_
  rw [HR.out, ← HFS.out, List.length_map]
  rfl
set_option maxRecDepth 100000 in
set_option maxHeartbeats 4000000 in
theorem rdeed_3 (m N : Nat) (M : Nat → Prop) (st : Dk) (nm to : Nm) (b : List UInt8) (ab af : Option Addr) (cb lf cf : Nat) (an am pn : Int) (w : World) (h : RefAt w m M st) (hok : DkOk N st) (hN : N < 4096) (ha : st.armed ≠ 0) (hnm : nm.length ≤ maxLen)  :
    Calls Try.prog 47 #[(.pointer (some ⟨m, 0, none⟩)), .agg #[.int .i64 3, .string ⟨nm.toArray⟩, .string ⟨to.toArray⟩, .slice ab b.length cb, .int .i64 an, .int .i64 am, .int .i64 pn, .slice af lf cf]] w (RDeedOut w m M st (st.syncNames)) := by
  have H := Lib.hid h
  have HOK := Lib.hid hok
  have HA := Lib.hid ha
  have HR := Lib.hid (show st.syncNames = (0, ({ st with lasting := st.now, deeds := [] } : Dk).did) by unfold Dk.syncNames; rw [if_neg ha])
  obtain ⟨F, hF⟩ : ∃ F, F = findI st.now nm := ⟨_, rfl⟩
  have HF := Lib.hid hF.symm
  clear hF
  have hlen := hok.lnow
  obtain ⟨vn, vl, vd, vf, fs, hblk, hen, hel, hde, hfi, hfs, hM, hMr⟩ := h
  obtain ⟨na, nc, rfl⟩ := ownsRow_len hen
  have HEN := Lib.hid hen
  have HEL := Lib.hid hel
  have HDE := Lib.hid hde
  have HFI := Lib.hid hfi
  have HFS := Lib.hid hfs
  have HBLK := Lib.hid hblk
  have HM := Lib.hid hM
  have HMR := Lib.hid hMr
  have hml := blk_lt hblk
  obtain ⟨c0, c1, c2, c3, c4, c5, cf⟩ := cells6 hblk
  have cf1 := cf 1
  have cf2 := cf 2
  have cf3 := cf 3
  have cf4 := cf 4
  clear hen hel hde hfi hfs hM hMr hblk hok ha cf
  go_enter Try.func47, Try.ntmps47
  go_wp2_with fail
  refine wp_region_now0 [3, 5] [(0, 0), (1, 0), (2, 0), (3, 2), (4, 0), (5, 2), (6, 1), (7, 0)] (by kernel_rfl) (by kernel_rfl) rfl (by kernel_rfl) ?_
  refine stepE0 rfl rfl (fun K hK => ?_)
  go_simp
  refine hK _ ?_
  clear hK K
  refine stepE0 rfl rfl (fun K hK => ?_)
  go_simp
  refine hK _ ?_
  clear hK K
  refine stepE0 rfl rfl (fun K hK => ?_)
  go_simp
  refine hK _ ?_
  clear hK K
  refine stepE2 rfl rfl ?_ (fun w1 hS => ?_) (fun K hK => ?_)
  rotate_left
  focus (obtain rfl : w1 = _ := hS; go_simp; rfl)
  go_simp
  refine hK _ ?_
  clear hK K
  refine stepE0 rfl rfl (fun K hK => ?_)
  go_simp
  refine hK _ ?_
  clear hK K
  refine stepE2 rfl rfl ?_ (fun w1 hS => ?_) (fun K hK => ?_)
  rotate_left
  focus (obtain rfl : w1 = _ := hS; go_simp; rfl)
  go_simp
  refine hK _ ?_
  clear hK K
  refine stepE1 rfl rfl (by kernel_rfl) (fun K hK => ?_)
  (go_wp2_with fail; refine Calls.mono (find07_any _ _ _ st.now nm _ rfl ((reads_of_owns HEN.out).below (by repeat (first | (with_reducible exact Below.refl _ _) | (with_reducible refine Below.setCell ?_ ?_ _) | (with_reducible refine Below.alloc ?_ ?_ _) | (with_reducible refine Below.drewN ?_ _) | (with_reducible refine Below.drew ?_) | (with_reducible exact Nat.le_refl _) | (focus (simp only [World.size_alloc, World.size_setCell, World.size_drew, World.size_drewN]; omega)) | omega | exact Nat.le_refl _ | (focus (simp; done)) | (focus (simp; omega))))) (by omega)) ?_; rintro e w2 ⟨rfl, rfl⟩; rw [HF.out]; go_wp2)
  refine stepE0 rfl rfl (fun K hK => ?_)
  go_simp
  refine hK _ ?_
  clear hK K
  try refine stepEnil0 ?_
  go_wp2_with fail
  go_ret
  refine RDeedOut.yes (st := st) (s := { st with lasting := st.now, deeds := [] }) ?_ rfl HR.out
  have hR := rfix (st' := { st with lasting := st.now, deeds := [] }) (w' := (w.setCell ⟨m, 2, none⟩ (.slice na st.now.length nc)).setCell ⟨m, 3, none⟩ (.slice none 0 0)) HBLK.out rfl ((keeps_set 2 _).trans (keeps_set 3 _) fun _ _ e => e) (by simpa using blk_put (blk_put HBLK.out 2 (.slice na st.now.length nc)) 3 (.slice none 0 0)) HEN.out HEN.out (World.ownsRow_nil _ _ _ _)
    HFI.out HFS.out HM.out (fun k e => by
      rcases e with e | e | e | e
      · exact HMR.out k (.inl e)
      · exact HMR.out k (.inl e)
      · cases e
      · exact HMR.out k (.inr (.inr (.inr e))))
  exact RTo.after hR (by repeat (first | (with_reducible exact Below.refl _ _) | (with_reducible refine Below.setCell ?_ ?_ _) | (with_reducible refine Below.alloc ?_ ?_ _) | (with_reducible refine Below.drewN ?_ _) | (with_reducible refine Below.drew ?_) | (with_reducible exact Nat.le_refl _) | (focus (simp only [World.size_alloc, World.size_setCell, World.size_drew, World.size_drewN]; omega)) | omega | exact Nat.le_refl _ | (focus (simp; done)) | (focus (simp; omega))))
set_option maxRecDepth 100000 in
set_option maxHeartbeats 4000000 in
theorem rdeed1_none (m N : Nat) (M : Nat → Prop) (st : Dk) (nm to : Nm) (b : List UInt8) (ab af : Option Addr) (cb lf cf : Nat) (an am pn : Int) (w : World) (h : RefAt w m M st) (hok : DkOk N st) (hN : N < 4096) (ha : st.armed ≠ 0) (hnm : nm.length ≤ maxLen) (hg : dirGet st.now nm = none) :
    Calls Try.prog 47 #[(.pointer (some ⟨m, 0, none⟩)), .agg #[.int .i64 1, .string ⟨nm.toArray⟩, .string ⟨to.toArray⟩, .slice ab b.length cb, .int .i64 an, .int .i64 am, .int .i64 pn, .slice af lf cf]] w (RDeedOut w m M st (st.append nm b)) := by
  have H := Lib.hid h
  have HOK := Lib.hid hok
  have HA := Lib.hid ha
  have HR := Lib.hid (show st.append nm b = (6, st) by unfold Dk.append; rw [fnd_none ha hg]; rfl)
  have HF := Lib.hid (findI_none hg)
  clear hg
  have hlen := hok.lnow
  obtain ⟨vn, vl, vd, vf, fs, hblk, hen, hel, hde, hfi, hfs, hM, hMr⟩ := h
  obtain ⟨na, nc, rfl⟩ := ownsRow_len hen
  have HEN := Lib.hid hen
  have HEL := Lib.hid hel
  have HDE := Lib.hid hde
  have HFI := Lib.hid hfi
  have HFS := Lib.hid hfs
  have HBLK := Lib.hid hblk
  have HM := Lib.hid hM
  have HMR := Lib.hid hMr
  have hml := blk_lt hblk
  obtain ⟨c0, c1, c2, c3, c4, c5, cf⟩ := cells6 hblk
  have cf1 := cf 1
  have cf2 := cf 2
  have cf3 := cf 3
  have cf4 := cf 4
  clear hen hel hde hfi hfs hM hMr hblk hok ha cf
  go_enter Try.func47, Try.ntmps47
  go_wp2_with fail
  refine wp_region_now0 [3, 5] [(0, 0), (1, 0), (2, 0), (3, 2), (4, 0), (5, 2), (6, 1), (7, 0)] (by kernel_rfl) (by kernel_rfl) rfl (by kernel_rfl) ?_
  refine stepE0 rfl rfl (fun K hK => ?_)
  go_simp
  refine hK _ ?_
  clear hK K
  refine stepE0 rfl rfl (fun K hK => ?_)
  go_simp
  refine hK _ ?_
  clear hK K
  refine stepE0 rfl rfl (fun K hK => ?_)
  go_simp
  refine hK _ ?_
  clear hK K
  refine stepE2 rfl rfl ?_ (fun w1 hS => ?_) (fun K hK => ?_)
  rotate_left
  focus (obtain rfl : w1 = _ := hS; go_simp; rfl)
  go_simp
  refine hK _ ?_
  clear hK K
  refine stepE0 rfl rfl (fun K hK => ?_)
  go_simp
  refine hK _ ?_
  clear hK K
  refine stepE2 rfl rfl ?_ (fun w1 hS => ?_) (fun K hK => ?_)
  rotate_left
  focus (obtain rfl : w1 = _ := hS; go_simp; rfl)
  go_simp
  refine hK _ ?_
  clear hK K
  refine stepE1 rfl rfl (by kernel_rfl) (fun K hK => ?_)
  (go_wp2_with fail; refine Calls.mono (find07_any _ _ _ st.now nm _ rfl ((reads_of_owns HEN.out).below (by repeat (first | (with_reducible exact Below.refl _ _) | (with_reducible refine Below.setCell ?_ ?_ _) | (with_reducible refine Below.alloc ?_ ?_ _) | (with_reducible refine Below.drewN ?_ _) | (with_reducible refine Below.drew ?_) | (with_reducible exact Nat.le_refl _) | (focus (simp only [World.size_alloc, World.size_setCell, World.size_drew, World.size_drewN]; omega)) | omega | exact Nat.le_refl _ | (focus (simp; done)) | (focus (simp; omega))))) (by omega)) ?_; rintro e w2 ⟨rfl, rfl⟩; rw [HF.out]; go_wp2)
  refine stepE0 rfl rfl (fun K hK => ?_)
  go_simp
  refine hK _ ?_
  clear hK K
  try refine stepEnil0 ?_
  go_wp2_with fail
  go_ret
  exact RDeedOut.no (RTo.below H.out (by repeat (first | (with_reducible exact Below.refl _ _) | (with_reducible refine Below.setCell ?_ ?_ _) | (with_reducible refine Below.alloc ?_ ?_ _) | (with_reducible refine Below.drewN ?_ _) | (with_reducible refine Below.drew ?_) | (with_reducible exact Nat.le_refl _) | (focus (simp only [World.size_alloc, World.size_setCell, World.size_drew, World.size_drewN]; omega)) | omega | exact Nat.le_refl _ | (focus (simp; done)) | (focus (simp; omega))))) HR.out (by decide)
set_option maxRecDepth 100000 in
set_option maxHeartbeats 4000000 in
theorem rdeed2_none (m N : Nat) (M : Nat → Prop) (st : Dk) (nm to : Nm) (b : List UInt8) (ab af : Option Addr) (cb lf cf : Nat) (an am pn : Int) (w : World) (h : RefAt w m M st) (hok : DkOk N st) (hN : N < 4096) (ha : st.armed ≠ 0) (hnm : nm.length ≤ maxLen) (hg : dirGet st.now nm = none) :
    Calls Try.prog 47 #[(.pointer (some ⟨m, 0, none⟩)), .agg #[.int .i64 2, .string ⟨nm.toArray⟩, .string ⟨to.toArray⟩, .slice ab b.length cb, .int .i64 an, .int .i64 am, .int .i64 pn, .slice af lf cf]] w (RDeedOut w m M st (st.sync nm)) := by
  have H := Lib.hid h
  have HOK := Lib.hid hok
  have HA := Lib.hid ha
  have HR := Lib.hid (show st.sync nm = (6, st) by unfold Dk.sync; rw [fnd_none ha hg]; rfl)
  have HF := Lib.hid (findI_none hg)
  clear hg
  have hlen := hok.lnow
  obtain ⟨vn, vl, vd, vf, fs, hblk, hen, hel, hde, hfi, hfs, hM, hMr⟩ := h
  obtain ⟨na, nc, rfl⟩ := ownsRow_len hen
  have HEN := Lib.hid hen
  have HEL := Lib.hid hel
  have HDE := Lib.hid hde
  have HFI := Lib.hid hfi
  have HFS := Lib.hid hfs
  have HBLK := Lib.hid hblk
  have HM := Lib.hid hM
  have HMR := Lib.hid hMr
  have hml := blk_lt hblk
  obtain ⟨c0, c1, c2, c3, c4, c5, cf⟩ := cells6 hblk
  have cf1 := cf 1
  have cf2 := cf 2
  have cf3 := cf 3
  have cf4 := cf 4
  clear hen hel hde hfi hfs hM hMr hblk hok ha cf
  go_enter Try.func47, Try.ntmps47
  go_wp2_with fail
  refine wp_region_now0 [3, 5] [(0, 0), (1, 0), (2, 0), (3, 2), (4, 0), (5, 2), (6, 1), (7, 0)] (by kernel_rfl) (by kernel_rfl) rfl (by kernel_rfl) ?_
  refine stepE0 rfl rfl (fun K hK => ?_)
  go_simp
  refine hK _ ?_
  clear hK K
  refine stepE0 rfl rfl (fun K hK => ?_)
  go_simp
  refine hK _ ?_
  clear hK K
  refine stepE0 rfl rfl (fun K hK => ?_)
  go_simp
  refine hK _ ?_
  clear hK K
  refine stepE2 rfl rfl ?_ (fun w1 hS => ?_) (fun K hK => ?_)
  rotate_left
  focus (obtain rfl : w1 = _ := hS; go_simp; rfl)
  go_simp
  refine hK _ ?_
  clear hK K
  refine stepE0 rfl rfl (fun K hK => ?_)
  go_simp
  refine hK _ ?_
  clear hK K
  refine stepE2 rfl rfl ?_ (fun w1 hS => ?_) (fun K hK => ?_)
  rotate_left
  focus (obtain rfl : w1 = _ := hS; go_simp; rfl)
  go_simp
  refine hK _ ?_
  clear hK K
  refine stepE1 rfl rfl (by kernel_rfl) (fun K hK => ?_)
  (go_wp2_with fail; refine Calls.mono (find07_any _ _ _ st.now nm _ rfl ((reads_of_owns HEN.out).below (by repeat (first | (with_reducible exact Below.refl _ _) | (with_reducible refine Below.setCell ?_ ?_ _) | (with_reducible refine Below.alloc ?_ ?_ _) | (with_reducible refine Below.drewN ?_ _) | (with_reducible refine Below.drew ?_) | (with_reducible exact Nat.le_refl _) | (focus (simp only [World.size_alloc, World.size_setCell, World.size_drew, World.size_drewN]; omega)) | omega | exact Nat.le_refl _ | (focus (simp; done)) | (focus (simp; omega))))) (by omega)) ?_; rintro e w2 ⟨rfl, rfl⟩; rw [HF.out]; go_wp2)
  refine stepE0 rfl rfl (fun K hK => ?_)
  go_simp
  refine hK _ ?_
  clear hK K
  try refine stepEnil0 ?_
  go_wp2_with fail
  go_ret
  exact RDeedOut.no (RTo.below H.out (by repeat (first | (with_reducible exact Below.refl _ _) | (with_reducible refine Below.setCell ?_ ?_ _) | (with_reducible refine Below.alloc ?_ ?_ _) | (with_reducible refine Below.drewN ?_ _) | (with_reducible refine Below.drew ?_) | (with_reducible exact Nat.le_refl _) | (focus (simp only [World.size_alloc, World.size_setCell, World.size_drew, World.size_drewN]; omega)) | omega | exact Nat.le_refl _ | (focus (simp; done)) | (focus (simp; omega))))) HR.out (by decide)
set_option maxRecDepth 100000 in
set_option maxHeartbeats 4000000 in
theorem rdeed4_none (m N : Nat) (M : Nat → Prop) (st : Dk) (nm to : Nm) (b : List UInt8) (ab af : Option Addr) (cb lf cf : Nat) (an am pn : Int) (w : World) (h : RefAt w m M st) (hok : DkOk N st) (hN : N < 4096) (ha : st.armed ≠ 0) (hnm : nm.length ≤ maxLen) (hg : dirGet st.now nm = none) :
    Calls Try.prog 47 #[(.pointer (some ⟨m, 0, none⟩)), .agg #[.int .i64 4, .string ⟨nm.toArray⟩, .string ⟨to.toArray⟩, .slice ab b.length cb, .int .i64 an, .int .i64 am, .int .i64 pn, .slice af lf cf]] w (RDeedOut w m M st (st.rename nm to)) := by
  have H := Lib.hid h
  have HOK := Lib.hid hok
  have HA := Lib.hid ha
  have HR := Lib.hid (show st.rename nm to = (6, st) by unfold Dk.rename; rw [fnd_none ha hg]; rfl)
  have HF := Lib.hid (findI_none hg)
  clear hg
  have hlen := hok.lnow
  obtain ⟨vn, vl, vd, vf, fs, hblk, hen, hel, hde, hfi, hfs, hM, hMr⟩ := h
  obtain ⟨na, nc, rfl⟩ := ownsRow_len hen
  have HEN := Lib.hid hen
  have HEL := Lib.hid hel
  have HDE := Lib.hid hde
  have HFI := Lib.hid hfi
  have HFS := Lib.hid hfs
  have HBLK := Lib.hid hblk
  have HM := Lib.hid hM
  have HMR := Lib.hid hMr
  have hml := blk_lt hblk
  obtain ⟨c0, c1, c2, c3, c4, c5, cf⟩ := cells6 hblk
  have cf1 := cf 1
  have cf2 := cf 2
  have cf3 := cf 3
  have cf4 := cf 4
  clear hen hel hde hfi hfs hM hMr hblk hok ha cf
  go_enter Try.func47, Try.ntmps47
  go_wp2_with fail
  refine wp_region_now0 [3, 5] [(0, 0), (1, 0), (2, 0), (3, 2), (4, 0), (5, 2), (6, 1), (7, 0)] (by kernel_rfl) (by kernel_rfl) rfl (by kernel_rfl) ?_
  refine stepE0 rfl rfl (fun K hK => ?_)
  go_simp
  refine hK _ ?_
  clear hK K
  refine stepE0 rfl rfl (fun K hK => ?_)
  go_simp
  refine hK _ ?_
  clear hK K
  refine stepE0 rfl rfl (fun K hK => ?_)
  go_simp
  refine hK _ ?_
  clear hK K
  refine stepE2 rfl rfl ?_ (fun w1 hS => ?_) (fun K hK => ?_)
  rotate_left
  focus (obtain rfl : w1 = _ := hS; go_simp; rfl)
  go_simp
  refine hK _ ?_
  clear hK K
  refine stepE0 rfl rfl (fun K hK => ?_)
  go_simp
  refine hK _ ?_
  clear hK K
  refine stepE2 rfl rfl ?_ (fun w1 hS => ?_) (fun K hK => ?_)
  rotate_left
  focus (obtain rfl : w1 = _ := hS; go_simp; rfl)
  go_simp
  refine hK _ ?_
  clear hK K
  refine stepE1 rfl rfl (by kernel_rfl) (fun K hK => ?_)
  (go_wp2_with fail; refine Calls.mono (find07_any _ _ _ st.now nm _ rfl ((reads_of_owns HEN.out).below (by repeat (first | (with_reducible exact Below.refl _ _) | (with_reducible refine Below.setCell ?_ ?_ _) | (with_reducible refine Below.alloc ?_ ?_ _) | (with_reducible refine Below.drewN ?_ _) | (with_reducible refine Below.drew ?_) | (with_reducible exact Nat.le_refl _) | (focus (simp only [World.size_alloc, World.size_setCell, World.size_drew, World.size_drewN]; omega)) | omega | exact Nat.le_refl _ | (focus (simp; done)) | (focus (simp; omega))))) (by omega)) ?_; rintro e w2 ⟨rfl, rfl⟩; rw [HF.out]; go_wp2)
  refine stepE0 rfl rfl (fun K hK => ?_)
  go_simp
  refine hK _ ?_
  clear hK K
  try refine stepEnil0 ?_
  go_wp2_with fail
  go_ret
  exact RDeedOut.no (RTo.below H.out (by repeat (first | (with_reducible exact Below.refl _ _) | (with_reducible refine Below.setCell ?_ ?_ _) | (with_reducible refine Below.alloc ?_ ?_ _) | (with_reducible refine Below.drewN ?_ _) | (with_reducible refine Below.drew ?_) | (with_reducible exact Nat.le_refl _) | (focus (simp only [World.size_alloc, World.size_setCell, World.size_drew, World.size_drewN]; omega)) | omega | exact Nat.le_refl _ | (focus (simp; done)) | (focus (simp; omega))))) HR.out (by decide)
set_option maxRecDepth 100000 in
set_option maxHeartbeats 4000000 in
theorem rdeed5_none (m N : Nat) (M : Nat → Prop) (st : Dk) (nm to : Nm) (b : List UInt8) (ab af : Option Addr) (cb lf cf : Nat) (an am pn : Int) (w : World) (h : RefAt w m M st) (hok : DkOk N st) (hN : N < 4096) (ha : st.armed ≠ 0) (hnm : nm.length ≤ maxLen) (hg : dirGet st.now nm = none) :
    Calls Try.prog 47 #[(.pointer (some ⟨m, 0, none⟩)), .agg #[.int .i64 5, .string ⟨nm.toArray⟩, .string ⟨to.toArray⟩, .slice ab b.length cb, .int .i64 an, .int .i64 am, .int .i64 pn, .slice af lf cf]] w (RDeedOut w m M st (st.remove nm)) := by
  have H := Lib.hid h
  have HOK := Lib.hid hok
  have HA := Lib.hid ha
  have HR := Lib.hid (show st.remove nm = (6, st) by unfold Dk.remove; rw [fnd_none ha hg]; rfl)
  have HF := Lib.hid (findI_none hg)
  clear hg
  have hlen := hok.lnow
  obtain ⟨vn, vl, vd, vf, fs, hblk, hen, hel, hde, hfi, hfs, hM, hMr⟩ := h
  obtain ⟨na, nc, rfl⟩ := ownsRow_len hen
  have HEN := Lib.hid hen
  have HEL := Lib.hid hel
  have HDE := Lib.hid hde
  have HFI := Lib.hid hfi
  have HFS := Lib.hid hfs
  have HBLK := Lib.hid hblk
  have HM := Lib.hid hM
  have HMR := Lib.hid hMr
  have hml := blk_lt hblk
  obtain ⟨c0, c1, c2, c3, c4, c5, cf⟩ := cells6 hblk
  have cf1 := cf 1
  have cf2 := cf 2
  have cf3 := cf 3
  have cf4 := cf 4
  clear hen hel hde hfi hfs hM hMr hblk hok ha cf
  go_enter Try.func47, Try.ntmps47
  go_wp2_with fail
  refine wp_region_now0 [3, 5] [(0, 0), (1, 0), (2, 0), (3, 2), (4, 0), (5, 2), (6, 1), (7, 0)] (by kernel_rfl) (by kernel_rfl) rfl (by kernel_rfl) ?_
  refine stepE0 rfl rfl (fun K hK => ?_)
  go_simp
  refine hK _ ?_
  clear hK K
  refine stepE0 rfl rfl (fun K hK => ?_)
  go_simp
  refine hK _ ?_
  clear hK K
  refine stepE0 rfl rfl (fun K hK => ?_)
  go_simp
  refine hK _ ?_
  clear hK K
  refine stepE2 rfl rfl ?_ (fun w1 hS => ?_) (fun K hK => ?_)
  rotate_left
  focus (obtain rfl : w1 = _ := hS; go_simp; rfl)
  go_simp
  refine hK _ ?_
  clear hK K
  refine stepE0 rfl rfl (fun K hK => ?_)
  go_simp
  refine hK _ ?_
  clear hK K
  refine stepE2 rfl rfl ?_ (fun w1 hS => ?_) (fun K hK => ?_)
  rotate_left
  focus (obtain rfl : w1 = _ := hS; go_simp; rfl)
  go_simp
  refine hK _ ?_
  clear hK K
  refine stepE1 rfl rfl (by kernel_rfl) (fun K hK => ?_)
  (go_wp2_with fail; refine Calls.mono (find07_any _ _ _ st.now nm _ rfl ((reads_of_owns HEN.out).below (by repeat (first | (with_reducible exact Below.refl _ _) | (with_reducible refine Below.setCell ?_ ?_ _) | (with_reducible refine Below.alloc ?_ ?_ _) | (with_reducible refine Below.drewN ?_ _) | (with_reducible refine Below.drew ?_) | (with_reducible exact Nat.le_refl _) | (focus (simp only [World.size_alloc, World.size_setCell, World.size_drew, World.size_drewN]; omega)) | omega | exact Nat.le_refl _ | (focus (simp; done)) | (focus (simp; omega))))) (by omega)) ?_; rintro e w2 ⟨rfl, rfl⟩; rw [HF.out]; go_wp2)
  refine stepE0 rfl rfl (fun K hK => ?_)
  go_simp
  refine hK _ ?_
  clear hK K
  try refine stepEnil0 ?_
  go_wp2_with fail
  go_ret
  exact RDeedOut.no (RTo.below H.out (by repeat (first | (with_reducible exact Below.refl _ _) | (with_reducible refine Below.setCell ?_ ?_ _) | (with_reducible refine Below.alloc ?_ ?_ _) | (with_reducible refine Below.drewN ?_ _) | (with_reducible refine Below.drew ?_) | (with_reducible exact Nat.le_refl _) | (focus (simp only [World.size_alloc, World.size_setCell, World.size_drew, World.size_drewN]; omega)) | omega | exact Nat.le_refl _ | (focus (simp; done)) | (focus (simp; omega))))) HR.out (by decide)
set_option maxRecDepth 100000 in
set_option maxHeartbeats 4000000 in
theorem rdeed6_none (m N : Nat) (M : Nat → Prop) (st : Dk) (nm to : Nm) (b : List UInt8) (ab af : Option Addr) (cb lf cf : Nat) (an am pn : Int) (w : World) (h : RefAt w m M st) (hok : DkOk N st) (hN : N < 4096) (ha : st.armed ≠ 0) (hnm : nm.length ≤ maxLen) (hg : dirGet st.now nm = none) :
    Calls Try.prog 47 #[(.pointer (some ⟨m, 0, none⟩)), .agg #[.int .i64 6, .string ⟨nm.toArray⟩, .string ⟨to.toArray⟩, .slice ab b.length cb, .int .i64 an, .int .i64 am, .int .i64 pn, .slice af lf cf]] w (RDeedOut w m M st (st.cut nm an)) := by
  have H := Lib.hid h
  have HOK := Lib.hid hok
  have HA := Lib.hid ha
  have HR := Lib.hid (show st.cut nm an = (6, st) by unfold Dk.cut; rw [fnd_none ha hg]; rfl)
  have HF := Lib.hid (findI_none hg)
  clear hg
  have hlen := hok.lnow
  obtain ⟨vn, vl, vd, vf, fs, hblk, hen, hel, hde, hfi, hfs, hM, hMr⟩ := h
  obtain ⟨na, nc, rfl⟩ := ownsRow_len hen
  have HEN := Lib.hid hen
  have HEL := Lib.hid hel
  have HDE := Lib.hid hde
  have HFI := Lib.hid hfi
  have HFS := Lib.hid hfs
  have HBLK := Lib.hid hblk
  have HM := Lib.hid hM
  have HMR := Lib.hid hMr
  have hml := blk_lt hblk
  obtain ⟨c0, c1, c2, c3, c4, c5, cf⟩ := cells6 hblk
  have cf1 := cf 1
  have cf2 := cf 2
  have cf3 := cf 3
  have cf4 := cf 4
  clear hen hel hde hfi hfs hM hMr hblk hok ha cf
  go_enter Try.func47, Try.ntmps47
  go_wp2_with fail
  refine wp_region_now0 [3, 5] [(0, 0), (1, 0), (2, 0), (3, 2), (4, 0), (5, 2), (6, 1), (7, 0)] (by kernel_rfl) (by kernel_rfl) rfl (by kernel_rfl) ?_
  refine stepE0 rfl rfl (fun K hK => ?_)
  go_simp
  refine hK _ ?_
  clear hK K
  refine stepE0 rfl rfl (fun K hK => ?_)
  go_simp
  refine hK _ ?_
  clear hK K
  refine stepE0 rfl rfl (fun K hK => ?_)
  go_simp
  refine hK _ ?_
  clear hK K
  refine stepE2 rfl rfl ?_ (fun w1 hS => ?_) (fun K hK => ?_)
  rotate_left
  focus (obtain rfl : w1 = _ := hS; go_simp; rfl)
  go_simp
  refine hK _ ?_
  clear hK K
  refine stepE0 rfl rfl (fun K hK => ?_)
  go_simp
  refine hK _ ?_
  clear hK K
  refine stepE2 rfl rfl ?_ (fun w1 hS => ?_) (fun K hK => ?_)
  rotate_left
  focus (obtain rfl : w1 = _ := hS; go_simp; rfl)
  go_simp
  refine hK _ ?_
  clear hK K
  refine stepE1 rfl rfl (by kernel_rfl) (fun K hK => ?_)
  (go_wp2_with fail; refine Calls.mono (find07_any _ _ _ st.now nm _ rfl ((reads_of_owns HEN.out).below (by repeat (first | (with_reducible exact Below.refl _ _) | (with_reducible refine Below.setCell ?_ ?_ _) | (with_reducible refine Below.alloc ?_ ?_ _) | (with_reducible refine Below.drewN ?_ _) | (with_reducible refine Below.drew ?_) | (with_reducible exact Nat.le_refl _) | (focus (simp only [World.size_alloc, World.size_setCell, World.size_drew, World.size_drewN]; omega)) | omega | exact Nat.le_refl _ | (focus (simp; done)) | (focus (simp; omega))))) (by omega)) ?_; rintro e w2 ⟨rfl, rfl⟩; rw [HF.out]; go_wp2)
  refine stepE0 rfl rfl (fun K hK => ?_)
  go_simp
  refine hK _ ?_
  clear hK K
  try refine stepEnil0 ?_
  go_wp2_with fail
  go_ret
  exact RDeedOut.no (RTo.below H.out (by repeat (first | (with_reducible exact Below.refl _ _) | (with_reducible refine Below.setCell ?_ ?_ _) | (with_reducible refine Below.alloc ?_ ?_ _) | (with_reducible refine Below.drewN ?_ _) | (with_reducible refine Below.drew ?_) | (with_reducible exact Nat.le_refl _) | (focus (simp only [World.size_alloc, World.size_setCell, World.size_drew, World.size_drewN]; omega)) | omega | exact Nat.le_refl _ | (focus (simp; done)) | (focus (simp; omega))))) HR.out (by decide)
set_option maxRecDepth 100000 in
set_option maxHeartbeats 4000000 in
theorem rdeed4_arg (m N : Nat) (M : Nat → Prop) (st : Dk) (nm to : Nm) (b : List UInt8) (ab af : Option Addr) (cb lf cf : Nat) (an am pn : Int) (w : World) (h : RefAt w m M st) (hok : DkOk N st) (hN : N < 4096) (ha : st.armed ≠ 0) (hnm : nm.length ≤ maxLen) (f : Nat) (hg : dirGet st.now nm = some f) (hto : to.length ≤ maxLen) (hn : namedB to = false) :
    Calls Try.prog 47 #[(.pointer (some ⟨m, 0, none⟩)), .agg #[.int .i64 4, .string ⟨nm.toArray⟩, .string ⟨to.toArray⟩, .slice ab b.length cb, .int .i64 an, .int .i64 am, .int .i64 pn, .slice af lf cf]] w (RDeedOut w m M st (st.rename nm to)) := by
  have H := Lib.hid h
  have HOK := Lib.hid hok
  have HA := Lib.hid ha
  have HR := Lib.hid (show st.rename nm to = (1, st) by unfold Dk.rename; rw [fnd_some ha hg, if_neg (by simp), if_pos hn])
  have HNM := Lib.hid hn
  have HF := Lib.hid (findI_some hg)
  have hf0 : (0 : Int) ≤ (f : Int) := by omega
  have hfl : f < st.files.length := hok.fnow _ (get_mem hg)
  have HFL := Lib.hid hfl
  clear hg hfl hn
  have hlen := hok.lnow
  obtain ⟨vn, vl, vd, vf, fs, hblk, hen, hel, hde, hfi, hfs, hM, hMr⟩ := h
  obtain ⟨na, nc, rfl⟩ := ownsRow_len hen
  have HEN := Lib.hid hen
  have HEL := Lib.hid hel
  have HDE := Lib.hid hde
  have HFI := Lib.hid hfi
  have HFS := Lib.hid hfs
  have HBLK := Lib.hid hblk
  have HM := Lib.hid hM
  have HMR := Lib.hid hMr
  have hml := blk_lt hblk
  obtain ⟨c0, c1, c2, c3, c4, c5, cf⟩ := cells6 hblk
  have cf1 := cf 1
  have cf2 := cf 2
  have cf3 := cf 3
  have cf4 := cf 4
  clear hen hel hde hfi hfs hM hMr hblk hok ha cf
  go_enter Try.func47, Try.ntmps47
  go_wp2_with fail
  refine wp_region_now0 [3, 5] [(0, 0), (1, 0), (2, 0), (3, 2), (4, 0), (5, 2), (6, 1), (7, 0)] (by kernel_rfl) (by kernel_rfl) rfl (by kernel_rfl) ?_
  refine stepE0 rfl rfl (fun K hK => ?_)
  go_simp
  refine hK _ ?_
  clear hK K
  refine stepE0 rfl rfl (fun K hK => ?_)
  go_simp
  refine hK _ ?_
  clear hK K
  refine stepE0 rfl rfl (fun K hK => ?_)
  go_simp
  refine hK _ ?_
  clear hK K
  refine stepE2 rfl rfl ?_ (fun w1 hS => ?_) (fun K hK => ?_)
  rotate_left
  focus (obtain rfl : w1 = _ := hS; go_simp; rfl)
  go_simp
  refine hK _ ?_
  clear hK K
  refine stepE0 rfl rfl (fun K hK => ?_)
  go_simp
  refine hK _ ?_
  clear hK K
  refine stepE2 rfl rfl ?_ (fun w1 hS => ?_) (fun K hK => ?_)
  rotate_left
  focus (obtain rfl : w1 = _ := hS; go_simp; rfl)
  go_simp
  refine hK _ ?_
  clear hK K
  refine stepE1 rfl rfl (by kernel_rfl) (fun K hK => ?_)
  (go_wp2_with fail; refine Calls.mono (find07_any _ _ _ st.now nm _ rfl ((reads_of_owns HEN.out).below (by repeat (first | (with_reducible exact Below.refl _ _) | (with_reducible refine Below.setCell ?_ ?_ _) | (with_reducible refine Below.alloc ?_ ?_ _) | (with_reducible refine Below.drewN ?_ _) | (with_reducible refine Below.drew ?_) | (with_reducible exact Nat.le_refl _) | (focus (simp only [World.size_alloc, World.size_setCell, World.size_drew, World.size_drewN]; omega)) | omega | exact Nat.le_refl _ | (focus (simp; done)) | (focus (simp; omega))))) (by omega)) ?_; rintro e w2 ⟨rfl, rfl⟩; rw [HF.out]; go_wp2)
  refine stepE0 rfl rfl (fun K hK => ?_)
  go_simp
  refine hK _ ?_
  clear hK K
  try refine stepEnil0 ?_
  go_wp2_with fail
  refine (named07_any to _ hto).mono ?_
  rintro e w3 ⟨rfl, rfl⟩
  rw [HNM.out]
  go_wp2_with fail
  go_ret
  exact RDeedOut.no (RTo.below H.out (by repeat (first | (with_reducible exact Below.refl _ _) | (with_reducible refine Below.setCell ?_ ?_ _) | (with_reducible refine Below.alloc ?_ ?_ _) | (with_reducible refine Below.drewN ?_ _) | (with_reducible refine Below.drew ?_) | (with_reducible exact Nat.le_refl _) | (focus (simp only [World.size_alloc, World.size_setCell, World.size_drew, World.size_drewN]; omega)) | omega | exact Nat.le_refl _ | (focus (simp; done)) | (focus (simp; omega))))) HR.out (by decide)
set_option maxRecDepth 100000 in
set_option maxHeartbeats 4000000 in
theorem rdeed4_do (m N : Nat) (M : Nat → Prop) (st : Dk) (nm to : Nm) (b : List UInt8) (ab af : Option Addr) (cb lf cf : Nat) (an am pn : Int) (w : World) (h : RefAt w m M st) (hok : DkOk N st) (hN : N < 4096) (ha : st.armed ≠ 0) (hnm : nm.length ≤ maxLen) (f : Nat) (hg : dirGet st.now nm = some f) (hto : to.length ≤ maxLen) (hn : namedB to = true) :
    Calls Try.prog 47 #[(.pointer (some ⟨m, 0, none⟩)), .agg #[.int .i64 4, .string ⟨nm.toArray⟩, .string ⟨to.toArray⟩, .slice ab b.length cb, .int .i64 an, .int .i64 am, .int .i64 pn, .slice af lf cf]] w (RDeedOut w m M st (st.rename nm to)) := by
  have H := Lib.hid h
  have HOK := Lib.hid hok
  have HA := Lib.hid ha
  have HR := Lib.hid (show st.rename nm to = (0, st.turn ⟨1, nm, to, f⟩) by unfold Dk.rename; rw [fnd_some ha hg, if_neg (by simp), if_neg (by rw [hn]; simp)])
  have HNM := Lib.hid hn
  have HF := Lib.hid (findI_some hg)
  have hf0 : (0 : Int) ≤ (f : Int) := by omega
  have hfl : f < st.files.length := hok.fnow _ (get_mem hg)
  have HFL := Lib.hid hfl
  clear hg hfl hn
  have hlen := hok.lnow
  obtain ⟨vn, vl, vd, vf, fs, hblk, hen, hel, hde, hfi, hfs, hM, hMr⟩ := h
  obtain ⟨na, nc, rfl⟩ := ownsRow_len hen
  have HEN := Lib.hid hen
  have HEL := Lib.hid hel
  have HDE := Lib.hid hde
  have HFI := Lib.hid hfi
  have HFS := Lib.hid hfs
  have HBLK := Lib.hid hblk
  have HM := Lib.hid hM
  have HMR := Lib.hid hMr
  have hml := blk_lt hblk
  obtain ⟨c0, c1, c2, c3, c4, c5, cf⟩ := cells6 hblk
  have cf1 := cf 1
  have cf2 := cf 2
  have cf3 := cf 3
  have cf4 := cf 4
  clear hen hel hde hfi hfs hM hMr hblk hok ha cf
  go_enter Try.func47, Try.ntmps47
  go_wp2_with fail
  refine wp_region_now0 [3, 5] [(0, 0), (1, 0), (2, 0), (3, 2), (4, 0), (5, 2), (6, 1), (7, 0)] (by kernel_rfl) (by kernel_rfl) rfl (by kernel_rfl) ?_
  refine stepE0 rfl rfl (fun K hK => ?_)
  go_simp
  refine hK _ ?_
  clear hK K
  refine stepE0 rfl rfl (fun K hK => ?_)
  go_simp
  refine hK _ ?_
  clear hK K
  refine stepE0 rfl rfl (fun K hK => ?_)
  go_simp
  refine hK _ ?_
  clear hK K
  refine stepE2 rfl rfl ?_ (fun w1 hS => ?_) (fun K hK => ?_)
  rotate_left
  focus (obtain rfl : w1 = _ := hS; go_simp; rfl)
  go_simp
  refine hK _ ?_
  clear hK K
  refine stepE0 rfl rfl (fun K hK => ?_)
  go_simp
  refine hK _ ?_
  clear hK K
  refine stepE2 rfl rfl ?_ (fun w1 hS => ?_) (fun K hK => ?_)
  rotate_left
  focus (obtain rfl : w1 = _ := hS; go_simp; rfl)
  go_simp
  refine hK _ ?_
  clear hK K
  refine stepE1 rfl rfl (by kernel_rfl) (fun K hK => ?_)
  (go_wp2_with fail; refine Calls.mono (find07_any _ _ _ st.now nm _ rfl ((reads_of_owns HEN.out).below (by repeat (first | (with_reducible exact Below.refl _ _) | (with_reducible refine Below.setCell ?_ ?_ _) | (with_reducible refine Below.alloc ?_ ?_ _) | (with_reducible refine Below.drewN ?_ _) | (with_reducible refine Below.drew ?_) | (with_reducible exact Nat.le_refl _) | (focus (simp only [World.size_alloc, World.size_setCell, World.size_drew, World.size_drewN]; omega)) | omega | exact Nat.le_refl _ | (focus (simp; done)) | (focus (simp; omega))))) (by omega)) ?_; rintro e w2 ⟨rfl, rfl⟩; rw [HF.out]; go_wp2)
  refine stepE0 rfl rfl (fun K hK => ?_)
  go_simp
  refine hK _ ?_
  clear hK K
  try refine stepEnil0 ?_
  go_wp2_with fail
  refine (named07_any to _ hto).mono ?_
  rintro e w3 ⟨rfl, rfl⟩
  rw [HNM.out]
  go_wp2_with fail
  refine (rturn_any m N M st ⟨1, nm, to, f⟩ (by show (1 : Nat) ≤ 2; omega) _ (H.out.below (by repeat (first | (with_reducible exact Below.refl _ _) | (with_reducible refine Below.setCell ?_ ?_ _) | (with_reducible refine Below.alloc ?_ ?_ _) | (with_reducible refine Below.drewN ?_ _) | (with_reducible refine Below.drew ?_) | (with_reducible exact Nat.le_refl _) | (focus (simp only [World.size_alloc, World.size_setCell, World.size_drew, World.size_drewN]; omega)) | omega | exact Nat.le_refl _ | (focus (simp; done)) | (focus (simp; omega))))) HOK.out (by omega)).mono ?_
  rintro e w5 ⟨rfl, h5⟩
  have H5 := Lib.hid h5
  clear h5
  go_wp2_with fail
  go_ret
  exact RDeedOut.yes (H5.out.from (by repeat (first | (with_reducible exact Below.refl _ _) | (with_reducible refine Below.setCell ?_ ?_ _) | (with_reducible refine Below.alloc ?_ ?_ _) | (with_reducible refine Below.drewN ?_ _) | (with_reducible refine Below.drew ?_) | (with_reducible exact Nat.le_refl _) | (focus (simp only [World.size_alloc, World.size_setCell, World.size_drew, World.size_drewN]; omega)) | omega | exact Nat.le_refl _ | (focus (simp; done)) | (focus (simp; omega))))) rfl HR.out
set_option maxRecDepth 100000 in
set_option maxHeartbeats 4000000 in
theorem rdeed5_do (m N : Nat) (M : Nat → Prop) (st : Dk) (nm to : Nm) (b : List UInt8) (ab af : Option Addr) (cb lf cf : Nat) (an am pn : Int) (w : World) (h : RefAt w m M st) (hok : DkOk N st) (hN : N < 4096) (ha : st.armed ≠ 0) (hnm : nm.length ≤ maxLen) (f : Nat) (hg : dirGet st.now nm = some f) :
    Calls Try.prog 47 #[(.pointer (some ⟨m, 0, none⟩)), .agg #[.int .i64 5, .string ⟨nm.toArray⟩, .string ⟨to.toArray⟩, .slice ab b.length cb, .int .i64 an, .int .i64 am, .int .i64 pn, .slice af lf cf]] w (RDeedOut w m M st (st.remove nm)) := by
  have H := Lib.hid h
  have HOK := Lib.hid hok
  have HA := Lib.hid ha
  have HR := Lib.hid (show st.remove nm = (0, st.turn ⟨2, nm, [], 0⟩) by unfold Dk.remove; rw [fnd_some ha hg, if_neg (by simp)])
  have HF := Lib.hid (findI_some hg)
  have hf0 : (0 : Int) ≤ (f : Int) := by omega
  have hfl : f < st.files.length := hok.fnow _ (get_mem hg)
  have HFL := Lib.hid hfl
  clear hg hfl
  have hlen := hok.lnow
  obtain ⟨vn, vl, vd, vf, fs, hblk, hen, hel, hde, hfi, hfs, hM, hMr⟩ := h
  obtain ⟨na, nc, rfl⟩ := ownsRow_len hen
  have HEN := Lib.hid hen
  have HEL := Lib.hid hel
  have HDE := Lib.hid hde
  have HFI := Lib.hid hfi
  have HFS := Lib.hid hfs
  have HBLK := Lib.hid hblk
  have HM := Lib.hid hM
  have HMR := Lib.hid hMr
  have hml := blk_lt hblk
  obtain ⟨c0, c1, c2, c3, c4, c5, cf⟩ := cells6 hblk
  have cf1 := cf 1
  have cf2 := cf 2
  have cf3 := cf 3
  have cf4 := cf 4
  clear hen hel hde hfi hfs hM hMr hblk hok ha cf
  go_enter Try.func47, Try.ntmps47
  go_wp2_with fail
  refine wp_region_now0 [3, 5] [(0, 0), (1, 0), (2, 0), (3, 2), (4, 0), (5, 2), (6, 1), (7, 0)] (by kernel_rfl) (by kernel_rfl) rfl (by kernel_rfl) ?_
  refine stepE0 rfl rfl (fun K hK => ?_)
  go_simp
  refine hK _ ?_
  clear hK K
  refine stepE0 rfl rfl (fun K hK => ?_)
  go_simp
  refine hK _ ?_
  clear hK K
  refine stepE0 rfl rfl (fun K hK => ?_)
  go_simp
  refine hK _ ?_
  clear hK K
  refine stepE2 rfl rfl ?_ (fun w1 hS => ?_) (fun K hK => ?_)
  rotate_left
  focus (obtain rfl : w1 = _ := hS; go_simp; rfl)
  go_simp
  refine hK _ ?_
  clear hK K
  refine stepE0 rfl rfl (fun K hK => ?_)
  go_simp
  refine hK _ ?_
  clear hK K
  refine stepE2 rfl rfl ?_ (fun w1 hS => ?_) (fun K hK => ?_)
  rotate_left
  focus (obtain rfl : w1 = _ := hS; go_simp; rfl)
  go_simp
  refine hK _ ?_
  clear hK K
  refine stepE1 rfl rfl (by kernel_rfl) (fun K hK => ?_)
  (go_wp2_with fail; refine Calls.mono (find07_any _ _ _ st.now nm _ rfl ((reads_of_owns HEN.out).below (by repeat (first | (with_reducible exact Below.refl _ _) | (with_reducible refine Below.setCell ?_ ?_ _) | (with_reducible refine Below.alloc ?_ ?_ _) | (with_reducible refine Below.drewN ?_ _) | (with_reducible refine Below.drew ?_) | (with_reducible exact Nat.le_refl _) | (focus (simp only [World.size_alloc, World.size_setCell, World.size_drew, World.size_drewN]; omega)) | omega | exact Nat.le_refl _ | (focus (simp; done)) | (focus (simp; omega))))) (by omega)) ?_; rintro e w2 ⟨rfl, rfl⟩; rw [HF.out]; go_wp2)
  refine stepE0 rfl rfl (fun K hK => ?_)
  go_simp
  refine hK _ ?_
  clear hK K
  try refine stepEnil0 ?_
  go_wp2_with fail
  refine (rturn_any m N M st ⟨2, nm, [], 0⟩ (by show (2 : Nat) ≤ 2; omega) _ (H.out.below (by repeat (first | (with_reducible exact Below.refl _ _) | (with_reducible refine Below.setCell ?_ ?_ _) | (with_reducible refine Below.alloc ?_ ?_ _) | (with_reducible refine Below.drewN ?_ _) | (with_reducible refine Below.drew ?_) | (with_reducible exact Nat.le_refl _) | (focus (simp only [World.size_alloc, World.size_setCell, World.size_drew, World.size_drewN]; omega)) | omega | exact Nat.le_refl _ | (focus (simp; done)) | (focus (simp; omega))))) HOK.out (by omega)).mono ?_
  rintro e w5 ⟨rfl, h5⟩
  have H5 := Lib.hid h5
  clear h5
  go_wp2_with fail
  go_ret
  exact RDeedOut.yes (H5.out.from (by repeat (first | (with_reducible exact Below.refl _ _) | (with_reducible refine Below.setCell ?_ ?_ _) | (with_reducible refine Below.alloc ?_ ?_ _) | (with_reducible refine Below.drewN ?_ _) | (with_reducible refine Below.drew ?_) | (with_reducible exact Nat.le_refl _) | (focus (simp only [World.size_alloc, World.size_setCell, World.size_drew, World.size_drewN]; omega)) | omega | exact Nat.le_refl _ | (focus (simp; done)) | (focus (simp; omega))))) rfl HR.out
set_option maxRecDepth 100000 in
set_option maxHeartbeats 4000000 in
theorem rdeed1_long (m N : Nat) (M : Nat → Prop) (st : Dk) (nm to : Nm) (b : List UInt8) (ab af : Option Addr) (cb lf cf : Nat) (an am pn : Int) (w : World) (h : RefAt w m M st) (hok : DkOk N st) (hN : N < 4096) (ha : st.armed ≠ 0) (hnm : nm.length ≤ maxLen) (f : Nat) (hg : dirGet st.now nm = some f) (hbl : b.length ≤ 300) (hk : 16777216 < (st.fileAt f).b.length + b.length) :
    Calls Try.prog 47 #[(.pointer (some ⟨m, 0, none⟩)), .agg #[.int .i64 1, .string ⟨nm.toArray⟩, .string ⟨to.toArray⟩, .slice ab b.length cb, .int .i64 an, .int .i64 am, .int .i64 pn, .slice af lf cf]] w (RDeedOut w m M st (st.append nm b)) := by
  have H := Lib.hid h
  have HOK := Lib.hid hok
  have HA := Lib.hid ha
  have HR := Lib.hid (show st.append nm b = (2, st) by unfold Dk.append; rw [fnd_some ha hg, if_neg (by simp), if_pos hk])
  have HK := Lib.hid hk
  have HF := Lib.hid (findI_some hg)
  have hf0 : (0 : Int) ≤ (f : Int) := by omega
  have hfl : f < st.files.length := hok.fnow _ (get_mem hg)
  have HFL := Lib.hid hfl
  clear hg hfl hk
  have hlen := hok.lnow
  obtain ⟨vn, vl, vd, vf, fs, hblk, hen, hel, hde, hfi, hfs, hM, hMr⟩ := h
  obtain ⟨na, nc, rfl⟩ := ownsRow_len hen
  have HEN := Lib.hid hen
  have HEL := Lib.hid hel
  have HDE := Lib.hid hde
  have HFI := Lib.hid hfi
  have HFS := Lib.hid hfs
  have HBLK := Lib.hid hblk
  have HM := Lib.hid hM
  have HMR := Lib.hid hMr
  have hml := blk_lt hblk
  obtain ⟨c0, c1, c2, c3, c4, c5, cf⟩ := cells6 hblk
  have cf1 := cf 1
  have cf2 := cf 2
  have cf3 := cf 3
  have cf4 := cf 4
  clear hen hel hde hfi hfs hM hMr hblk hok ha cf
  go_enter Try.func47, Try.ntmps47
  go_wp2_with fail
  refine wp_region_now0 [3, 5] [(0, 0), (1, 0), (2, 0), (3, 2), (4, 0), (5, 2), (6, 1), (7, 0)] (by kernel_rfl) (by kernel_rfl) rfl (by kernel_rfl) ?_
  refine stepE0 rfl rfl (fun K hK => ?_)
  go_simp
  refine hK _ ?_
  clear hK K
  refine stepE0 rfl rfl (fun K hK => ?_)
  go_simp
  refine hK _ ?_
  clear hK K
  refine stepE0 rfl rfl (fun K hK => ?_)
  go_simp
  refine hK _ ?_
  clear hK K
  refine stepE2 rfl rfl ?_ (fun w1 hS => ?_) (fun K hK => ?_)
  rotate_left
  focus (obtain rfl : w1 = _ := hS; go_simp; rfl)
  go_simp
  refine hK _ ?_
  clear hK K
  refine stepE0 rfl rfl (fun K hK => ?_)
  go_simp
  refine hK _ ?_
  clear hK K
  refine stepE2 rfl rfl ?_ (fun w1 hS => ?_) (fun K hK => ?_)
  rotate_left
  focus (obtain rfl : w1 = _ := hS; go_simp; rfl)
  go_simp
  refine hK _ ?_
  clear hK K
  refine stepE1 rfl rfl (by kernel_rfl) (fun K hK => ?_)
  (go_wp2_with fail; refine Calls.mono (find07_any _ _ _ st.now nm _ rfl ((reads_of_owns HEN.out).below (by repeat (first | (with_reducible exact Below.refl _ _) | (with_reducible refine Below.setCell ?_ ?_ _) | (with_reducible refine Below.alloc ?_ ?_ _) | (with_reducible refine Below.drewN ?_ _) | (with_reducible refine Below.drew ?_) | (with_reducible exact Nat.le_refl _) | (focus (simp only [World.size_alloc, World.size_setCell, World.size_drew, World.size_drewN]; omega)) | omega | exact Nat.le_refl _ | (focus (simp; done)) | (focus (simp; omega))))) (by omega)) ?_; rintro e w2 ⟨rfl, rfl⟩; rw [HF.out]; go_wp2)
  refine stepE0 rfl rfl (fun K hK => ?_)
  go_simp
  refine hK _ ?_
  clear hK K
  try refine stepEnil0 ?_
  go_wp2_with fail
  refine (rwrite1_long m N f M st nm to b an am pn lf ab af cb cf _ (H.out.below (by repeat (first | (with_reducible exact Below.refl _ _) | (with_reducible refine Below.setCell ?_ ?_ _) | (with_reducible refine Below.alloc ?_ ?_ _) | (with_reducible refine Below.drewN ?_ _) | (with_reducible refine Below.drew ?_) | (with_reducible exact Nat.le_refl _) | (focus (simp only [World.size_alloc, World.size_setCell, World.size_drew, World.size_drewN]; omega)) | omega | exact Nat.le_refl _ | (focus (simp; done)) | (focus (simp; omega))))) HOK.out HFL.out hbl HK.out).mono ?_
  rintro e w5 ⟨rfl, h5⟩
  have H5 := Lib.hid h5
  clear h5
  go_wp2_with fail
  go_ret
  exact RDeedOut.no (H5.out.from (by repeat (first | (with_reducible exact Below.refl _ _) | (with_reducible refine Below.setCell ?_ ?_ _) | (with_reducible refine Below.alloc ?_ ?_ _) | (with_reducible refine Below.drewN ?_ _) | (with_reducible refine Below.drew ?_) | (with_reducible exact Nat.le_refl _) | (focus (simp only [World.size_alloc, World.size_setCell, World.size_drew, World.size_drewN]; omega)) | omega | exact Nat.le_refl _ | (focus (simp; done)) | (focus (simp; omega))))) HR.out (by decide)
set_option maxRecDepth 100000 in
set_option maxHeartbeats 4000000 in
theorem rdeed1_full (m N : Nat) (M : Nat → Prop) (st : Dk) (nm to : Nm) (b : List UInt8) (ab af : Option Addr) (cb lf cf : Nat) (an am pn : Int) (w : World) (h : RefAt w m M st) (hok : DkOk N st) (hN : N < 4096) (ha : st.armed ≠ 0) (hnm : nm.length ≤ maxLen) (f : Nat) (hg : dirGet st.now nm = some f) (hbl : b.length ≤ 300) (hk : ¬ 16777216 < (st.fileAt f).b.length + b.length) (hc : st.cap < st.used + b.length) :
    Calls Try.prog 47 #[(.pointer (some ⟨m, 0, none⟩)), .agg #[.int .i64 1, .string ⟨nm.toArray⟩, .string ⟨to.toArray⟩, .slice ab b.length cb, .int .i64 an, .int .i64 am, .int .i64 pn, .slice af lf cf]] w (RDeedOut w m M st (st.append nm b)) := by
  have H := Lib.hid h
  have HOK := Lib.hid hok
  have HA := Lib.hid ha
  have HR := Lib.hid (show st.append nm b = (11, st) by unfold Dk.append; rw [fnd_some ha hg, if_neg (by simp), if_neg hk, if_pos hc])
  have HK := Lib.hid hk
  have HC := Lib.hid hc
  have HF := Lib.hid (findI_some hg)
  have hf0 : (0 : Int) ≤ (f : Int) := by omega
  have hfl : f < st.files.length := hok.fnow _ (get_mem hg)
  have HFL := Lib.hid hfl
  clear hg hfl hk hc
  have hlen := hok.lnow
  obtain ⟨vn, vl, vd, vf, fs, hblk, hen, hel, hde, hfi, hfs, hM, hMr⟩ := h
  obtain ⟨na, nc, rfl⟩ := ownsRow_len hen
  have HEN := Lib.hid hen
  have HEL := Lib.hid hel
  have HDE := Lib.hid hde
  have HFI := Lib.hid hfi
  have HFS := Lib.hid hfs
  have HBLK := Lib.hid hblk
  have HM := Lib.hid hM
  have HMR := Lib.hid hMr
  have hml := blk_lt hblk
  obtain ⟨c0, c1, c2, c3, c4, c5, cf⟩ := cells6 hblk
  have cf1 := cf 1
  have cf2 := cf 2
  have cf3 := cf 3
  have cf4 := cf 4
  clear hen hel hde hfi hfs hM hMr hblk hok ha cf
  go_enter Try.func47, Try.ntmps47
  go_wp2_with fail
  refine wp_region_now0 [3, 5] [(0, 0), (1, 0), (2, 0), (3, 2), (4, 0), (5, 2), (6, 1), (7, 0)] (by kernel_rfl) (by kernel_rfl) rfl (by kernel_rfl) ?_
  refine stepE0 rfl rfl (fun K hK => ?_)
  go_simp
  refine hK _ ?_
  clear hK K
  refine stepE0 rfl rfl (fun K hK => ?_)
  go_simp
  refine hK _ ?_
  clear hK K
  refine stepE0 rfl rfl (fun K hK => ?_)
  go_simp
  refine hK _ ?_
  clear hK K
  refine stepE2 rfl rfl ?_ (fun w1 hS => ?_) (fun K hK => ?_)
  rotate_left
  focus (obtain rfl : w1 = _ := hS; go_simp; rfl)
  go_simp
  refine hK _ ?_
  clear hK K
  refine stepE0 rfl rfl (fun K hK => ?_)
  go_simp
  refine hK _ ?_
  clear hK K
  refine stepE2 rfl rfl ?_ (fun w1 hS => ?_) (fun K hK => ?_)
  rotate_left
  focus (obtain rfl : w1 = _ := hS; go_simp; rfl)
  go_simp
  refine hK _ ?_
  clear hK K
  refine stepE1 rfl rfl (by kernel_rfl) (fun K hK => ?_)
  (go_wp2_with fail; refine Calls.mono (find07_any _ _ _ st.now nm _ rfl ((reads_of_owns HEN.out).below (by repeat (first | (with_reducible exact Below.refl _ _) | (with_reducible refine Below.setCell ?_ ?_ _) | (with_reducible refine Below.alloc ?_ ?_ _) | (with_reducible refine Below.drewN ?_ _) | (with_reducible refine Below.drew ?_) | (with_reducible exact Nat.le_refl _) | (focus (simp only [World.size_alloc, World.size_setCell, World.size_drew, World.size_drewN]; omega)) | omega | exact Nat.le_refl _ | (focus (simp; done)) | (focus (simp; omega))))) (by omega)) ?_; rintro e w2 ⟨rfl, rfl⟩; rw [HF.out]; go_wp2)
  refine stepE0 rfl rfl (fun K hK => ?_)
  go_simp
  refine hK _ ?_
  clear hK K
  try refine stepEnil0 ?_
  go_wp2_with fail
  refine (rwrite1_full m N f M st nm to b an am pn lf ab af cb cf _ (H.out.below (by repeat (first | (with_reducible exact Below.refl _ _) | (with_reducible refine Below.setCell ?_ ?_ _) | (with_reducible refine Below.alloc ?_ ?_ _) | (with_reducible refine Below.drewN ?_ _) | (with_reducible refine Below.drew ?_) | (with_reducible exact Nat.le_refl _) | (focus (simp only [World.size_alloc, World.size_setCell, World.size_drew, World.size_drewN]; omega)) | omega | exact Nat.le_refl _ | (focus (simp; done)) | (focus (simp; omega))))) HOK.out HFL.out hbl HK.out HC.out).mono ?_
  rintro e w5 ⟨rfl, h5⟩
  have H5 := Lib.hid h5
  clear h5
  go_wp2_with fail
  go_ret
  exact RDeedOut.no (H5.out.from (by repeat (first | (with_reducible exact Below.refl _ _) | (with_reducible refine Below.setCell ?_ ?_ _) | (with_reducible refine Below.alloc ?_ ?_ _) | (with_reducible refine Below.drewN ?_ _) | (with_reducible refine Below.drew ?_) | (with_reducible exact Nat.le_refl _) | (focus (simp only [World.size_alloc, World.size_setCell, World.size_drew, World.size_drewN]; omega)) | omega | exact Nat.le_refl _ | (focus (simp; done)) | (focus (simp; omega))))) HR.out (by decide)
set_option maxRecDepth 100000 in
set_option maxHeartbeats 4000000 in
theorem rdeed1_do (m N : Nat) (M : Nat → Prop) (st : Dk) (nm to : Nm) (b : List UInt8) (ab af : Option Addr) (cb lf cf : Nat) (an am pn : Int) (w : World) (h : RefAt w m M st) (hok : DkOk N st) (hN : N < 4096) (ha : st.armed ≠ 0) (hnm : nm.length ≤ maxLen) (f : Nat) (hg : dirGet st.now nm = some f) (hbl : b.length ≤ 300) (hk : ¬ 16777216 < (st.fileAt f).b.length + b.length) (hc : ¬ st.cap < st.used + b.length) (hr : Reads w 1 (.slice ab b.length cb) b.length (b.map bv)) :
    Calls Try.prog 47 #[(.pointer (some ⟨m, 0, none⟩)), .agg #[.int .i64 1, .string ⟨nm.toArray⟩, .string ⟨to.toArray⟩, .slice ab b.length cb, .int .i64 an, .int .i64 am, .int .i64 pn, .slice af lf cf]] w (RDeedOut w m M st (st.append nm b)) := by
  have H := Lib.hid h
  have HOK := Lib.hid hok
  have HA := Lib.hid ha
  have HR := Lib.hid (show st.append nm b = (0, (st.setF f ⟨(st.fileAt f).b ++ b, (st.fileAt f).lasts⟩).did) by unfold Dk.append; rw [fnd_some ha hg, if_neg (by simp), if_neg hk, if_neg hc])
  have HK := Lib.hid hk
  have HC := Lib.hid hc
  have HRR := Lib.hid hr
  have HF := Lib.hid (findI_some hg)
  have hf0 : (0 : Int) ≤ (f : Int) := by omega
  have hfl : f < st.files.length := hok.fnow _ (get_mem hg)
  have HFL := Lib.hid hfl
  clear hg hfl hk hc hr
  have hlen := hok.lnow
  obtain ⟨vn, vl, vd, vf, fs, hblk, hen, hel, hde, hfi, hfs, hM, hMr⟩ := h
  obtain ⟨na, nc, rfl⟩ := ownsRow_len hen
  have HEN := Lib.hid hen
  have HEL := Lib.hid hel
  have HDE := Lib.hid hde
  have HFI := Lib.hid hfi
  have HFS := Lib.hid hfs
  have HBLK := Lib.hid hblk
  have HM := Lib.hid hM
  have HMR := Lib.hid hMr
  have hml := blk_lt hblk
  obtain ⟨c0, c1, c2, c3, c4, c5, cf⟩ := cells6 hblk
  have cf1 := cf 1
  have cf2 := cf 2
  have cf3 := cf 3
  have cf4 := cf 4
  clear hen hel hde hfi hfs hM hMr hblk hok ha cf
  go_enter Try.func47, Try.ntmps47
  go_wp2_with fail
  refine wp_region_now0 [3, 5] [(0, 0), (1, 0), (2, 0), (3, 2), (4, 0), (5, 2), (6, 1), (7, 0)] (by kernel_rfl) (by kernel_rfl) rfl (by kernel_rfl) ?_
  refine stepE0 rfl rfl (fun K hK => ?_)
  go_simp
  refine hK _ ?_
  clear hK K
  refine stepE0 rfl rfl (fun K hK => ?_)
  go_simp
  refine hK _ ?_
  clear hK K
  refine stepE0 rfl rfl (fun K hK => ?_)
  go_simp
  refine hK _ ?_
  clear hK K
  refine stepE2 rfl rfl ?_ (fun w1 hS => ?_) (fun K hK => ?_)
  rotate_left
  focus (obtain rfl : w1 = _ := hS; go_simp; rfl)
  go_simp
  refine hK _ ?_
  clear hK K
  refine stepE0 rfl rfl (fun K hK => ?_)
  go_simp
  refine hK _ ?_
  clear hK K
  refine stepE2 rfl rfl ?_ (fun w1 hS => ?_) (fun K hK => ?_)
  rotate_left
  focus (obtain rfl : w1 = _ := hS; go_simp; rfl)
  go_simp
  refine hK _ ?_
  clear hK K
  refine stepE1 rfl rfl (by kernel_rfl) (fun K hK => ?_)
  (go_wp2_with fail; refine Calls.mono (find07_any _ _ _ st.now nm _ rfl ((reads_of_owns HEN.out).below (by repeat (first | (with_reducible exact Below.refl _ _) | (with_reducible refine Below.setCell ?_ ?_ _) | (with_reducible refine Below.alloc ?_ ?_ _) | (with_reducible refine Below.drewN ?_ _) | (with_reducible refine Below.drew ?_) | (with_reducible exact Nat.le_refl _) | (focus (simp only [World.size_alloc, World.size_setCell, World.size_drew, World.size_drewN]; omega)) | omega | exact Nat.le_refl _ | (focus (simp; done)) | (focus (simp; omega))))) (by omega)) ?_; rintro e w2 ⟨rfl, rfl⟩; rw [HF.out]; go_wp2)
  refine stepE0 rfl rfl (fun K hK => ?_)
  go_simp
  refine hK _ ?_
  clear hK K
  try refine stepEnil0 ?_
  go_wp2_with fail
  refine (rwrite1_any m N f M st nm to b an am pn lf ab af cb cf _ (H.out.below (by repeat (first | (with_reducible exact Below.refl _ _) | (with_reducible refine Below.setCell ?_ ?_ _) | (with_reducible refine Below.alloc ?_ ?_ _) | (with_reducible refine Below.drewN ?_ _) | (with_reducible refine Below.drew ?_) | (with_reducible exact Nat.le_refl _) | (focus (simp only [World.size_alloc, World.size_setCell, World.size_drew, World.size_drewN]; omega)) | omega | exact Nat.le_refl _ | (focus (simp; done)) | (focus (simp; omega))))) HOK.out HFL.out hbl HK.out HC.out (HRR.out.below (by repeat (first | (with_reducible exact Below.refl _ _) | (with_reducible refine Below.setCell ?_ ?_ _) | (with_reducible refine Below.alloc ?_ ?_ _) | (with_reducible refine Below.drewN ?_ _) | (with_reducible refine Below.drew ?_) | (with_reducible exact Nat.le_refl _) | (focus (simp only [World.size_alloc, World.size_setCell, World.size_drew, World.size_drewN]; omega)) | omega | exact Nat.le_refl _ | (focus (simp; done)) | (focus (simp; omega)))))).mono ?_
  rintro e w5 ⟨rfl, h5⟩
  have H5 := Lib.hid h5
  clear h5
  go_wp2_with fail
  go_ret
  exact RDeedOut.yes (H5.out.from (by repeat (first | (with_reducible exact Below.refl _ _) | (with_reducible refine Below.setCell ?_ ?_ _) | (with_reducible refine Below.alloc ?_ ?_ _) | (with_reducible refine Below.drewN ?_ _) | (with_reducible refine Below.drew ?_) | (with_reducible exact Nat.le_refl _) | (focus (simp only [World.size_alloc, World.size_setCell, World.size_drew, World.size_drewN]; omega)) | omega | exact Nat.le_refl _ | (focus (simp; done)) | (focus (simp; omega))))) rfl HR.out
set_option maxRecDepth 100000 in
set_option maxHeartbeats 4000000 in
theorem rdeed2_do (m N : Nat) (M : Nat → Prop) (st : Dk) (nm to : Nm) (b : List UInt8) (ab af : Option Addr) (cb lf cf : Nat) (an am pn : Int) (w : World) (h : RefAt w m M st) (hok : DkOk N st) (hN : N < 4096) (ha : st.armed ≠ 0) (hnm : nm.length ≤ maxLen) (f : Nat) (hg : dirGet st.now nm = some f) :
    Calls Try.prog 47 #[(.pointer (some ⟨m, 0, none⟩)), .agg #[.int .i64 2, .string ⟨nm.toArray⟩, .string ⟨to.toArray⟩, .slice ab b.length cb, .int .i64 an, .int .i64 am, .int .i64 pn, .slice af lf cf]] w (RDeedOut w m M st (st.sync nm)) := by
  have H := Lib.hid h
  have HOK := Lib.hid hok
  have HA := Lib.hid ha
  have HR := Lib.hid (show st.sync nm = (0, (st.setF f ⟨(st.fileAt f).b, (st.fileAt f).b.length⟩).did) by unfold Dk.sync; rw [fnd_some ha hg, if_neg (by simp)])
  have HF := Lib.hid (findI_some hg)
  have hf0 : (0 : Int) ≤ (f : Int) := by omega
  have hfl : f < st.files.length := hok.fnow _ (get_mem hg)
  have HFL := Lib.hid hfl
  clear hg hfl
  have hlen := hok.lnow
  obtain ⟨vn, vl, vd, vf, fs, hblk, hen, hel, hde, hfi, hfs, hM, hMr⟩ := h
  obtain ⟨na, nc, rfl⟩ := ownsRow_len hen
  have HEN := Lib.hid hen
  have HEL := Lib.hid hel
  have HDE := Lib.hid hde
  have HFI := Lib.hid hfi
  have HFS := Lib.hid hfs
  have HBLK := Lib.hid hblk
  have HM := Lib.hid hM
  have HMR := Lib.hid hMr
  have hml := blk_lt hblk
  obtain ⟨c0, c1, c2, c3, c4, c5, cf⟩ := cells6 hblk
  have cf1 := cf 1
  have cf2 := cf 2
  have cf3 := cf 3
  have cf4 := cf 4
  clear hen hel hde hfi hfs hM hMr hblk hok ha cf
  go_enter Try.func47, Try.ntmps47
  go_wp2_with fail
  refine wp_region_now0 [3, 5] [(0, 0), (1, 0), (2, 0), (3, 2), (4, 0), (5, 2), (6, 1), (7, 0)] (by kernel_rfl) (by kernel_rfl) rfl (by kernel_rfl) ?_
  refine stepE0 rfl rfl (fun K hK => ?_)
  go_simp
  refine hK _ ?_
  clear hK K
  refine stepE0 rfl rfl (fun K hK => ?_)
  go_simp
  refine hK _ ?_
  clear hK K
  refine stepE0 rfl rfl (fun K hK => ?_)
  go_simp
  refine hK _ ?_
  clear hK K
  refine stepE2 rfl rfl ?_ (fun w1 hS => ?_) (fun K hK => ?_)
  rotate_left
  focus (obtain rfl : w1 = _ := hS; go_simp; rfl)
  go_simp
  refine hK _ ?_
  clear hK K
  refine stepE0 rfl rfl (fun K hK => ?_)
  go_simp
  refine hK _ ?_
  clear hK K
  refine stepE2 rfl rfl ?_ (fun w1 hS => ?_) (fun K hK => ?_)
  rotate_left
  focus (obtain rfl : w1 = _ := hS; go_simp; rfl)
  go_simp
  refine hK _ ?_
  clear hK K
  refine stepE1 rfl rfl (by kernel_rfl) (fun K hK => ?_)
  (go_wp2_with fail; refine Calls.mono (find07_any _ _ _ st.now nm _ rfl ((reads_of_owns HEN.out).below (by repeat (first | (with_reducible exact Below.refl _ _) | (with_reducible refine Below.setCell ?_ ?_ _) | (with_reducible refine Below.alloc ?_ ?_ _) | (with_reducible refine Below.drewN ?_ _) | (with_reducible refine Below.drew ?_) | (with_reducible exact Nat.le_refl _) | (focus (simp only [World.size_alloc, World.size_setCell, World.size_drew, World.size_drewN]; omega)) | omega | exact Nat.le_refl _ | (focus (simp; done)) | (focus (simp; omega))))) (by omega)) ?_; rintro e w2 ⟨rfl, rfl⟩; rw [HF.out]; go_wp2)
  refine stepE0 rfl rfl (fun K hK => ?_)
  go_simp
  refine hK _ ?_
  clear hK K
  try refine stepEnil0 ?_
  go_wp2_with fail
  refine (rwrite2_any m N f M st nm to b an am pn lf ab af cb cf _ (H.out.below (by repeat (first | (with_reducible exact Below.refl _ _) | (with_reducible refine Below.setCell ?_ ?_ _) | (with_reducible refine Below.alloc ?_ ?_ _) | (with_reducible refine Below.drewN ?_ _) | (with_reducible refine Below.drew ?_) | (with_reducible exact Nat.le_refl _) | (focus (simp only [World.size_alloc, World.size_setCell, World.size_drew, World.size_drewN]; omega)) | omega | exact Nat.le_refl _ | (focus (simp; done)) | (focus (simp; omega))))) HOK.out HFL.out).mono ?_
  rintro e w5 ⟨rfl, h5⟩
  have H5 := Lib.hid h5
  clear h5
  go_wp2_with fail
  go_ret
  exact RDeedOut.yes (H5.out.from (by repeat (first | (with_reducible exact Below.refl _ _) | (with_reducible refine Below.setCell ?_ ?_ _) | (with_reducible refine Below.alloc ?_ ?_ _) | (with_reducible refine Below.drewN ?_ _) | (with_reducible refine Below.drew ?_) | (with_reducible exact Nat.le_refl _) | (focus (simp only [World.size_alloc, World.size_setCell, World.size_drew, World.size_drewN]; omega)) | omega | exact Nat.le_refl _ | (focus (simp; done)) | (focus (simp; omega))))) rfl HR.out
set_option maxRecDepth 100000 in
set_option maxHeartbeats 4000000 in
theorem rdeed6_arg (m N : Nat) (M : Nat → Prop) (st : Dk) (nm to : Nm) (b : List UInt8) (ab af : Option Addr) (cb lf cf : Nat) (an am pn : Int) (w : World) (h : RefAt w m M st) (hok : DkOk N st) (hN : N < 4096) (ha : st.armed ≠ 0) (hnm : nm.length ≤ maxLen) (f : Nat) (hg : dirGet st.now nm = some f) (hk : an < 0 ∨ ((st.fileAt f).b.length : Int) < an) :
    Calls Try.prog 47 #[(.pointer (some ⟨m, 0, none⟩)), .agg #[.int .i64 6, .string ⟨nm.toArray⟩, .string ⟨to.toArray⟩, .slice ab b.length cb, .int .i64 an, .int .i64 am, .int .i64 pn, .slice af lf cf]] w (RDeedOut w m M st (st.cut nm an)) := by
  have H := Lib.hid h
  have HOK := Lib.hid hok
  have HA := Lib.hid ha
  have HR := Lib.hid (show st.cut nm an = (1, st) by unfold Dk.cut; rw [fnd_some ha hg, if_neg (by simp), if_pos hk])
  have HK := Lib.hid hk
  have HF := Lib.hid (findI_some hg)
  have hf0 : (0 : Int) ≤ (f : Int) := by omega
  have hfl : f < st.files.length := hok.fnow _ (get_mem hg)
  have HFL := Lib.hid hfl
  clear hg hfl hk
  have hlen := hok.lnow
  obtain ⟨vn, vl, vd, vf, fs, hblk, hen, hel, hde, hfi, hfs, hM, hMr⟩ := h
  obtain ⟨na, nc, rfl⟩ := ownsRow_len hen
  have HEN := Lib.hid hen
  have HEL := Lib.hid hel
  have HDE := Lib.hid hde
  have HFI := Lib.hid hfi
  have HFS := Lib.hid hfs
  have HBLK := Lib.hid hblk
  have HM := Lib.hid hM
  have HMR := Lib.hid hMr
  have hml := blk_lt hblk
  obtain ⟨c0, c1, c2, c3, c4, c5, cf⟩ := cells6 hblk
  have cf1 := cf 1
  have cf2 := cf 2
  have cf3 := cf 3
  have cf4 := cf 4
  clear hen hel hde hfi hfs hM hMr hblk hok ha cf
  go_enter Try.func47, Try.ntmps47
  go_wp2_with fail
  refine wp_region_now0 [3, 5] [(0, 0), (1, 0), (2, 0), (3, 2), (4, 0), (5, 2), (6, 1), (7, 0)] (by kernel_rfl) (by kernel_rfl) rfl (by kernel_rfl) ?_
  refine stepE0 rfl rfl (fun K hK => ?_)
  go_simp
  refine hK _ ?_
  clear hK K
  refine stepE0 rfl rfl (fun K hK => ?_)
  go_simp
  refine hK _ ?_
  clear hK K
  refine stepE0 rfl rfl (fun K hK => ?_)
  go_simp
  refine hK _ ?_
  clear hK K
  refine stepE2 rfl rfl ?_ (fun w1 hS => ?_) (fun K hK => ?_)
  rotate_left
  focus (obtain rfl : w1 = _ := hS; go_simp; rfl)
  go_simp
  refine hK _ ?_
  clear hK K
  refine stepE0 rfl rfl (fun K hK => ?_)
  go_simp
  refine hK _ ?_
  clear hK K
  refine stepE2 rfl rfl ?_ (fun w1 hS => ?_) (fun K hK => ?_)
  rotate_left
  focus (obtain rfl : w1 = _ := hS; go_simp; rfl)
  go_simp
  refine hK _ ?_
  clear hK K
  refine stepE1 rfl rfl (by kernel_rfl) (fun K hK => ?_)
  (go_wp2_with fail; refine Calls.mono (find07_any _ _ _ st.now nm _ rfl ((reads_of_owns HEN.out).below (by repeat (first | (with_reducible exact Below.refl _ _) | (with_reducible refine Below.setCell ?_ ?_ _) | (with_reducible refine Below.alloc ?_ ?_ _) | (with_reducible refine Below.drewN ?_ _) | (with_reducible refine Below.drew ?_) | (with_reducible exact Nat.le_refl _) | (focus (simp only [World.size_alloc, World.size_setCell, World.size_drew, World.size_drewN]; omega)) | omega | exact Nat.le_refl _ | (focus (simp; done)) | (focus (simp; omega))))) (by omega)) ?_; rintro e w2 ⟨rfl, rfl⟩; rw [HF.out]; go_wp2)
  refine stepE0 rfl rfl (fun K hK => ?_)
  go_simp
  refine hK _ ?_
  clear hK K
  try refine stepEnil0 ?_
  go_wp2_with fail
  refine (rwrite6_no m N f M st nm to b an am pn lf ab af cb cf _ (H.out.below (by repeat (first | (with_reducible exact Below.refl _ _) | (with_reducible refine Below.setCell ?_ ?_ _) | (with_reducible refine Below.alloc ?_ ?_ _) | (with_reducible refine Below.drewN ?_ _) | (with_reducible refine Below.drew ?_) | (with_reducible exact Nat.le_refl _) | (focus (simp only [World.size_alloc, World.size_setCell, World.size_drew, World.size_drewN]; omega)) | omega | exact Nat.le_refl _ | (focus (simp; done)) | (focus (simp; omega))))) HOK.out HFL.out HK.out).mono ?_
  rintro e w5 ⟨rfl, h5⟩
  have H5 := Lib.hid h5
  clear h5
  go_wp2_with fail
  go_ret
  exact RDeedOut.no (H5.out.from (by repeat (first | (with_reducible exact Below.refl _ _) | (with_reducible refine Below.setCell ?_ ?_ _) | (with_reducible refine Below.alloc ?_ ?_ _) | (with_reducible refine Below.drewN ?_ _) | (with_reducible refine Below.drew ?_) | (with_reducible exact Nat.le_refl _) | (focus (simp only [World.size_alloc, World.size_setCell, World.size_drew, World.size_drewN]; omega)) | omega | exact Nat.le_refl _ | (focus (simp; done)) | (focus (simp; omega))))) HR.out (by decide)
set_option maxRecDepth 100000 in
set_option maxHeartbeats 4000000 in
theorem rdeed6_do (m N : Nat) (M : Nat → Prop) (st : Dk) (nm to : Nm) (b : List UInt8) (ab af : Option Addr) (cb lf cf : Nat) (an am pn : Int) (w : World) (h : RefAt w m M st) (hok : DkOk N st) (hN : N < 4096) (ha : st.armed ≠ 0) (hnm : nm.length ≤ maxLen) (k f : Nat) (hg : dirGet st.now nm = some f) (hk : k ≤ (st.fileAt f).b.length) :
    Calls Try.prog 47 #[(.pointer (some ⟨m, 0, none⟩)), .agg #[.int .i64 6, .string ⟨nm.toArray⟩, .string ⟨to.toArray⟩, .slice ab b.length cb, .int .i64 k, .int .i64 am, .int .i64 pn, .slice af lf cf]] w (RDeedOut w m M st (st.cut nm k)) := by
  have H := Lib.hid h
  have HOK := Lib.hid hok
  have HA := Lib.hid ha
  have HR := Lib.hid (show st.cut nm k = (0, (st.setF f ⟨(st.fileAt f).b.take k, k⟩).did) by unfold Dk.cut; rw [fnd_some ha hg, if_neg (by simp), if_neg (by show ¬ ((k : Int) < 0 ∨ ((st.fileAt f).b.length : Int) < k); omega)]; rfl)
  have HK := Lib.hid hk
  have HF := Lib.hid (findI_some hg)
  have hf0 : (0 : Int) ≤ (f : Int) := by omega
  have hfl : f < st.files.length := hok.fnow _ (get_mem hg)
  have HFL := Lib.hid hfl
  clear hg hfl hk
  have hlen := hok.lnow
  obtain ⟨vn, vl, vd, vf, fs, hblk, hen, hel, hde, hfi, hfs, hM, hMr⟩ := h
  obtain ⟨na, nc, rfl⟩ := ownsRow_len hen
  have HEN := Lib.hid hen
  have HEL := Lib.hid hel
  have HDE := Lib.hid hde
  have HFI := Lib.hid hfi
  have HFS := Lib.hid hfs
  have HBLK := Lib.hid hblk
  have HM := Lib.hid hM
  have HMR := Lib.hid hMr
  have hml := blk_lt hblk
  obtain ⟨c0, c1, c2, c3, c4, c5, cf⟩ := cells6 hblk
  have cf1 := cf 1
  have cf2 := cf 2
  have cf3 := cf 3
  have cf4 := cf 4
  clear hen hel hde hfi hfs hM hMr hblk hok ha cf
  go_enter Try.func47, Try.ntmps47
  go_wp2_with fail
  refine wp_region_now0 [3, 5] [(0, 0), (1, 0), (2, 0), (3, 2), (4, 0), (5, 2), (6, 1), (7, 0)] (by kernel_rfl) (by kernel_rfl) rfl (by kernel_rfl) ?_
  refine stepE0 rfl rfl (fun K hK => ?_)
  go_simp
  refine hK _ ?_
  clear hK K
  refine stepE0 rfl rfl (fun K hK => ?_)
  go_simp
  refine hK _ ?_
  clear hK K
  refine stepE0 rfl rfl (fun K hK => ?_)
  go_simp
  refine hK _ ?_
  clear hK K
  refine stepE2 rfl rfl ?_ (fun w1 hS => ?_) (fun K hK => ?_)
  rotate_left
  focus (obtain rfl : w1 = _ := hS; go_simp; rfl)
  go_simp
  refine hK _ ?_
  clear hK K
  refine stepE0 rfl rfl (fun K hK => ?_)
  go_simp
  refine hK _ ?_
  clear hK K
  refine stepE2 rfl rfl ?_ (fun w1 hS => ?_) (fun K hK => ?_)
  rotate_left
  focus (obtain rfl : w1 = _ := hS; go_simp; rfl)
  go_simp
  refine hK _ ?_
  clear hK K
  refine stepE1 rfl rfl (by kernel_rfl) (fun K hK => ?_)
  (go_wp2_with fail; refine Calls.mono (find07_any _ _ _ st.now nm _ rfl ((reads_of_owns HEN.out).below (by repeat (first | (with_reducible exact Below.refl _ _) | (with_reducible refine Below.setCell ?_ ?_ _) | (with_reducible refine Below.alloc ?_ ?_ _) | (with_reducible refine Below.drewN ?_ _) | (with_reducible refine Below.drew ?_) | (with_reducible exact Nat.le_refl _) | (focus (simp only [World.size_alloc, World.size_setCell, World.size_drew, World.size_drewN]; omega)) | omega | exact Nat.le_refl _ | (focus (simp; done)) | (focus (simp; omega))))) (by omega)) ?_; rintro e w2 ⟨rfl, rfl⟩; rw [HF.out]; go_wp2)
  refine stepE0 rfl rfl (fun K hK => ?_)
  go_simp
  refine hK _ ?_
  clear hK K
  try refine stepEnil0 ?_
  go_wp2_with fail
  refine (rwrite6_any m N f M st nm to b k am pn lf ab af cb cf _ (H.out.below (by repeat (first | (with_reducible exact Below.refl _ _) | (with_reducible refine Below.setCell ?_ ?_ _) | (with_reducible refine Below.alloc ?_ ?_ _) | (with_reducible refine Below.drewN ?_ _) | (with_reducible refine Below.drew ?_) | (with_reducible exact Nat.le_refl _) | (focus (simp only [World.size_alloc, World.size_setCell, World.size_drew, World.size_drewN]; omega)) | omega | exact Nat.le_refl _ | (focus (simp; done)) | (focus (simp; omega))))) HOK.out HFL.out HK.out).mono ?_
  rintro e w5 ⟨rfl, h5⟩
  have H5 := Lib.hid h5
  clear h5
  go_wp2_with fail
  go_ret
  exact RDeedOut.yes (H5.out.from (by repeat (first | (with_reducible exact Below.refl _ _) | (with_reducible refine Below.setCell ?_ ?_ _) | (with_reducible refine Below.alloc ?_ ?_ _) | (with_reducible refine Below.drewN ?_ _) | (with_reducible refine Below.drew ?_) | (with_reducible exact Nat.le_refl _) | (focus (simp only [World.size_alloc, World.size_setCell, World.size_drew, World.size_drewN]; omega)) | omega | exact Nat.le_refl _ | (focus (simp; done)) | (focus (simp; omega))))) rfl HR.out
end Go.Proofs.Ytcicnjlkcbimgaa
