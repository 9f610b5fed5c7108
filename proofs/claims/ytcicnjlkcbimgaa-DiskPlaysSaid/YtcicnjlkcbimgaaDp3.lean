/- Joined texts: Ref07r, Ref07s, Ref07t. -/
import Derived.Test.YtcicnjlkcbimgaaDpRef07p
import Derived.Test.YtcicnjlkcbimgaaDpRef07q
import Derived.Test.YtcicnjlkcbimgaaDisk07
/- corncribref07: laws for (*Disk).Do. -/
namespace Go.Proofs.Ytcicnjlkcbimgaa
open Go.RowKit Go.Maps
theorem rcrash_any (m N : Nat) (M : Nat → Prop) (st : Dk) (p : DPicks) (af : Option Addr) (cf : Nat) (w : World) (h : RefAt w m M st) (hok : DkOk N st) (hN : N ≤ 4096) (hks : ∀ x ∈ st.deeds, x.kind ≤ 2) (hMl : ∀ k, M k → k < w.heap.size)
    (hp : ∀ w', Keeps M w w' → Reads w' 2 (.slice af p.files.length cf) p.files.length (p.files.flatMap DPick.row)) (hnf : p.files.length ≤ 1000) (hn1 : -9223372036854775808 ≤ p.names) (hn2 : p.names ≤ 9223372036854775807) (hpk : ∀ x ∈ p.files, PickOk x) :
    Calls Try.prog 46 #[(.pointer (some ⟨m, 0, none⟩)), .agg #[.int .i64 p.names, .slice af p.files.length cf]] w fun e w' => e = .returned (.tuple #[]) ∧ RTo w w' m M (st.crash p) := by
  by_cases hle : st.deeds.length ≤ p.names.toNat
  · exact rcrash_all m N M st p af cf w h hok hN hks hMl hp hnf hn1 hn2 hpk hle
  · exact rcrash_few m N M st p af cf w h hok hN hks hMl hp hnf hn1 hn2 hpk (by omega)
/-- What a call answers. -/
def RDoOut (w : World) (m : Nat) (M : Nat → Prop) (xs : List UInt8) (n k : Int) (st : Dk) (e : Ending) (w' : World) : Prop :=
  ∃ v, e = .returned (.tuple #[v, .int .i64 n, .int .i64 k]) ∧ Reads w' 1 v xs.length (xs.map bv) ∧ RTo w w' m M st
theorem cells8 {w : World} {b : Nat} {t : TypeId} {v0 v1 v2 v3 v4 v5 v6 v7 : Value} (h : w.heap[b]? = some (.cells #[v0, v1, v2, v3, v4, v5, v6, v7] t (0, 0))) :
    w.cell? ⟨b, 0, none⟩ = some v0 ∧ w.cell? ⟨b, 1, none⟩ = some v1 ∧ w.cell? ⟨b, 2, none⟩ = some v2 ∧ w.cell? ⟨b, 3, none⟩ = some v3 ∧ w.cell? ⟨b, 4, none⟩ = some v4 ∧ w.cell? ⟨b, 5, none⟩ = some v5 ∧ w.cell? ⟨b, 6, none⟩ = some v6 ∧ w.cell? ⟨b, 7, none⟩ = some v7 := by
  have e := fun j => cell_of_row w b j _ _ _ h
  exact ⟨e 0, e 1, e 2, e 3, e 4, e 5, e 6, e 7⟩
theorem reads_none (w : World) (s : Nat) : Reads w s (.slice none 0 0) ([] : List UInt8).length (([] : List UInt8).map bv) := ⟨by simp, .inl ⟨rfl, rfl⟩⟩
theorem run_midT (T e : TypeId) (hT : Try.prog.underlying T = some (.slice e)) (hs : ∀ W, (sizeOf e).run Try.prog W = .ok 1 W) (a : Option Addr) (len c l h : Nat) (h1 : l ≤ h) (h2 : h ≤ c) (W : World) :
    (Instr.slice T (.slice a len c) (some (.int .i64 l)) (some (.int .i64 h)) none).run Try.prog W = .ok (.slice (if c = l then a else a.map (·.add (l * 1))) (h - l) (c - l)) W := by
  simp [Instr.slice, run_underlying hT, Instr.sliceBounds, run_sliceBound, hs, Result.andThen, (by omega : (0 : Int) ≤ (l : Int)), (by omega : (l : Int) ≤ (h : Int)), (by omega : (h : Int) ≤ (c : Int))]
theorem mid_reads {w : World} {base n c l k : Nat} {a : Option Addr} {b : List UInt8} (h : w.ownsRow base 5 1 (.slice a n c) n (b.map bv)) (hb : b.length = n) (hi : l + k ≤ n) :
    Reads w 1 (.slice (if c = l then a else a.map (·.add (l * 1))) k (c - l)) k (((b.drop l).take k).map bv) := by
  have hl : ((b.drop l).take k).length = k := by rw [List.length_take, List.length_drop]; omega
  refine ⟨by rw [List.length_map, hl]; omega, ?_⟩
  rcases h.2 with ⟨e, h0⟩ | ⟨g, cap, cur, e, hg, hh, h1, h2, h3⟩
  · simp only [Value.slice.injEq] at e
    obtain ⟨rfl, _, rfl⟩ := e
    have : k = 0 := by omega
    subst this
    exact .inl ⟨by simp, rfl⟩
  · simp only [Value.slice.injEq] at e
    obtain ⟨rfl, _, rfl⟩ := e
    by_cases hz : c = l
    · rw [if_pos hz]
      refine .inr ⟨_, _, rfl, by omega, fun m u hu => ?_⟩
      have hm : m < k := by
        have := (List.getElem?_eq_some_iff.1 hu).1
        rw [List.length_map, hl] at this
        exact this
      omega
    · rw [if_neg hz]
      refine .inr ⟨_, _, rfl, by omega, fun m u hu => ?_⟩
      have hm : m < k := by
        have := (List.getElem?_eq_some_iff.1 hu).1
        rw [List.length_map, hl] at this
        exact this
      have h5 := h.cellAt (l + m) (by omega)
      have hadd : ((⟨g, 0, none⟩ : Addr).add (l * 1)).add m = ⟨g, l + m, none⟩ := by
        simp only [Addr.add, Nat.mul_one]
        by_cases h1 : l = 0 <;> by_cases h2 : m = 0 <;> simp [h1, h2]
      rw [hadd, h5, ← hu, List.getElem?_map, List.getElem?_map, List.getElem?_take, if_pos hm, List.getElem?_drop]
theorem rset_b {w w2 : World} {m gf cg f : Nat} {M : Nat → Prop} {st : Dk} {vn vl vd vb v0 : Value} {fs : List (Value × DFile)} {x x0 : DFile} (hblk : w.heap[m]? = some (.cells #[.int .i64 st.cap, vn, vl, vd, .slice (some ⟨gf, 0, none⟩) fs.length cg, .int .i64 st.armed] 64 (0, 0)))
    (hM : M m) (hMr : ∀ k, (vn.ownBlock = some k ∨ vl.ownBlock = some k ∨ vd.ownBlock = some k ∨ (Value.slice (some ⟨gf, 0, none⟩) fs.length cg).ownBlock = some k) → M k) (hen : REnts w vn st.now) (hel : REnts w vl st.lasting) (hde : RDeeds w vd st.deeds) (hfi : RFiles w M (.slice (some ⟨gf, 0, none⟩) fs.length cg) fs) (hfs : fs.map (·.2) = st.files)
    (hx0 : fs[f]? = some (v0, x0)) (hl : x.lasts = x0.lasts) (hb : Below w.heap.size w w2) (hrb : RB w2 vb x.b) (hvb : ∀ k, vb.ownBlock = some k → M k ∨ w.heap.size ≤ k) :
    RTo w (w2.setCell ⟨gf, f * 2, none⟩ vb) m M (st.setF f x) := by
  have hf := (List.getElem?_eq_some_iff.1 hx0).1
  have hgM : M gf := hMr gf (.inr (.inr (.inr rfl)))
  have hk2 : Keeps (fun k => k = gf) w2 (w2.setCell ⟨gf, f * 2, none⟩ vb) := keeps_set (f * 2) vb
  have hkF : Keeps (fun k => k = gf) w (w2.setCell ⟨gf, f * 2, none⟩ vb) := Keeps.trans (keeps_below _ hb) hk2 fun _ _ e => e
  have hfr := ownsRow_below hfi.1 hb
  have hh : Hits w2 (fun k => k = gf) (70 + 1) := fun k y hk hy => hits_row hfr k y (by rw [hk]; rfl) hy
  have e1 : (72 + 1 : Nat) ≠ 70 + 1 := by decide
  have e2 : (115 + 1 : Nat) ≠ 70 + 1 := by decide
  have e3 : (64 + 1 : Nat) ≠ 70 + 1 := by decide
  have e4 : (5 + 1 : Nat) ≠ 70 + 1 := by decide
  have hz := hk2.size
  have hrow := (hfr.stored (f * 2) vb).1
  have hset : (fs.flatMap fileRow).set (f * 2) vb = (fs.set f (vb, x)).flatMap fileRow := by
    apply List.ext_getElem?
    intro q
    have hq : q = (q / 2) * 2 + q % 2 := by omega
    have hq2 : q % 2 < 2 := by omega
    rw [List.getElem?_set, hq, getElem?_flatMap_row fileRow 2 fileRow_len fs (q / 2) (q % 2) hq2, getElem?_flatMap_row fileRow 2 fileRow_len (fs.set f (vb, x)) (q / 2) (q % 2) hq2, List.getElem?_set, length_flatMap_row fileRow 2 fileRow_len]
    by_cases hfq : f = q / 2
    · subst hfq
      rw [if_pos rfl, if_pos hf]
      by_cases hr : q % 2 = 0
      · rw [hr, if_pos (by omega), if_pos (by omega)]
        rfl
      · have hr1 : q % 2 = 1 := by omega
        rw [hr1, if_neg (by omega), hx0]
        show (fileRow (v0, x0))[1]? = (fileRow (vb, x))[1]?
        simp [fileRow, hl]
    · rw [if_neg (by omega), if_neg hfq]
  rw [hset] at hrow
  refine ⟨⟨vn, vl, vd, .slice (some ⟨gf, 0, none⟩) fs.length cg, fs.set f (vb, x), keep_blk hk2 hh (blk_below hblk hb) e3, keep_row hk2 hh (ownsRow_below hen hb) e1, keep_row hk2 hh (ownsRow_below hel hb) e1, keep_row hk2 hh (ownsRow_below hde hb) e2, ⟨?_, ?_⟩, ?_, .inl hM, fun k e => .inl (hMr k e)⟩, Keeps.mono hkF fun k _ e => by rw [e]; exact hgM⟩
  · rw [List.length_set]
    exact hrow
  · intro p hp
    rcases List.mem_or_eq_of_mem_set hp with hp | rfl
    · exact ⟨keep_row hk2 hh (ownsRow_below (hfi.2 p hp).1 hb) e4, fun k e => .inl ((hfi.2 p hp).2 k e)⟩
    · have hnew := keep_row hk2 hh hrb e4
      exact ⟨hnew, fun k e => (hvb k e).imp id fun h => ⟨h, (hnew.lt k e).2⟩⟩
  · rw [List.map_set, hfs]
    rfl
theorem dead_call {st : Dk} (h : st.armed = 0) (a : DAct) (h8 : a.kind ≠ 8) : st.call a = (12, st) ∧ st.callB a = [] ∧ st.callN a = 0 := by
  have hf : ∀ s, st.fnd s = (12, 0) := fun s => by unfold Dk.fnd; rw [if_pos h]
  refine ⟨?_, ?_, ?_⟩
  · unfold Dk.call
    split
    · unfold Dk.create; rw [if_pos h]
    split
    · unfold Dk.append; rw [hf, if_pos (by simp)]
    split
    · unfold Dk.sync; rw [hf, if_pos (by simp)]
    split
    · unfold Dk.syncNames; rw [if_pos h]
    split
    · unfold Dk.rename; rw [hf, if_pos (by simp)]
    split
    · unfold Dk.remove; rw [hf, if_pos (by simp)]
    split
    · unfold Dk.cut; rw [hf, if_pos (by simp)]
    split
    · unfold Dk.arm; rw [if_pos h]
    split
    · unfold Dk.spoil; rw [hf, if_pos (by simp)]
    split
    · unfold Dk.read; rw [hf, if_pos (by simp)]
    · unfold Dk.size; rw [hf, if_pos (by simp)]
  · unfold Dk.callB
    split
    · unfold Dk.read; rw [hf, if_pos (by simp)]
    · rfl
  · unfold Dk.callN
    split
    · rfl
    · unfold Dk.size; rw [hf, if_pos (by simp)]
end Go.Proofs.Ytcicnjlkcbimgaa

/- corncribref07: (*Disk).Do (written by genref07d.py). -/
namespace Go.Proofs.Ytcicnjlkcbimgaa
open Go.RowKit Go.Maps
set_option maxRecDepth 100000 in
set_option maxHeartbeats 4000000 in
theorem rdo_dead (m N : Nat) (M : Nat → Prop) (st : Dk) (nm to : Nm) (b : List UInt8) (ab af : Option Addr) (cb lf cf : Nat) (an am pn : Int) (w : World) (h : RefAt w m M st) (hok : DkOk N st) (hN : N < 4096) (k : Int) (h8 : k ≠ 8) (ha : st.armed = 0) :
    Calls Try.prog 28 #[(.pointer (some ⟨m, 0, none⟩)), .agg #[.int .i64 k, .string ⟨nm.toArray⟩, .string ⟨to.toArray⟩, .slice ab b.length cb, .int .i64 an, .int .i64 am, .int .i64 pn, .slice af lf cf]] w (RDoOut w m M [] 0 12 st) := by
  have H := Lib.hid h
  have hk8 : (k == 8) = false := by simpa using h8
  have hk82 : decide (k = 8) = false := by simpa using h8
  have HOK := Lib.hid hok
  obtain ⟨vn, vl, vd, vf, fs, hblk, hen, hel, hde, hfi, hfs, hM, hMr⟩ := h
  have HBLK := Lib.hid hblk
  have hml := blk_lt hblk
  obtain ⟨c0, c1, c2, c3, c4, c5, cfz⟩ := cells6 hblk
  have cf5 := cfz 5
  have HEN := Lib.hid hen
  have HEL := Lib.hid hel
  have HDE := Lib.hid hde
  have HFI := Lib.hid hfi
  have HFS := Lib.hid hfs
  have HM := Lib.hid hM
  have HMR := Lib.hid hMr
  clear hblk hen hel hde hfi hfs hM hMr hok cfz
  rw [ha] at c5
  go_enter Try.func28, Try.ntmps28
  go_wp2_with fail
  go_ret3
  exact ⟨.slice none 0 0, rfl, reads_none _ _, RTo.below H.out (by repeat (first | (with_reducible exact Below.refl _ _) | (with_reducible refine Below.setCell ?_ ?_ _) | (with_reducible refine Below.alloc ?_ ?_ _) | (with_reducible refine Below.drewN ?_ _) | (with_reducible refine Below.drew ?_) | (with_reducible exact Nat.le_refl _) | (focus (simp only [World.size_alloc, World.size_setCell, World.size_drew, World.size_drewN]; omega)) | omega | exact Nat.le_refl _ | (focus (simp; done)) | (focus (simp; omega))))⟩
set_option maxRecDepth 100000 in
set_option maxHeartbeats 4000000 in
theorem rdo7_no (m N : Nat) (M : Nat → Prop) (st : Dk) (nm to : Nm) (b : List UInt8) (ab af : Option Addr) (cb lf cf : Nat) (an am pn : Int) (w : World) (h : RefAt w m M st) (hok : DkOk N st) (hN : N < 4096) (ha : st.armed ≠ 0) (hn : an < 0) :
    Calls Try.prog 28 #[(.pointer (some ⟨m, 0, none⟩)), .agg #[.int .i64 7, .string ⟨nm.toArray⟩, .string ⟨to.toArray⟩, .slice ab b.length cb, .int .i64 an, .int .i64 am, .int .i64 pn, .slice af lf cf]] w (RDoOut w m M [] 0 1 st) := by
  have ha0 : (st.armed == 0) = false := by simpa using ha
  have ha1 : decide (st.armed = 0) = false := by simpa using ha
  have H := Lib.hid h
  have HOK := Lib.hid hok
  obtain ⟨vn, vl, vd, vf, fs, hblk, hen, hel, hde, hfi, hfs, hM, hMr⟩ := h
  have HBLK := Lib.hid hblk
  have hml := blk_lt hblk
  obtain ⟨c0, c1, c2, c3, c4, c5, cfz⟩ := cells6 hblk
  have cf5 := cfz 5
  have HEN := Lib.hid hen
  have HEL := Lib.hid hel
  have HDE := Lib.hid hde
  have HFI := Lib.hid hfi
  have HFS := Lib.hid hfs
  have HM := Lib.hid hM
  have HMR := Lib.hid hMr
  clear hblk hen hel hde hfi hfs hM hMr hok cfz
  go_enter Try.func28, Try.ntmps28
  go_wp2_with fail
  go_ret3
  exact ⟨.slice none 0 0, rfl, reads_none _ _, RTo.below H.out (by repeat (first | (with_reducible exact Below.refl _ _) | (with_reducible refine Below.setCell ?_ ?_ _) | (with_reducible refine Below.alloc ?_ ?_ _) | (with_reducible refine Below.drewN ?_ _) | (with_reducible refine Below.drew ?_) | (with_reducible exact Nat.le_refl _) | (focus (simp only [World.size_alloc, World.size_setCell, World.size_drew, World.size_drewN]; omega)) | omega | exact Nat.le_refl _ | (focus (simp; done)) | (focus (simp; omega))))⟩
set_option maxRecDepth 100000 in
set_option maxHeartbeats 4000000 in
theorem rdo7_do (m N : Nat) (M : Nat → Prop) (st : Dk) (nm to : Nm) (b : List UInt8) (ab af : Option Addr) (cb lf cf : Nat) (an am pn : Int) (w : World) (h : RefAt w m M st) (hok : DkOk N st) (hN : N < 4096) (ha : st.armed ≠ 0) (hn : ¬ an < 0) :
    Calls Try.prog 28 #[(.pointer (some ⟨m, 0, none⟩)), .agg #[.int .i64 7, .string ⟨nm.toArray⟩, .string ⟨to.toArray⟩, .slice ab b.length cb, .int .i64 an, .int .i64 am, .int .i64 pn, .slice af lf cf]] w (RDoOut w m M [] 0 0 { st with armed := an }) := by
  have ha0 : (st.armed == 0) = false := by simpa using ha
  have ha1 : decide (st.armed = 0) = false := by simpa using ha
  have hn0 : decide (an < 0) = false := by simpa using hn
  have H := Lib.hid h
  have HOK := Lib.hid hok
  obtain ⟨vn, vl, vd, vf, fs, hblk, hen, hel, hde, hfi, hfs, hM, hMr⟩ := h
  have HBLK := Lib.hid hblk
  have hml := blk_lt hblk
  obtain ⟨c0, c1, c2, c3, c4, c5, cfz⟩ := cells6 hblk
  have cf5 := cfz 5
  have HEN := Lib.hid hen
  have HEL := Lib.hid hel
  have HDE := Lib.hid hde
  have HFI := Lib.hid hfi
  have HFS := Lib.hid hfs
  have HM := Lib.hid hM
  have HMR := Lib.hid hMr
  clear hblk hen hel hde hfi hfs hM hMr hok cfz
  go_enter Try.func28, Try.ntmps28
  go_wp2_with fail
  go_ret3
  have hR := rfix (st' := { st with armed := an }) (w' := w.setCell ⟨m, 5, none⟩ (.int .i64 an)) HBLK.out rfl (keeps_set 5 _) (by have h9 := blk_put HBLK.out 5 (.int .i64 an); simp only [List.setIfInBounds_toArray, List.set_cons_succ, List.set_cons_zero] at h9; exact h9) HEN.out HEL.out HDE.out HFI.out HFS.out HM.out HMR.out
  exact ⟨.slice none 0 0, rfl, reads_none _ _, hR.after (by repeat (first | (with_reducible exact Below.refl _ _) | (with_reducible refine Below.setCell ?_ ?_ _) | (with_reducible refine Below.alloc ?_ ?_ _) | (with_reducible refine Below.drewN ?_ _) | (with_reducible refine Below.drew ?_) | (with_reducible exact Nat.le_refl _) | (focus (simp only [World.size_alloc, World.size_setCell, World.size_drew, World.size_drewN]; omega)) | omega | exact Nat.le_refl _ | (focus (simp; done)) | (focus (simp; omega))))⟩
set_option maxRecDepth 100000 in
set_option maxHeartbeats 4000000 in
theorem rdo8 (m N : Nat) (M : Nat → Prop) (st : Dk) (nm to : Nm) (b : List UInt8) (ab af : Option Addr) (cb lf cf : Nat) (an am pn : Int) (w : World) (h : RefAt w m M st) (hok : DkOk N st) (hN : N < 4096) (hks : ∀ x ∈ st.deeds, x.kind ≤ 2) (hMl : ∀ k, M k → k < w.heap.size) (fp : List DPick) (hlf : fp.length = lf) (hp : ∀ w', Keeps M w w' → Reads w' 2 (.slice af lf cf) lf (fp.flatMap DPick.row)) (hnf : lf ≤ 1000) (hn1 : -9223372036854775808 ≤ pn) (hn2 : pn ≤ 9223372036854775807) (hpk : ∀ x ∈ fp, PickOk x) :
    Calls Try.prog 28 #[(.pointer (some ⟨m, 0, none⟩)), .agg #[.int .i64 8, .string ⟨nm.toArray⟩, .string ⟨to.toArray⟩, .slice ab b.length cb, .int .i64 an, .int .i64 am, .int .i64 pn, .slice af lf cf]] w (RDoOut w m M [] 0 0 (st.crash ⟨pn, fp⟩)) := by
  subst hlf
  have HKS := Lib.hid hks
  have HML := Lib.hid hMl
  have HP := Lib.hid hp
  have HPK := Lib.hid hpk
  clear hks hMl hp hpk
  have H := Lib.hid h
  have HOK := Lib.hid hok
  obtain ⟨vn, vl, vd, vf, fs, hblk, hen, hel, hde, hfi, hfs, hM, hMr⟩ := h
  have HBLK := Lib.hid hblk
  have hml := blk_lt hblk
  obtain ⟨c0, c1, c2, c3, c4, c5, cfz⟩ := cells6 hblk
  have cf5 := cfz 5
  have HEN := Lib.hid hen
  have HEL := Lib.hid hel
  have HDE := Lib.hid hde
  have HFI := Lib.hid hfi
  have HFS := Lib.hid hfs
  have HM := Lib.hid hM
  have HMR := Lib.hid hMr
  clear hblk hen hel hde hfi hfs hM hMr hok cfz
  go_enter Try.func28, Try.ntmps28
  go_wp2_with fail
  refine (rcrash_any m N M st ⟨pn, fp⟩ af cf _ (H.out.below (by repeat (first | (with_reducible exact Below.refl _ _) | (with_reducible refine Below.setCell ?_ ?_ _) | (with_reducible refine Below.alloc ?_ ?_ _) | (with_reducible refine Below.drewN ?_ _) | (with_reducible refine Below.drew ?_) | (with_reducible exact Nat.le_refl _) | (focus (simp only [World.size_alloc, World.size_setCell, World.size_drew, World.size_drewN]; omega)) | omega | exact Nat.le_refl _ | (focus (simp; done)) | (focus (simp; omega))))) HOK.out (by omega) HKS.out (fun k hk => by have := HML.out k hk; simp; omega) (fun w' hk => HP.out w' ((keeps_below M (by repeat (first | (with_reducible exact Below.refl _ _) | (with_reducible refine Below.setCell ?_ ?_ _) | (with_reducible refine Below.alloc ?_ ?_ _) | (with_reducible refine Below.drewN ?_ _) | (with_reducible refine Below.drew ?_) | (with_reducible exact Nat.le_refl _) | (focus (simp only [World.size_alloc, World.size_setCell, World.size_drew, World.size_drewN]; omega)) | omega | exact Nat.le_refl _ | (focus (simp; done)) | (focus (simp; omega))))).trans hk fun _ _ e => e)) hnf hn1 hn2 HPK.out).mono ?_
  rintro e w2 ⟨rfl, h2⟩
  have H2 := Lib.hid h2
  clear h2
  go_wp2_with fail
  go_ret3
  exact ⟨.slice none 0 0, rfl, reads_none _ _, H2.out.from (by repeat (first | (with_reducible exact Below.refl _ _) | (with_reducible refine Below.setCell ?_ ?_ _) | (with_reducible refine Below.alloc ?_ ?_ _) | (with_reducible refine Below.drewN ?_ _) | (with_reducible refine Below.drew ?_) | (with_reducible exact Nat.le_refl _) | (focus (simp only [World.size_alloc, World.size_setCell, World.size_drew, World.size_drewN]; omega)) | omega | exact Nat.le_refl _ | (focus (simp; done)) | (focus (simp; omega))))⟩
set_option maxRecDepth 100000 in
set_option maxHeartbeats 4000000 in
theorem rdo_0 (m N : Nat) (M : Nat → Prop) (st : Dk) (nm to : Nm) (b : List UInt8) (ab af : Option Addr) (cb lf cf : Nat) (an am pn : Int) (w : World) (h : RefAt w m M st) (hok : DkOk N st) (hN : N < 4096) (ha : st.armed ≠ 0) (r : Nat × Dk) (hrs : r.1 ≠ 0 → r.2 = st) (hr15 : r.1 ≤ 15) (hd : ∀ W, Below w.heap.size w W → Calls Try.prog 47 #[(.pointer (some ⟨m, 0, none⟩)), .agg #[.int .i64 0, .string ⟨nm.toArray⟩, .string ⟨to.toArray⟩, .slice ab b.length cb, .int .i64 an, .int .i64 am, .int .i64 pn, .slice af lf cf]] W (RDeedOut W m M st r)) :
    Calls Try.prog 28 #[(.pointer (some ⟨m, 0, none⟩)), .agg #[.int .i64 0, .string ⟨nm.toArray⟩, .string ⟨to.toArray⟩, .slice ab b.length cb, .int .i64 an, .int .i64 am, .int .i64 pn, .slice af lf cf]] w (RDoOut w m M [] 0 r.1 r.2) := by
  have HD := Lib.hid hd
  have HRS := Lib.hid hrs
  clear hd hrs
  have ha0 : (st.armed == 0) = false := by simpa using ha
  have ha1 : decide (st.armed = 0) = false := by simpa using ha
  have H := Lib.hid h
  have HOK := Lib.hid hok
  obtain ⟨vn, vl, vd, vf, fs, hblk, hen, hel, hde, hfi, hfs, hM, hMr⟩ := h
  have HBLK := Lib.hid hblk
  have hml := blk_lt hblk
  obtain ⟨c0, c1, c2, c3, c4, c5, cfz⟩ := cells6 hblk
  have cf5 := cfz 5
  have HEN := Lib.hid hen
  have HEL := Lib.hid hel
  have HDE := Lib.hid hde
  have HFI := Lib.hid hfi
  have HFS := Lib.hid hfs
  have HM := Lib.hid hM
  have HMR := Lib.hid hMr
  clear hblk hen hel hde hfi hfs hM hMr hok cfz
  go_enter Try.func28, Try.ntmps28
  go_wp2_with fail
  refine (HD.out _ (by repeat (first | (with_reducible exact Below.refl _ _) | (with_reducible refine Below.setCell ?_ ?_ _) | (with_reducible refine Below.alloc ?_ ?_ _) | (with_reducible refine Below.drewN ?_ _) | (with_reducible refine Below.drew ?_) | (with_reducible exact Nat.le_refl _) | (focus (simp only [World.size_alloc, World.size_setCell, World.size_drew, World.size_drewN]; omega)) | omega | exact Nat.le_refl _ | (focus (simp; done)) | (focus (simp; omega))))).mono ?_
  rintro e w2 ⟨rfl, s, hR, has, h0, h1⟩
  obtain ⟨r1, r2⟩ := r
  simp only at h0 h1 hr15 HRS ⊢
  have HAB := Lib.hid HOK.out.armed
  have hsz := hR.2.size
  simp only [World.size_alloc] at hsz
  have HRT := Lib.hid (show RTo w w2 m M s from hR.from (by repeat (first | (with_reducible exact Below.refl _ _) | (with_reducible refine Below.setCell ?_ ?_ _) | (with_reducible refine Below.alloc ?_ ?_ _) | (with_reducible refine Below.drewN ?_ _) | (with_reducible refine Below.drew ?_) | (with_reducible exact Nat.le_refl _) | (focus (simp only [World.size_alloc, World.size_setCell, World.size_drew, World.size_drewN]; omega)) | omega | exact Nat.le_refl _ | (focus (simp; done)) | (focus (simp; omega)))))
  have HAS := Lib.hid has
  clear hR has c0 c1 c2 c3 c4 c5 cf5 HBLK HEN HEL HDE HFI HFS HM HMR
  obtain ⟨vn, vl, vd, vf, fs, hblk, hen, hel, hde, hfi, hfs, hM, hMr⟩ := HRT.out.1
  have HBLK := Lib.hid hblk
  have hml2 := blk_lt hblk
  obtain ⟨c0, c1, c2, c3, c4, c5, cfz⟩ := cells6 hblk
  have cf5 := cfz 5
  have HEN := Lib.hid hen
  have HEL := Lib.hid hel
  have HDE := Lib.hid hde
  have HFI := Lib.hid hfi
  have HFS := Lib.hid hfs
  have HM := Lib.hid hM
  have HMR := Lib.hid hMr
  clear hblk hen hel hde hfi hfs hM hMr cfz c0 c1 c2 c3 c4
  by_cases hz : r1 = 0
  · subst hz
    have H0 := Lib.hid (h0 rfl)
    clear h0 h1
    by_cases hp : 0 < s.armed
    · have hw : IntKind.i64.wrap (s.armed - 1) = s.armed - 1 := IntWalk.i64_in _ (by have := HAB.out; rw [← HAS.out] at this; omega)
      have hR := rfix (st' := { s with armed := s.armed - 1 }) (w' := w2.setCell ⟨m, 5, none⟩ (.int .i64 (s.armed - 1))) HBLK.out rfl (keeps_set 5 _) (by have h9 := blk_put HBLK.out 5 (.int .i64 (s.armed - 1)); simp only [List.setIfInBounds_toArray, List.set_cons_succ, List.set_cons_zero] at h9; exact h9) HEN.out HEL.out HDE.out HFI.out HFS.out HM.out HMR.out
      have HR2 := Lib.hid (show RTo w (w2.setCell ⟨m, 5, none⟩ (.int .i64 (s.armed - 1))) m M r2 by
        rw [← H0.out]
        unfold Dk.did
        rw [if_pos hp]
        exact HRT.out.trans hR)
      clear hR
      go_wp2_with fail
      go_ret3
      exact ⟨.slice none 0 0, rfl, reads_none _ _, by first | exact HR2.out | (rw [hw]; exact HR2.out)⟩
    · have hp0 : decide (0 < s.armed) = false := by simpa using hp
      go_wp2_with fail
      go_ret3
      refine ⟨.slice none 0 0, rfl, reads_none _ _, ?_⟩
      have h8 : s.did = s := by
        unfold Dk.did
        rw [if_neg (by omega)]
      rw [← H0.out, h8]
      exact HRT.out
  · have H1 := Lib.hid (h1 hz)
    have hz0 : ((r1 : Int) == 0) = false := by simpa using hz
    have hz1 : decide ((r1 : Int) = 0) = false := by simpa using hz
    have hz2 : decide (r1 = 0) = false := by simpa using hz
    have hz3 : (r1 == 0) = false := by simpa using hz
    clear h0 h1
    go_wp2_with fail
    go_ret3
    exact ⟨.slice none 0 0, rfl, reads_none _ _, by rw [← H1.out]; exact HRT.out⟩
set_option maxRecDepth 100000 in
set_option maxHeartbeats 4000000 in
theorem rdo_1 (m N : Nat) (M : Nat → Prop) (st : Dk) (nm to : Nm) (b : List UInt8) (ab af : Option Addr) (cb lf cf : Nat) (an am pn : Int) (w : World) (h : RefAt w m M st) (hok : DkOk N st) (hN : N < 4096) (ha : st.armed ≠ 0) (r : Nat × Dk) (hrs : r.1 ≠ 0 → r.2 = st) (hr15 : r.1 ≤ 15) (hd : ∀ W, Below w.heap.size w W → Calls Try.prog 47 #[(.pointer (some ⟨m, 0, none⟩)), .agg #[.int .i64 1, .string ⟨nm.toArray⟩, .string ⟨to.toArray⟩, .slice ab b.length cb, .int .i64 an, .int .i64 am, .int .i64 pn, .slice af lf cf]] W (RDeedOut W m M st r)) :
    Calls Try.prog 28 #[(.pointer (some ⟨m, 0, none⟩)), .agg #[.int .i64 1, .string ⟨nm.toArray⟩, .string ⟨to.toArray⟩, .slice ab b.length cb, .int .i64 an, .int .i64 am, .int .i64 pn, .slice af lf cf]] w (RDoOut w m M [] 0 r.1 r.2) := by
  have HD := Lib.hid hd
  have HRS := Lib.hid hrs
  clear hd hrs
  have ha0 : (st.armed == 0) = false := by simpa using ha
  have ha1 : decide (st.armed = 0) = false := by simpa using ha
  have H := Lib.hid h
  have HOK := Lib.hid hok
  obtain ⟨vn, vl, vd, vf, fs, hblk, hen, hel, hde, hfi, hfs, hM, hMr⟩ := h
  have HBLK := Lib.hid hblk
  have hml := blk_lt hblk
  obtain ⟨c0, c1, c2, c3, c4, c5, cfz⟩ := cells6 hblk
  have cf5 := cfz 5
  have HEN := Lib.hid hen
  have HEL := Lib.hid hel
  have HDE := Lib.hid hde
  have HFI := Lib.hid hfi
  have HFS := Lib.hid hfs
  have HM := Lib.hid hM
  have HMR := Lib.hid hMr
  clear hblk hen hel hde hfi hfs hM hMr hok cfz
  go_enter Try.func28, Try.ntmps28
  go_wp2_with fail
  refine (HD.out _ (by repeat (first | (with_reducible exact Below.refl _ _) | (with_reducible refine Below.setCell ?_ ?_ _) | (with_reducible refine Below.alloc ?_ ?_ _) | (with_reducible refine Below.drewN ?_ _) | (with_reducible refine Below.drew ?_) | (with_reducible exact Nat.le_refl _) | (focus (simp only [World.size_alloc, World.size_setCell, World.size_drew, World.size_drewN]; omega)) | omega | exact Nat.le_refl _ | (focus (simp; done)) | (focus (simp; omega))))).mono ?_
  rintro e w2 ⟨rfl, s, hR, has, h0, h1⟩
  obtain ⟨r1, r2⟩ := r
  simp only at h0 h1 hr15 HRS ⊢
  have HAB := Lib.hid HOK.out.armed
  have hsz := hR.2.size
  simp only [World.size_alloc] at hsz
  have HRT := Lib.hid (show RTo w w2 m M s from hR.from (by repeat (first | (with_reducible exact Below.refl _ _) | (with_reducible refine Below.setCell ?_ ?_ _) | (with_reducible refine Below.alloc ?_ ?_ _) | (with_reducible refine Below.drewN ?_ _) | (with_reducible refine Below.drew ?_) | (with_reducible exact Nat.le_refl _) | (focus (simp only [World.size_alloc, World.size_setCell, World.size_drew, World.size_drewN]; omega)) | omega | exact Nat.le_refl _ | (focus (simp; done)) | (focus (simp; omega)))))
  have HAS := Lib.hid has
  clear hR has c0 c1 c2 c3 c4 c5 cf5 HBLK HEN HEL HDE HFI HFS HM HMR
  obtain ⟨vn, vl, vd, vf, fs, hblk, hen, hel, hde, hfi, hfs, hM, hMr⟩ := HRT.out.1
  have HBLK := Lib.hid hblk
  have hml2 := blk_lt hblk
  obtain ⟨c0, c1, c2, c3, c4, c5, cfz⟩ := cells6 hblk
  have cf5 := cfz 5
  have HEN := Lib.hid hen
  have HEL := Lib.hid hel
  have HDE := Lib.hid hde
  have HFI := Lib.hid hfi
  have HFS := Lib.hid hfs
  have HM := Lib.hid hM
  have HMR := Lib.hid hMr
  clear hblk hen hel hde hfi hfs hM hMr cfz c0 c1 c2 c3 c4
  by_cases hz : r1 = 0
  · subst hz
    have H0 := Lib.hid (h0 rfl)
    clear h0 h1
    by_cases hp : 0 < s.armed
    · have hw : IntKind.i64.wrap (s.armed - 1) = s.armed - 1 := IntWalk.i64_in _ (by have := HAB.out; rw [← HAS.out] at this; omega)
      have hR := rfix (st' := { s with armed := s.armed - 1 }) (w' := w2.setCell ⟨m, 5, none⟩ (.int .i64 (s.armed - 1))) HBLK.out rfl (keeps_set 5 _) (by have h9 := blk_put HBLK.out 5 (.int .i64 (s.armed - 1)); simp only [List.setIfInBounds_toArray, List.set_cons_succ, List.set_cons_zero] at h9; exact h9) HEN.out HEL.out HDE.out HFI.out HFS.out HM.out HMR.out
      have HR2 := Lib.hid (show RTo w (w2.setCell ⟨m, 5, none⟩ (.int .i64 (s.armed - 1))) m M r2 by
        rw [← H0.out]
        unfold Dk.did
        rw [if_pos hp]
        exact HRT.out.trans hR)
      clear hR
      go_wp2_with fail
      go_ret3
      exact ⟨.slice none 0 0, rfl, reads_none _ _, by first | exact HR2.out | (rw [hw]; exact HR2.out)⟩
    · have hp0 : decide (0 < s.armed) = false := by simpa using hp
      go_wp2_with fail
      go_ret3
      refine ⟨.slice none 0 0, rfl, reads_none _ _, ?_⟩
      have h8 : s.did = s := by
        unfold Dk.did
        rw [if_neg (by omega)]
      rw [← H0.out, h8]
      exact HRT.out
  · have H1 := Lib.hid (h1 hz)
    have hz0 : ((r1 : Int) == 0) = false := by simpa using hz
    have hz1 : decide ((r1 : Int) = 0) = false := by simpa using hz
    have hz2 : decide (r1 = 0) = false := by simpa using hz
    have hz3 : (r1 == 0) = false := by simpa using hz
    clear h0 h1
    go_wp2_with fail
    go_ret3
    exact ⟨.slice none 0 0, rfl, reads_none _ _, by rw [← H1.out]; exact HRT.out⟩
set_option maxRecDepth 100000 in
set_option maxHeartbeats 4000000 in
theorem rdo_2 (m N : Nat) (M : Nat → Prop) (st : Dk) (nm to : Nm) (b : List UInt8) (ab af : Option Addr) (cb lf cf : Nat) (an am pn : Int) (w : World) (h : RefAt w m M st) (hok : DkOk N st) (hN : N < 4096) (ha : st.armed ≠ 0) (r : Nat × Dk) (hrs : r.1 ≠ 0 → r.2 = st) (hr15 : r.1 ≤ 15) (hd : ∀ W, Below w.heap.size w W → Calls Try.prog 47 #[(.pointer (some ⟨m, 0, none⟩)), .agg #[.int .i64 2, .string ⟨nm.toArray⟩, .string ⟨to.toArray⟩, .slice ab b.length cb, .int .i64 an, .int .i64 am, .int .i64 pn, .slice af lf cf]] W (RDeedOut W m M st r)) :
    Calls Try.prog 28 #[(.pointer (some ⟨m, 0, none⟩)), .agg #[.int .i64 2, .string ⟨nm.toArray⟩, .string ⟨to.toArray⟩, .slice ab b.length cb, .int .i64 an, .int .i64 am, .int .i64 pn, .slice af lf cf]] w (RDoOut w m M [] 0 r.1 r.2) := by
  have HD := Lib.hid hd
  have HRS := Lib.hid hrs
  clear hd hrs
  have ha0 : (st.armed == 0) = false := by simpa using ha
  have ha1 : decide (st.armed = 0) = false := by simpa using ha
  have H := Lib.hid h
  have HOK := Lib.hid hok
  obtain ⟨vn, vl, vd, vf, fs, hblk, hen, hel, hde, hfi, hfs, hM, hMr⟩ := h
  have HBLK := Lib.hid hblk
  have hml := blk_lt hblk
  obtain ⟨c0, c1, c2, c3, c4, c5, cfz⟩ := cells6 hblk
  have cf5 := cfz 5
  have HEN := Lib.hid hen
  have HEL := Lib.hid hel
  have HDE := Lib.hid hde
  have HFI := Lib.hid hfi
  have HFS := Lib.hid hfs
  have HM := Lib.hid hM
  have HMR := Lib.hid hMr
  clear hblk hen hel hde hfi hfs hM hMr hok cfz
  go_enter Try.func28, Try.ntmps28
  go_wp2_with fail
  refine (HD.out _ (by repeat (first | (with_reducible exact Below.refl _ _) | (with_reducible refine Below.setCell ?_ ?_ _) | (with_reducible refine Below.alloc ?_ ?_ _) | (with_reducible refine Below.drewN ?_ _) | (with_reducible refine Below.drew ?_) | (with_reducible exact Nat.le_refl _) | (focus (simp only [World.size_alloc, World.size_setCell, World.size_drew, World.size_drewN]; omega)) | omega | exact Nat.le_refl _ | (focus (simp; done)) | (focus (simp; omega))))).mono ?_
  rintro e w2 ⟨rfl, s, hR, has, h0, h1⟩
  obtain ⟨r1, r2⟩ := r
  simp only at h0 h1 hr15 HRS ⊢
  have HAB := Lib.hid HOK.out.armed
  have hsz := hR.2.size
  simp only [World.size_alloc] at hsz
  have HRT := Lib.hid (show RTo w w2 m M s from hR.from (by repeat (first | (with_reducible exact Below.refl _ _) | (with_reducible refine Below.setCell ?_ ?_ _) | (with_reducible refine Below.alloc ?_ ?_ _) | (with_reducible refine Below.drewN ?_ _) | (with_reducible refine Below.drew ?_) | (with_reducible exact Nat.le_refl _) | (focus (simp only [World.size_alloc, World.size_setCell, World.size_drew, World.size_drewN]; omega)) | omega | exact Nat.le_refl _ | (focus (simp; done)) | (focus (simp; omega)))))
  have HAS := Lib.hid has
  clear hR has c0 c1 c2 c3 c4 c5 cf5 HBLK HEN HEL HDE HFI HFS HM HMR
  obtain ⟨vn, vl, vd, vf, fs, hblk, hen, hel, hde, hfi, hfs, hM, hMr⟩ := HRT.out.1
  have HBLK := Lib.hid hblk
  have hml2 := blk_lt hblk
  obtain ⟨c0, c1, c2, c3, c4, c5, cfz⟩ := cells6 hblk
  have cf5 := cfz 5
  have HEN := Lib.hid hen
  have HEL := Lib.hid hel
  have HDE := Lib.hid hde
  have HFI := Lib.hid hfi
  have HFS := Lib.hid hfs
  have HM := Lib.hid hM
  have HMR := Lib.hid hMr
  clear hblk hen hel hde hfi hfs hM hMr cfz c0 c1 c2 c3 c4
  by_cases hz : r1 = 0
  · subst hz
    have H0 := Lib.hid (h0 rfl)
    clear h0 h1
    by_cases hp : 0 < s.armed
    · have hw : IntKind.i64.wrap (s.armed - 1) = s.armed - 1 := IntWalk.i64_in _ (by have := HAB.out; rw [← HAS.out] at this; omega)
      have hR := rfix (st' := { s with armed := s.armed - 1 }) (w' := w2.setCell ⟨m, 5, none⟩ (.int .i64 (s.armed - 1))) HBLK.out rfl (keeps_set 5 _) (by have h9 := blk_put HBLK.out 5 (.int .i64 (s.armed - 1)); simp only [List.setIfInBounds_toArray, List.set_cons_succ, List.set_cons_zero] at h9; exact h9) HEN.out HEL.out HDE.out HFI.out HFS.out HM.out HMR.out
      have HR2 := Lib.hid (show RTo w (w2.setCell ⟨m, 5, none⟩ (.int .i64 (s.armed - 1))) m M r2 by
        rw [← H0.out]
        unfold Dk.did
        rw [if_pos hp]
        exact HRT.out.trans hR)
      clear hR
      go_wp2_with fail
      go_ret3
      exact ⟨.slice none 0 0, rfl, reads_none _ _, by first | exact HR2.out | (rw [hw]; exact HR2.out)⟩
    · have hp0 : decide (0 < s.armed) = false := by simpa using hp
      go_wp2_with fail
      go_ret3
      refine ⟨.slice none 0 0, rfl, reads_none _ _, ?_⟩
      have h8 : s.did = s := by
        unfold Dk.did
        rw [if_neg (by omega)]
      rw [← H0.out, h8]
      exact HRT.out
  · have H1 := Lib.hid (h1 hz)
    have hz0 : ((r1 : Int) == 0) = false := by simpa using hz
    have hz1 : decide ((r1 : Int) = 0) = false := by simpa using hz
    have hz2 : decide (r1 = 0) = false := by simpa using hz
    have hz3 : (r1 == 0) = false := by simpa using hz
    clear h0 h1
    go_wp2_with fail
    go_ret3
    exact ⟨.slice none 0 0, rfl, reads_none _ _, by rw [← H1.out]; exact HRT.out⟩
set_option maxRecDepth 100000 in
set_option maxHeartbeats 4000000 in
theorem rdo_3 (m N : Nat) (M : Nat → Prop) (st : Dk) (nm to : Nm) (b : List UInt8) (ab af : Option Addr) (cb lf cf : Nat) (an am pn : Int) (w : World) (h : RefAt w m M st) (hok : DkOk N st) (hN : N < 4096) (ha : st.armed ≠ 0) (r : Nat × Dk) (hrs : r.1 ≠ 0 → r.2 = st) (hr15 : r.1 ≤ 15) (hd : ∀ W, Below w.heap.size w W → Calls Try.prog 47 #[(.pointer (some ⟨m, 0, none⟩)), .agg #[.int .i64 3, .string ⟨nm.toArray⟩, .string ⟨to.toArray⟩, .slice ab b.length cb, .int .i64 an, .int .i64 am, .int .i64 pn, .slice af lf cf]] W (RDeedOut W m M st r)) :
    Calls Try.prog 28 #[(.pointer (some ⟨m, 0, none⟩)), .agg #[.int .i64 3, .string ⟨nm.toArray⟩, .string ⟨to.toArray⟩, .slice ab b.length cb, .int .i64 an, .int .i64 am, .int .i64 pn, .slice af lf cf]] w (RDoOut w m M [] 0 r.1 r.2) := by
  have HD := Lib.hid hd
  have HRS := Lib.hid hrs
  clear hd hrs
  have ha0 : (st.armed == 0) = false := by simpa using ha
  have ha1 : decide (st.armed = 0) = false := by simpa using ha
  have H := Lib.hid h
  have HOK := Lib.hid hok
  obtain ⟨vn, vl, vd, vf, fs, hblk, hen, hel, hde, hfi, hfs, hM, hMr⟩ := h
  have HBLK := Lib.hid hblk
  have hml := blk_lt hblk
  obtain ⟨c0, c1, c2, c3, c4, c5, cfz⟩ := cells6 hblk
  have cf5 := cfz 5
  have HEN := Lib.hid hen
  have HEL := Lib.hid hel
  have HDE := Lib.hid hde
  have HFI := Lib.hid hfi
  have HFS := Lib.hid hfs
  have HM := Lib.hid hM
  have HMR := Lib.hid hMr
  clear hblk hen hel hde hfi hfs hM hMr hok cfz
  go_enter Try.func28, Try.ntmps28
  go_wp2_with fail
  refine (HD.out _ (by repeat (first | (with_reducible exact Below.refl _ _) | (with_reducible refine Below.setCell ?_ ?_ _) | (with_reducible refine Below.alloc ?_ ?_ _) | (with_reducible refine Below.drewN ?_ _) | (with_reducible refine Below.drew ?_) | (with_reducible exact Nat.le_refl _) | (focus (simp only [World.size_alloc, World.size_setCell, World.size_drew, World.size_drewN]; omega)) | omega | exact Nat.le_refl _ | (focus (simp; done)) | (focus (simp; omega))))).mono ?_
  rintro e w2 ⟨rfl, s, hR, has, h0, h1⟩
  obtain ⟨r1, r2⟩ := r
  simp only at h0 h1 hr15 HRS ⊢
  have HAB := Lib.hid HOK.out.armed
  have hsz := hR.2.size
  simp only [World.size_alloc] at hsz
  have HRT := Lib.hid (show RTo w w2 m M s from hR.from (by repeat (first | (with_reducible exact Below.refl _ _) | (with_reducible refine Below.setCell ?_ ?_ _) | (with_reducible refine Below.alloc ?_ ?_ _) | (with_reducible refine Below.drewN ?_ _) | (with_reducible refine Below.drew ?_) | (with_reducible exact Nat.le_refl _) | (focus (simp only [World.size_alloc, World.size_setCell, World.size_drew, World.size_drewN]; omega)) | omega | exact Nat.le_refl _ | (focus (simp; done)) | (focus (simp; omega)))))
  have HAS := Lib.hid has
  clear hR has c0 c1 c2 c3 c4 c5 cf5 HBLK HEN HEL HDE HFI HFS HM HMR
  obtain ⟨vn, vl, vd, vf, fs, hblk, hen, hel, hde, hfi, hfs, hM, hMr⟩ := HRT.out.1
  have HBLK := Lib.hid hblk
  have hml2 := blk_lt hblk
  obtain ⟨c0, c1, c2, c3, c4, c5, cfz⟩ := cells6 hblk
  have cf5 := cfz 5
  have HEN := Lib.hid hen
  have HEL := Lib.hid hel
  have HDE := Lib.hid hde
  have HFI := Lib.hid hfi
  have HFS := Lib.hid hfs
  have HM := Lib.hid hM
  have HMR := Lib.hid hMr
  clear hblk hen hel hde hfi hfs hM hMr cfz c0 c1 c2 c3 c4
  by_cases hz : r1 = 0
  · subst hz
    have H0 := Lib.hid (h0 rfl)
    clear h0 h1
    by_cases hp : 0 < s.armed
    · have hw : IntKind.i64.wrap (s.armed - 1) = s.armed - 1 := IntWalk.i64_in _ (by have := HAB.out; rw [← HAS.out] at this; omega)
      have hR := rfix (st' := { s with armed := s.armed - 1 }) (w' := w2.setCell ⟨m, 5, none⟩ (.int .i64 (s.armed - 1))) HBLK.out rfl (keeps_set 5 _) (by have h9 := blk_put HBLK.out 5 (.int .i64 (s.armed - 1)); simp only [List.setIfInBounds_toArray, List.set_cons_succ, List.set_cons_zero] at h9; exact h9) HEN.out HEL.out HDE.out HFI.out HFS.out HM.out HMR.out
      have HR2 := Lib.hid (show RTo w (w2.setCell ⟨m, 5, none⟩ (.int .i64 (s.armed - 1))) m M r2 by
        rw [← H0.out]
        unfold Dk.did
        rw [if_pos hp]
        exact HRT.out.trans hR)
      clear hR
      go_wp2_with fail
      go_ret3
      exact ⟨.slice none 0 0, rfl, reads_none _ _, by first | exact HR2.out | (rw [hw]; exact HR2.out)⟩
    · have hp0 : decide (0 < s.armed) = false := by simpa using hp
      go_wp2_with fail
      go_ret3
      refine ⟨.slice none 0 0, rfl, reads_none _ _, ?_⟩
      have h8 : s.did = s := by
        unfold Dk.did
        rw [if_neg (by omega)]
      rw [← H0.out, h8]
      exact HRT.out
  · have H1 := Lib.hid (h1 hz)
    have hz0 : ((r1 : Int) == 0) = false := by simpa using hz
    have hz1 : decide ((r1 : Int) = 0) = false := by simpa using hz
    have hz2 : decide (r1 = 0) = false := by simpa using hz
    have hz3 : (r1 == 0) = false := by simpa using hz
    clear h0 h1
    go_wp2_with fail
    go_ret3
    exact ⟨.slice none 0 0, rfl, reads_none _ _, by rw [← H1.out]; exact HRT.out⟩
set_option maxRecDepth 100000 in
set_option maxHeartbeats 4000000 in
theorem rdo_4 (m N : Nat) (M : Nat → Prop) (st : Dk) (nm to : Nm) (b : List UInt8) (ab af : Option Addr) (cb lf cf : Nat) (an am pn : Int) (w : World) (h : RefAt w m M st) (hok : DkOk N st) (hN : N < 4096) (ha : st.armed ≠ 0) (r : Nat × Dk) (hrs : r.1 ≠ 0 → r.2 = st) (hr15 : r.1 ≤ 15) (hd : ∀ W, Below w.heap.size w W → Calls Try.prog 47 #[(.pointer (some ⟨m, 0, none⟩)), .agg #[.int .i64 4, .string ⟨nm.toArray⟩, .string ⟨to.toArray⟩, .slice ab b.length cb, .int .i64 an, .int .i64 am, .int .i64 pn, .slice af lf cf]] W (RDeedOut W m M st r)) :
    Calls Try.prog 28 #[(.pointer (some ⟨m, 0, none⟩)), .agg #[.int .i64 4, .string ⟨nm.toArray⟩, .string ⟨to.toArray⟩, .slice ab b.length cb, .int .i64 an, .int .i64 am, .int .i64 pn, .slice af lf cf]] w (RDoOut w m M [] 0 r.1 r.2) := by
  have HD := Lib.hid hd
  have HRS := Lib.hid hrs
  clear hd hrs
  have ha0 : (st.armed == 0) = false := by simpa using ha
  have ha1 : decide (st.armed = 0) = false := by simpa using ha
  have H := Lib.hid h
  have HOK := Lib.hid hok
  obtain ⟨vn, vl, vd, vf, fs, hblk, hen, hel, hde, hfi, hfs, hM, hMr⟩ := h
  have HBLK := Lib.hid hblk
  have hml := blk_lt hblk
  obtain ⟨c0, c1, c2, c3, c4, c5, cfz⟩ := cells6 hblk
  have cf5 := cfz 5
  have HEN := Lib.hid hen
  have HEL := Lib.hid hel
  have HDE := Lib.hid hde
  have HFI := Lib.hid hfi
  have HFS := Lib.hid hfs
  have HM := Lib.hid hM
  have HMR := Lib.hid hMr
  clear hblk hen hel hde hfi hfs hM hMr hok cfz
  go_enter Try.func28, Try.ntmps28
  go_wp2_with fail
  refine (HD.out _ (by repeat (first | (with_reducible exact Below.refl _ _) | (with_reducible refine Below.setCell ?_ ?_ _) | (with_reducible refine Below.alloc ?_ ?_ _) | (with_reducible refine Below.drewN ?_ _) | (with_reducible refine Below.drew ?_) | (with_reducible exact Nat.le_refl _) | (focus (simp only [World.size_alloc, World.size_setCell, World.size_drew, World.size_drewN]; omega)) | omega | exact Nat.le_refl _ | (focus (simp; done)) | (focus (simp; omega))))).mono ?_
  rintro e w2 ⟨rfl, s, hR, has, h0, h1⟩
  obtain ⟨r1, r2⟩ := r
  simp only at h0 h1 hr15 HRS ⊢
  have HAB := Lib.hid HOK.out.armed
  have hsz := hR.2.size
  simp only [World.size_alloc] at hsz
  have HRT := Lib.hid (show RTo w w2 m M s from hR.from (by repeat (first | (with_reducible exact Below.refl _ _) | (with_reducible refine Below.setCell ?_ ?_ _) | (with_reducible refine Below.alloc ?_ ?_ _) | (with_reducible refine Below.drewN ?_ _) | (with_reducible refine Below.drew ?_) | (with_reducible exact Nat.le_refl _) | (focus (simp only [World.size_alloc, World.size_setCell, World.size_drew, World.size_drewN]; omega)) | omega | exact Nat.le_refl _ | (focus (simp; done)) | (focus (simp; omega)))))
  have HAS := Lib.hid has
  clear hR has c0 c1 c2 c3 c4 c5 cf5 HBLK HEN HEL HDE HFI HFS HM HMR
  obtain ⟨vn, vl, vd, vf, fs, hblk, hen, hel, hde, hfi, hfs, hM, hMr⟩ := HRT.out.1
  have HBLK := Lib.hid hblk
  have hml2 := blk_lt hblk
  obtain ⟨c0, c1, c2, c3, c4, c5, cfz⟩ := cells6 hblk
  have cf5 := cfz 5
  have HEN := Lib.hid hen
  have HEL := Lib.hid hel
  have HDE := Lib.hid hde
  have HFI := Lib.hid hfi
  have HFS := Lib.hid hfs
  have HM := Lib.hid hM
  have HMR := Lib.hid hMr
  clear hblk hen hel hde hfi hfs hM hMr cfz c0 c1 c2 c3 c4
  by_cases hz : r1 = 0
  · subst hz
    have H0 := Lib.hid (h0 rfl)
    clear h0 h1
    by_cases hp : 0 < s.armed
    · have hw : IntKind.i64.wrap (s.armed - 1) = s.armed - 1 := IntWalk.i64_in _ (by have := HAB.out; rw [← HAS.out] at this; omega)
      have hR := rfix (st' := { s with armed := s.armed - 1 }) (w' := w2.setCell ⟨m, 5, none⟩ (.int .i64 (s.armed - 1))) HBLK.out rfl (keeps_set 5 _) (by have h9 := blk_put HBLK.out 5 (.int .i64 (s.armed - 1)); simp only [List.setIfInBounds_toArray, List.set_cons_succ, List.set_cons_zero] at h9; exact h9) HEN.out HEL.out HDE.out HFI.out HFS.out HM.out HMR.out
      have HR2 := Lib.hid (show RTo w (w2.setCell ⟨m, 5, none⟩ (.int .i64 (s.armed - 1))) m M r2 by
        rw [← H0.out]
        unfold Dk.did
        rw [if_pos hp]
        exact HRT.out.trans hR)
      clear hR
      go_wp2_with fail
      go_ret3
      exact ⟨.slice none 0 0, rfl, reads_none _ _, by first | exact HR2.out | (rw [hw]; exact HR2.out)⟩
    · have hp0 : decide (0 < s.armed) = false := by simpa using hp
      go_wp2_with fail
      go_ret3
      refine ⟨.slice none 0 0, rfl, reads_none _ _, ?_⟩
      have h8 : s.did = s := by
        unfold Dk.did
        rw [if_neg (by omega)]
      rw [← H0.out, h8]
      exact HRT.out
  · have H1 := Lib.hid (h1 hz)
    have hz0 : ((r1 : Int) == 0) = false := by simpa using hz
    have hz1 : decide ((r1 : Int) = 0) = false := by simpa using hz
    have hz2 : decide (r1 = 0) = false := by simpa using hz
    have hz3 : (r1 == 0) = false := by simpa using hz
    clear h0 h1
    go_wp2_with fail
    go_ret3
    exact ⟨.slice none 0 0, rfl, reads_none _ _, by rw [← H1.out]; exact HRT.out⟩
set_option maxRecDepth 100000 in
set_option maxHeartbeats 4000000 in
theorem rdo_5 (m N : Nat) (M : Nat → Prop) (st : Dk) (nm to : Nm) (b : List UInt8) (ab af : Option Addr) (cb lf cf : Nat) (an am pn : Int) (w : World) (h : RefAt w m M st) (hok : DkOk N st) (hN : N < 4096) (ha : st.armed ≠ 0) (r : Nat × Dk) (hrs : r.1 ≠ 0 → r.2 = st) (hr15 : r.1 ≤ 15) (hd : ∀ W, Below w.heap.size w W → Calls Try.prog 47 #[(.pointer (some ⟨m, 0, none⟩)), .agg #[.int .i64 5, .string ⟨nm.toArray⟩, .string ⟨to.toArray⟩, .slice ab b.length cb, .int .i64 an, .int .i64 am, .int .i64 pn, .slice af lf cf]] W (RDeedOut W m M st r)) :
    Calls Try.prog 28 #[(.pointer (some ⟨m, 0, none⟩)), .agg #[.int .i64 5, .string ⟨nm.toArray⟩, .string ⟨to.toArray⟩, .slice ab b.length cb, .int .i64 an, .int .i64 am, .int .i64 pn, .slice af lf cf]] w (RDoOut w m M [] 0 r.1 r.2) := by
  have HD := Lib.hid hd
  have HRS := Lib.hid hrs
  clear hd hrs
  have ha0 : (st.armed == 0) = false := by simpa using ha
  have ha1 : decide (st.armed = 0) = false := by simpa using ha
  have H := Lib.hid h
  have HOK := Lib.hid hok
  obtain ⟨vn, vl, vd, vf, fs, hblk, hen, hel, hde, hfi, hfs, hM, hMr⟩ := h
  have HBLK := Lib.hid hblk
  have hml := blk_lt hblk
  obtain ⟨c0, c1, c2, c3, c4, c5, cfz⟩ := cells6 hblk
  have cf5 := cfz 5
  have HEN := Lib.hid hen
  have HEL := Lib.hid hel
  have HDE := Lib.hid hde
  have HFI := Lib.hid hfi
  have HFS := Lib.hid hfs
  have HM := Lib.hid hM
  have HMR := Lib.hid hMr
  clear hblk hen hel hde hfi hfs hM hMr hok cfz
  go_enter Try.func28, Try.ntmps28
  go_wp2_with fail
  refine (HD.out _ (by repeat (first | (with_reducible exact Below.refl _ _) | (with_reducible refine Below.setCell ?_ ?_ _) | (with_reducible refine Below.alloc ?_ ?_ _) | (with_reducible refine Below.drewN ?_ _) | (with_reducible refine Below.drew ?_) | (with_reducible exact Nat.le_refl _) | (focus (simp only [World.size_alloc, World.size_setCell, World.size_drew, World.size_drewN]; omega)) | omega | exact Nat.le_refl _ | (focus (simp; done)) | (focus (simp; omega))))).mono ?_
  rintro e w2 ⟨rfl, s, hR, has, h0, h1⟩
  obtain ⟨r1, r2⟩ := r
  simp only at h0 h1 hr15 HRS ⊢
  have HAB := Lib.hid HOK.out.armed
  have hsz := hR.2.size
  simp only [World.size_alloc] at hsz
  have HRT := Lib.hid (show RTo w w2 m M s from hR.from (by repeat (first | (with_reducible exact Below.refl _ _) | (with_reducible refine Below.setCell ?_ ?_ _) | (with_reducible refine Below.alloc ?_ ?_ _) | (with_reducible refine Below.drewN ?_ _) | (with_reducible refine Below.drew ?_) | (with_reducible exact Nat.le_refl _) | (focus (simp only [World.size_alloc, World.size_setCell, World.size_drew, World.size_drewN]; omega)) | omega | exact Nat.le_refl _ | (focus (simp; done)) | (focus (simp; omega)))))
  have HAS := Lib.hid has
  clear hR has c0 c1 c2 c3 c4 c5 cf5 HBLK HEN HEL HDE HFI HFS HM HMR
  obtain ⟨vn, vl, vd, vf, fs, hblk, hen, hel, hde, hfi, hfs, hM, hMr⟩ := HRT.out.1
  have HBLK := Lib.hid hblk
  have hml2 := blk_lt hblk
  obtain ⟨c0, c1, c2, c3, c4, c5, cfz⟩ := cells6 hblk
  have cf5 := cfz 5
  have HEN := Lib.hid hen
  have HEL := Lib.hid hel
  have HDE := Lib.hid hde
  have HFI := Lib.hid hfi
  have HFS := Lib.hid hfs
  have HM := Lib.hid hM
  have HMR := Lib.hid hMr
  clear hblk hen hel hde hfi hfs hM hMr cfz c0 c1 c2 c3 c4
  by_cases hz : r1 = 0
  · subst hz
    have H0 := Lib.hid (h0 rfl)
    clear h0 h1
    by_cases hp : 0 < s.armed
    · have hw : IntKind.i64.wrap (s.armed - 1) = s.armed - 1 := IntWalk.i64_in _ (by have := HAB.out; rw [← HAS.out] at this; omega)
      have hR := rfix (st' := { s with armed := s.armed - 1 }) (w' := w2.setCell ⟨m, 5, none⟩ (.int .i64 (s.armed - 1))) HBLK.out rfl (keeps_set 5 _) (by have h9 := blk_put HBLK.out 5 (.int .i64 (s.armed - 1)); simp only [List.setIfInBounds_toArray, List.set_cons_succ, List.set_cons_zero] at h9; exact h9) HEN.out HEL.out HDE.out HFI.out HFS.out HM.out HMR.out
      have HR2 := Lib.hid (show RTo w (w2.setCell ⟨m, 5, none⟩ (.int .i64 (s.armed - 1))) m M r2 by
        rw [← H0.out]
        unfold Dk.did
        rw [if_pos hp]
        exact HRT.out.trans hR)
      clear hR
      go_wp2_with fail
      go_ret3
      exact ⟨.slice none 0 0, rfl, reads_none _ _, by first | exact HR2.out | (rw [hw]; exact HR2.out)⟩
    · have hp0 : decide (0 < s.armed) = false := by simpa using hp
      go_wp2_with fail
      go_ret3
      refine ⟨.slice none 0 0, rfl, reads_none _ _, ?_⟩
      have h8 : s.did = s := by
        unfold Dk.did
        rw [if_neg (by omega)]
      rw [← H0.out, h8]
      exact HRT.out
  · have H1 := Lib.hid (h1 hz)
    have hz0 : ((r1 : Int) == 0) = false := by simpa using hz
    have hz1 : decide ((r1 : Int) = 0) = false := by simpa using hz
    have hz2 : decide (r1 = 0) = false := by simpa using hz
    have hz3 : (r1 == 0) = false := by simpa using hz
    clear h0 h1
    go_wp2_with fail
    go_ret3
    exact ⟨.slice none 0 0, rfl, reads_none _ _, by rw [← H1.out]; exact HRT.out⟩
set_option maxRecDepth 100000 in
set_option maxHeartbeats 4000000 in
theorem rdo_6 (m N : Nat) (M : Nat → Prop) (st : Dk) (nm to : Nm) (b : List UInt8) (ab af : Option Addr) (cb lf cf : Nat) (an am pn : Int) (w : World) (h : RefAt w m M st) (hok : DkOk N st) (hN : N < 4096) (ha : st.armed ≠ 0) (r : Nat × Dk) (hrs : r.1 ≠ 0 → r.2 = st) (hr15 : r.1 ≤ 15) (hd : ∀ W, Below w.heap.size w W → Calls Try.prog 47 #[(.pointer (some ⟨m, 0, none⟩)), .agg #[.int .i64 6, .string ⟨nm.toArray⟩, .string ⟨to.toArray⟩, .slice ab b.length cb, .int .i64 an, .int .i64 am, .int .i64 pn, .slice af lf cf]] W (RDeedOut W m M st r)) :
    Calls Try.prog 28 #[(.pointer (some ⟨m, 0, none⟩)), .agg #[.int .i64 6, .string ⟨nm.toArray⟩, .string ⟨to.toArray⟩, .slice ab b.length cb, .int .i64 an, .int .i64 am, .int .i64 pn, .slice af lf cf]] w (RDoOut w m M [] 0 r.1 r.2) := by
  have HD := Lib.hid hd
  have HRS := Lib.hid hrs
  clear hd hrs
  have ha0 : (st.armed == 0) = false := by simpa using ha
  have ha1 : decide (st.armed = 0) = false := by simpa using ha
  have H := Lib.hid h
  have HOK := Lib.hid hok
  obtain ⟨vn, vl, vd, vf, fs, hblk, hen, hel, hde, hfi, hfs, hM, hMr⟩ := h
  have HBLK := Lib.hid hblk
  have hml := blk_lt hblk
  obtain ⟨c0, c1, c2, c3, c4, c5, cfz⟩ := cells6 hblk
  have cf5 := cfz 5
  have HEN := Lib.hid hen
  have HEL := Lib.hid hel
  have HDE := Lib.hid hde
  have HFI := Lib.hid hfi
  have HFS := Lib.hid hfs
  have HM := Lib.hid hM
  have HMR := Lib.hid hMr
  clear hblk hen hel hde hfi hfs hM hMr hok cfz
  go_enter Try.func28, Try.ntmps28
  go_wp2_with fail
  refine (HD.out _ (by repeat (first | (with_reducible exact Below.refl _ _) | (with_reducible refine Below.setCell ?_ ?_ _) | (with_reducible refine Below.alloc ?_ ?_ _) | (with_reducible refine Below.drewN ?_ _) | (with_reducible refine Below.drew ?_) | (with_reducible exact Nat.le_refl _) | (focus (simp only [World.size_alloc, World.size_setCell, World.size_drew, World.size_drewN]; omega)) | omega | exact Nat.le_refl _ | (focus (simp; done)) | (focus (simp; omega))))).mono ?_
  rintro e w2 ⟨rfl, s, hR, has, h0, h1⟩
  obtain ⟨r1, r2⟩ := r
  simp only at h0 h1 hr15 HRS ⊢
  have HAB := Lib.hid HOK.out.armed
  have hsz := hR.2.size
  simp only [World.size_alloc] at hsz
  have HRT := Lib.hid (show RTo w w2 m M s from hR.from (by repeat (first | (with_reducible exact Below.refl _ _) | (with_reducible refine Below.setCell ?_ ?_ _) | (with_reducible refine Below.alloc ?_ ?_ _) | (with_reducible refine Below.drewN ?_ _) | (with_reducible refine Below.drew ?_) | (with_reducible exact Nat.le_refl _) | (focus (simp only [World.size_alloc, World.size_setCell, World.size_drew, World.size_drewN]; omega)) | omega | exact Nat.le_refl _ | (focus (simp; done)) | (focus (simp; omega)))))
  have HAS := Lib.hid has
  clear hR has c0 c1 c2 c3 c4 c5 cf5 HBLK HEN HEL HDE HFI HFS HM HMR
  obtain ⟨vn, vl, vd, vf, fs, hblk, hen, hel, hde, hfi, hfs, hM, hMr⟩ := HRT.out.1
  have HBLK := Lib.hid hblk
  have hml2 := blk_lt hblk
  obtain ⟨c0, c1, c2, c3, c4, c5, cfz⟩ := cells6 hblk
  have cf5 := cfz 5
  have HEN := Lib.hid hen
  have HEL := Lib.hid hel
  have HDE := Lib.hid hde
  have HFI := Lib.hid hfi
  have HFS := Lib.hid hfs
  have HM := Lib.hid hM
  have HMR := Lib.hid hMr
  clear hblk hen hel hde hfi hfs hM hMr cfz c0 c1 c2 c3 c4
  by_cases hz : r1 = 0
  · subst hz
    have H0 := Lib.hid (h0 rfl)
    clear h0 h1
    by_cases hp : 0 < s.armed
    · have hw : IntKind.i64.wrap (s.armed - 1) = s.armed - 1 := IntWalk.i64_in _ (by have := HAB.out; rw [← HAS.out] at this; omega)
      have hR := rfix (st' := { s with armed := s.armed - 1 }) (w' := w2.setCell ⟨m, 5, none⟩ (.int .i64 (s.armed - 1))) HBLK.out rfl (keeps_set 5 _) (by have h9 := blk_put HBLK.out 5 (.int .i64 (s.armed - 1)); simp only [List.setIfInBounds_toArray, List.set_cons_succ, List.set_cons_zero] at h9; exact h9) HEN.out HEL.out HDE.out HFI.out HFS.out HM.out HMR.out
      have HR2 := Lib.hid (show RTo w (w2.setCell ⟨m, 5, none⟩ (.int .i64 (s.armed - 1))) m M r2 by
        rw [← H0.out]
        unfold Dk.did
        rw [if_pos hp]
        exact HRT.out.trans hR)
      clear hR
      go_wp2_with fail
      go_ret3
      exact ⟨.slice none 0 0, rfl, reads_none _ _, by first | exact HR2.out | (rw [hw]; exact HR2.out)⟩
    · have hp0 : decide (0 < s.armed) = false := by simpa using hp
      go_wp2_with fail
      go_ret3
      refine ⟨.slice none 0 0, rfl, reads_none _ _, ?_⟩
      have h8 : s.did = s := by
        unfold Dk.did
        rw [if_neg (by omega)]
      rw [← H0.out, h8]
      exact HRT.out
  · have H1 := Lib.hid (h1 hz)
    have hz0 : ((r1 : Int) == 0) = false := by simpa using hz
    have hz1 : decide ((r1 : Int) = 0) = false := by simpa using hz
    have hz2 : decide (r1 = 0) = false := by simpa using hz
    have hz3 : (r1 == 0) = false := by simpa using hz
    clear h0 h1
    go_wp2_with fail
    go_ret3
    exact ⟨.slice none 0 0, rfl, reads_none _ _, by rw [← H1.out]; exact HRT.out⟩
set_option maxRecDepth 100000 in
set_option maxHeartbeats 4000000 in
theorem rdo9_none (m N : Nat) (M : Nat → Prop) (st : Dk) (nm to : Nm) (b : List UInt8) (ab af : Option Addr) (cb lf cf : Nat) (an am pn : Int) (w : World) (h : RefAt w m M st) (hok : DkOk N st) (hN : N < 4096) (k : Int) (h9 : 9 ≤ k) (ha : st.armed ≠ 0) (hg : dirGet st.now nm = none) :
    Calls Try.prog 28 #[(.pointer (some ⟨m, 0, none⟩)), .agg #[.int .i64 k, .string ⟨nm.toArray⟩, .string ⟨to.toArray⟩, .slice ab b.length cb, .int .i64 an, .int .i64 am, .int .i64 pn, .slice af lf cf]] w (RDoOut w m M [] 0 6 st) := by
  have ha0 : (st.armed == 0) = false := by simpa using ha
  have ha1 : decide (st.armed = 0) = false := by simpa using ha
  have hk8 : (k == 8) = false := by simp; omega
  have hk7 : (k == 7) = false := by simp; omega
  have hk82 : decide (k = 8) = false := by simp; omega
  have hk72 : decide (k = 7) = false := by simp; omega
  have hk9 : decide (k < 9) = false := by simp; omega
  have HF := Lib.hid (findI_none hg)
  clear hg
  have H := Lib.hid h
  have HOK := Lib.hid hok
  obtain ⟨vn, vl, vd, vf, fs, hblk, hen, hel, hde, hfi, hfs, hM, hMr⟩ := h
  have HBLK := Lib.hid hblk
  have hml := blk_lt hblk
  obtain ⟨c0, c1, c2, c3, c4, c5, cfz⟩ := cells6 hblk
  have cf5 := cfz 5
  have HEN := Lib.hid hen
  have HEL := Lib.hid hel
  have HDE := Lib.hid hde
  have HFI := Lib.hid hfi
  have HFS := Lib.hid hfs
  have HM := Lib.hid hM
  have HMR := Lib.hid hMr
  clear hblk hen hel hde hfi hfs hM hMr hok cfz
  have hlen := HOK.out.lnow
  have hen := HEN.out
  obtain ⟨na, nc, rfl⟩ := ownsRow_len hen
  clear hen
  go_enter Try.func28, Try.ntmps28
  go_wp2_with fail
  refine wp_region_now0 [3, 5] [(0, 0), (1, 0), (2, 0), (3, 2), (4, 0), (5, 2), (6, 1), (7, 0)] (by kernel_rfl) (by kernel_rfl) rfl (by kernel_rfl) ?_
  refine stepE0 rfl rfl (fun K hK => ?_)
  go_simp
  refine hK _ ?_
  clear hK K
  refine stepE0 rfl rfl (fun K hK => ?_)
  go_simp
  refine hK _ ?_
  clear hK K
  refine stepE0 rfl rfl (fun K hK => ?_)
  go_simp
  refine hK _ ?_
  clear hK K
  refine stepE2 rfl rfl ?_ (fun w1 hS => ?_) (fun K hK => ?_)
  rotate_left
  focus (obtain rfl : w1 = _ := hS; go_simp; rfl)
  go_simp
  refine hK _ ?_
  clear hK K
  refine stepE0 rfl rfl (fun K hK => ?_)
  go_simp
  refine hK _ ?_
  clear hK K
  refine stepE2 rfl rfl ?_ (fun w1 hS => ?_) (fun K hK => ?_)
  rotate_left
  focus (obtain rfl : w1 = _ := hS; go_simp; rfl)
  go_simp
  refine hK _ ?_
  clear hK K
  refine stepE1 rfl rfl (by kernel_rfl) (fun K hK => ?_)
  (go_wp2_with fail; refine Calls.mono (find07_any _ _ _ st.now nm _ rfl ((reads_of_owns HEN.out).below (by repeat (first | (with_reducible exact Below.refl _ _) | (with_reducible refine Below.setCell ?_ ?_ _) | (with_reducible refine Below.alloc ?_ ?_ _) | (with_reducible refine Below.drewN ?_ _) | (with_reducible refine Below.drew ?_) | (with_reducible exact Nat.le_refl _) | (focus (simp only [World.size_alloc, World.size_setCell, World.size_drew, World.size_drewN]; omega)) | omega | exact Nat.le_refl _ | (focus (simp; done)) | (focus (simp; omega))))) (by omega)) ?_; rintro e w2 ⟨rfl, rfl⟩; rw [HF.out]; go_wp2)
  refine stepE0 rfl rfl (fun K hK => ?_)
  go_simp
  refine hK _ ?_
  clear hK K
  try refine stepEnil0 ?_
  go_wp2_with fail
  go_ret3
  exact ⟨.slice none 0 0, rfl, reads_none _ _, RTo.below H.out (by repeat (first | (with_reducible exact Below.refl _ _) | (with_reducible refine Below.setCell ?_ ?_ _) | (with_reducible refine Below.alloc ?_ ?_ _) | (with_reducible refine Below.drewN ?_ _) | (with_reducible refine Below.drew ?_) | (with_reducible exact Nat.le_refl _) | (focus (simp only [World.size_alloc, World.size_setCell, World.size_drew, World.size_drewN]; omega)) | omega | exact Nat.le_refl _ | (focus (simp; done)) | (focus (simp; omega))))⟩
set_option maxRecDepth 100000 in
set_option maxHeartbeats 4000000 in
theorem rdo11 (m N : Nat) (M : Nat → Prop) (st : Dk) (nm to : Nm) (b : List UInt8) (ab af : Option Addr) (cb lf cf : Nat) (an am pn : Int) (w : World) (h : RefAt w m M st) (hok : DkOk N st) (hN : N < 4096) (k : Int) (h11 : 11 ≤ k) (ha : st.armed ≠ 0) (f : Nat) (hg : dirGet st.now nm = some f) :
    Calls Try.prog 28 #[(.pointer (some ⟨m, 0, none⟩)), .agg #[.int .i64 k, .string ⟨nm.toArray⟩, .string ⟨to.toArray⟩, .slice ab b.length cb, .int .i64 an, .int .i64 am, .int .i64 pn, .slice af lf cf]] w (RDoOut w m M [] (st.fileAt f).b.length 0 st) := by
  have ha0 : (st.armed == 0) = false := by simpa using ha
  have ha1 : decide (st.armed = 0) = false := by simpa using ha
  have h9 : 9 ≤ k := by omega
  have hk8 : (k == 8) = false := by simp; omega
  have hk7 : (k == 7) = false := by simp; omega
  have hk82 : decide (k = 8) = false := by simp; omega
  have hk72 : decide (k = 7) = false := by simp; omega
  have hk9 : decide (k < 9) = false := by simp; omega
  have hk92 : (k == 9) = false := by simp; omega
  have hk93 : decide (k = 9) = false := by simp; omega
  have hk10 : (k == 10) = false := by simp; omega
  have hk103 : decide (k = 10) = false := by simp; omega
  have hf := hok.fnow _ (get_mem hg)
  have HF := Lib.hid (findI_some hg)
  clear hg
  have H := Lib.hid h
  have HOK := Lib.hid hok
  obtain ⟨vn, vl, vd, vf, fs, hblk, hen, hel, hde, hfi, hfs, hM, hMr⟩ := h
  have HBLK := Lib.hid hblk
  have hml := blk_lt hblk
  obtain ⟨c0, c1, c2, c3, c4, c5, cfz⟩ := cells6 hblk
  have cf5 := cfz 5
  have HEN := Lib.hid hen
  have HEL := Lib.hid hel
  have HDE := Lib.hid hde
  have HFI := Lib.hid hfi
  have HFS := Lib.hid hfs
  have HM := Lib.hid hM
  have HMR := Lib.hid hMr
  clear hblk hen hel hde hfi hfs hM hMr hok cfz
  have hlen := HOK.out.lnow
  have hen := HEN.out
  obtain ⟨na, nc, rfl⟩ := ownsRow_len hen
  clear hen
  obtain ⟨vb, hvb⟩ := files_get HFS.out hf
  have hfi := HFI.out
  obtain ⟨gf, cg, ax, cx, rfl, ex, hfl, hgf, y0, y1⟩ := hfi.pair hvb
  clear hfi
  simp only at ex
  subst ex
  have HVB := Lib.hid hvb
  have HXR := Lib.hid (HFI.out.2 _ (List.mem_of_getElem? hvb)).1
  have hf0 : (0 : Int) ≤ (f : Int) := by omega
  have hf1 : (f : Int) < (fs.length : Int) := by omega
  have hxl := (HOK.out.at f).2
  clear hvb hf
  go_enter Try.func28, Try.ntmps28
  go_wp2_with fail
  refine wp_region_now0 [3, 5] [(0, 0), (1, 0), (2, 0), (3, 2), (4, 0), (5, 2), (6, 1), (7, 0)] (by kernel_rfl) (by kernel_rfl) rfl (by kernel_rfl) ?_
  refine stepE0 rfl rfl (fun K hK => ?_)
  go_simp
  refine hK _ ?_
  clear hK K
  refine stepE0 rfl rfl (fun K hK => ?_)
  go_simp
  refine hK _ ?_
  clear hK K
  refine stepE0 rfl rfl (fun K hK => ?_)
  go_simp
  refine hK _ ?_
  clear hK K
  refine stepE2 rfl rfl ?_ (fun w1 hS => ?_) (fun K hK => ?_)
  rotate_left
  focus (obtain rfl : w1 = _ := hS; go_simp; rfl)
  go_simp
  refine hK _ ?_
  clear hK K
  refine stepE0 rfl rfl (fun K hK => ?_)
  go_simp
  refine hK _ ?_
  clear hK K
  refine stepE2 rfl rfl ?_ (fun w1 hS => ?_) (fun K hK => ?_)
  rotate_left
  focus (obtain rfl : w1 = _ := hS; go_simp; rfl)
  go_simp
  refine hK _ ?_
  clear hK K
  refine stepE1 rfl rfl (by kernel_rfl) (fun K hK => ?_)
  (go_wp2_with fail; refine Calls.mono (find07_any _ _ _ st.now nm _ rfl ((reads_of_owns HEN.out).below (by repeat (first | (with_reducible exact Below.refl _ _) | (with_reducible refine Below.setCell ?_ ?_ _) | (with_reducible refine Below.alloc ?_ ?_ _) | (with_reducible refine Below.drewN ?_ _) | (with_reducible refine Below.drew ?_) | (with_reducible exact Nat.le_refl _) | (focus (simp only [World.size_alloc, World.size_setCell, World.size_drew, World.size_drewN]; omega)) | omega | exact Nat.le_refl _ | (focus (simp; done)) | (focus (simp; omega))))) (by omega)) ?_; rintro e w2 ⟨rfl, rfl⟩; rw [HF.out]; go_wp2)
  refine stepE0 rfl rfl (fun K hK => ?_)
  go_simp
  refine hK _ ?_
  clear hK K
  try refine stepEnil0 ?_
  go_wp2_with fail
  go_ret3
  exact ⟨.slice none 0 0, rfl, reads_none _ _, RTo.below H.out (by repeat (first | (with_reducible exact Below.refl _ _) | (with_reducible refine Below.setCell ?_ ?_ _) | (with_reducible refine Below.alloc ?_ ?_ _) | (with_reducible refine Below.drewN ?_ _) | (with_reducible refine Below.drew ?_) | (with_reducible exact Nat.le_refl _) | (focus (simp only [World.size_alloc, World.size_setCell, World.size_drew, World.size_drewN]; omega)) | omega | exact Nat.le_refl _ | (focus (simp; done)) | (focus (simp; omega))))⟩
set_option maxRecDepth 100000 in
set_option maxHeartbeats 4000000 in
theorem rdo9_arg (m N : Nat) (M : Nat → Prop) (st : Dk) (nm to : Nm) (b : List UInt8) (ab af : Option Addr) (cb lf cf : Nat) (an am pn : Int) (w : World) (h : RefAt w m M st) (hok : DkOk N st) (hN : N < 4096) (ha : st.armed ≠ 0) (f : Nat) (hg : dirGet st.now nm = some f) (hk : an < 0 ∨ ((st.fileAt f).b.length : Int) ≤ an) :
    Calls Try.prog 28 #[(.pointer (some ⟨m, 0, none⟩)), .agg #[.int .i64 9, .string ⟨nm.toArray⟩, .string ⟨to.toArray⟩, .slice ab b.length cb, .int .i64 an, .int .i64 am, .int .i64 pn, .slice af lf cf]] w (RDoOut w m M [] 0 1 st) := by
  have ha0 : (st.armed == 0) = false := by simpa using ha
  have ha1 : decide (st.armed = 0) = false := by simpa using ha
  have hf := hok.fnow _ (get_mem hg)
  have HF := Lib.hid (findI_some hg)
  clear hg
  have H := Lib.hid h
  have HOK := Lib.hid hok
  obtain ⟨vn, vl, vd, vf, fs, hblk, hen, hel, hde, hfi, hfs, hM, hMr⟩ := h
  have HBLK := Lib.hid hblk
  have hml := blk_lt hblk
  obtain ⟨c0, c1, c2, c3, c4, c5, cfz⟩ := cells6 hblk
  have cf5 := cfz 5
  have HEN := Lib.hid hen
  have HEL := Lib.hid hel
  have HDE := Lib.hid hde
  have HFI := Lib.hid hfi
  have HFS := Lib.hid hfs
  have HM := Lib.hid hM
  have HMR := Lib.hid hMr
  clear hblk hen hel hde hfi hfs hM hMr hok cfz
  have hlen := HOK.out.lnow
  have hen := HEN.out
  obtain ⟨na, nc, rfl⟩ := ownsRow_len hen
  clear hen
  obtain ⟨vb, hvb⟩ := files_get HFS.out hf
  have hfi := HFI.out
  obtain ⟨gf, cg, ax, cx, rfl, ex, hfl, hgf, y0, y1⟩ := hfi.pair hvb
  clear hfi
  simp only at ex
  subst ex
  have HVB := Lib.hid hvb
  have HXR := Lib.hid (HFI.out.2 _ (List.mem_of_getElem? hvb)).1
  have hf0 : (0 : Int) ≤ (f : Int) := by omega
  have hf1 : (f : Int) < (fs.length : Int) := by omega
  have hxl := (HOK.out.at f).2
  clear hvb hf
  go_enter Try.func28, Try.ntmps28
  go_wp2_with fail
  refine wp_region_now0 [3, 5] [(0, 0), (1, 0), (2, 0), (3, 2), (4, 0), (5, 2), (6, 1), (7, 0)] (by kernel_rfl) (by kernel_rfl) rfl (by kernel_rfl) ?_
  refine stepE0 rfl rfl (fun K hK => ?_)
  go_simp
  refine hK _ ?_
  clear hK K
  refine stepE0 rfl rfl (fun K hK => ?_)
  go_simp
  refine hK _ ?_
  clear hK K
  refine stepE0 rfl rfl (fun K hK => ?_)
  go_simp
  refine hK _ ?_
  clear hK K
  refine stepE2 rfl rfl ?_ (fun w1 hS => ?_) (fun K hK => ?_)
  rotate_left
  focus (obtain rfl : w1 = _ := hS; go_simp; rfl)
  go_simp
  refine hK _ ?_
  clear hK K
  refine stepE0 rfl rfl (fun K hK => ?_)
  go_simp
  refine hK _ ?_
  clear hK K
  refine stepE2 rfl rfl ?_ (fun w1 hS => ?_) (fun K hK => ?_)
  rotate_left
  focus (obtain rfl : w1 = _ := hS; go_simp; rfl)
  go_simp
  refine hK _ ?_
  clear hK K
  refine stepE1 rfl rfl (by kernel_rfl) (fun K hK => ?_)
  (go_wp2_with fail; refine Calls.mono (find07_any _ _ _ st.now nm _ rfl ((reads_of_owns HEN.out).below (by repeat (first | (with_reducible exact Below.refl _ _) | (with_reducible refine Below.setCell ?_ ?_ _) | (with_reducible refine Below.alloc ?_ ?_ _) | (with_reducible refine Below.drewN ?_ _) | (with_reducible refine Below.drew ?_) | (with_reducible exact Nat.le_refl _) | (focus (simp only [World.size_alloc, World.size_setCell, World.size_drew, World.size_drewN]; omega)) | omega | exact Nat.le_refl _ | (focus (simp; done)) | (focus (simp; omega))))) (by omega)) ?_; rintro e w2 ⟨rfl, rfl⟩; rw [HF.out]; go_wp2)
  refine stepE0 rfl rfl (fun K hK => ?_)
  go_simp
  refine hK _ ?_
  clear hK K
  try refine stepEnil0 ?_
  rcases hk with hk | hk
  · go_wp2_with fail
    go_ret3
    exact ⟨.slice none 0 0, rfl, reads_none _ _, RTo.below H.out (by repeat (first | (with_reducible exact Below.refl _ _) | (with_reducible refine Below.setCell ?_ ?_ _) | (with_reducible refine Below.alloc ?_ ?_ _) | (with_reducible refine Below.drewN ?_ _) | (with_reducible refine Below.drew ?_) | (with_reducible exact Nat.le_refl _) | (focus (simp only [World.size_alloc, World.size_setCell, World.size_drew, World.size_drewN]; omega)) | omega | exact Nat.le_refl _ | (focus (simp; done)) | (focus (simp; omega))))⟩
  · have hk0 : decide (an < 0) = false := by simp; omega
    go_wp2_with fail
    go_ret3
    exact ⟨.slice none 0 0, rfl, reads_none _ _, RTo.below H.out (by repeat (first | (with_reducible exact Below.refl _ _) | (with_reducible refine Below.setCell ?_ ?_ _) | (with_reducible refine Below.alloc ?_ ?_ _) | (with_reducible refine Below.drewN ?_ _) | (with_reducible refine Below.drew ?_) | (with_reducible exact Nat.le_refl _) | (focus (simp only [World.size_alloc, World.size_setCell, World.size_drew, World.size_drewN]; omega)) | omega | exact Nat.le_refl _ | (focus (simp; done)) | (focus (simp; omega))))⟩
set_option maxRecDepth 100000 in
set_option maxHeartbeats 4000000 in
theorem rdo10_arg (m N : Nat) (M : Nat → Prop) (st : Dk) (nm to : Nm) (b : List UInt8) (ab af : Option Addr) (cb lf cf : Nat) (an am pn : Int) (w : World) (h : RefAt w m M st) (hok : DkOk N st) (hN : N < 4096) (ha : st.armed ≠ 0) (f : Nat) (hg : dirGet st.now nm = some f) (hk : an < 0 ∨ am < 0) :
    Calls Try.prog 28 #[(.pointer (some ⟨m, 0, none⟩)), .agg #[.int .i64 10, .string ⟨nm.toArray⟩, .string ⟨to.toArray⟩, .slice ab b.length cb, .int .i64 an, .int .i64 am, .int .i64 pn, .slice af lf cf]] w (RDoOut w m M [] 0 1 st) := by
  have ha0 : (st.armed == 0) = false := by simpa using ha
  have ha1 : decide (st.armed = 0) = false := by simpa using ha
  have hf := hok.fnow _ (get_mem hg)
  have HF := Lib.hid (findI_some hg)
  clear hg
  have H := Lib.hid h
  have HOK := Lib.hid hok
  obtain ⟨vn, vl, vd, vf, fs, hblk, hen, hel, hde, hfi, hfs, hM, hMr⟩ := h
  have HBLK := Lib.hid hblk
  have hml := blk_lt hblk
  obtain ⟨c0, c1, c2, c3, c4, c5, cfz⟩ := cells6 hblk
  have cf5 := cfz 5
  have HEN := Lib.hid hen
  have HEL := Lib.hid hel
  have HDE := Lib.hid hde
  have HFI := Lib.hid hfi
  have HFS := Lib.hid hfs
  have HM := Lib.hid hM
  have HMR := Lib.hid hMr
  clear hblk hen hel hde hfi hfs hM hMr hok cfz
  have hlen := HOK.out.lnow
  have hen := HEN.out
  obtain ⟨na, nc, rfl⟩ := ownsRow_len hen
  clear hen
  obtain ⟨vb, hvb⟩ := files_get HFS.out hf
  have hfi := HFI.out
  obtain ⟨gf, cg, ax, cx, rfl, ex, hfl, hgf, y0, y1⟩ := hfi.pair hvb
  clear hfi
  simp only at ex
  subst ex
  have HVB := Lib.hid hvb
  have HXR := Lib.hid (HFI.out.2 _ (List.mem_of_getElem? hvb)).1
  have hf0 : (0 : Int) ≤ (f : Int) := by omega
  have hf1 : (f : Int) < (fs.length : Int) := by omega
  have hxl := (HOK.out.at f).2
  clear hvb hf
  go_enter Try.func28, Try.ntmps28
  go_wp2_with fail
  refine wp_region_now0 [3, 5] [(0, 0), (1, 0), (2, 0), (3, 2), (4, 0), (5, 2), (6, 1), (7, 0)] (by kernel_rfl) (by kernel_rfl) rfl (by kernel_rfl) ?_
  refine stepE0 rfl rfl (fun K hK => ?_)
  go_simp
  refine hK _ ?_
  clear hK K
  refine stepE0 rfl rfl (fun K hK => ?_)
  go_simp
  refine hK _ ?_
  clear hK K
  refine stepE0 rfl rfl (fun K hK => ?_)
  go_simp
  refine hK _ ?_
  clear hK K
  refine stepE2 rfl rfl ?_ (fun w1 hS => ?_) (fun K hK => ?_)
  rotate_left
  focus (obtain rfl : w1 = _ := hS; go_simp; rfl)
  go_simp
  refine hK _ ?_
  clear hK K
  refine stepE0 rfl rfl (fun K hK => ?_)
  go_simp
  refine hK _ ?_
  clear hK K
  refine stepE2 rfl rfl ?_ (fun w1 hS => ?_) (fun K hK => ?_)
  rotate_left
  focus (obtain rfl : w1 = _ := hS; go_simp; rfl)
  go_simp
  refine hK _ ?_
  clear hK K
  refine stepE1 rfl rfl (by kernel_rfl) (fun K hK => ?_)
  (go_wp2_with fail; refine Calls.mono (find07_any _ _ _ st.now nm _ rfl ((reads_of_owns HEN.out).below (by repeat (first | (with_reducible exact Below.refl _ _) | (with_reducible refine Below.setCell ?_ ?_ _) | (with_reducible refine Below.alloc ?_ ?_ _) | (with_reducible refine Below.drewN ?_ _) | (with_reducible refine Below.drew ?_) | (with_reducible exact Nat.le_refl _) | (focus (simp only [World.size_alloc, World.size_setCell, World.size_drew, World.size_drewN]; omega)) | omega | exact Nat.le_refl _ | (focus (simp; done)) | (focus (simp; omega))))) (by omega)) ?_; rintro e w2 ⟨rfl, rfl⟩; rw [HF.out]; go_wp2)
  refine stepE0 rfl rfl (fun K hK => ?_)
  go_simp
  refine hK _ ?_
  clear hK K
  try refine stepEnil0 ?_
  by_cases hk1 : an < 0
  · go_wp2_with fail
    go_ret3
    exact ⟨.slice none 0 0, rfl, reads_none _ _, RTo.below H.out (by repeat (first | (with_reducible exact Below.refl _ _) | (with_reducible refine Below.setCell ?_ ?_ _) | (with_reducible refine Below.alloc ?_ ?_ _) | (with_reducible refine Below.drewN ?_ _) | (with_reducible refine Below.drew ?_) | (with_reducible exact Nat.le_refl _) | (focus (simp only [World.size_alloc, World.size_setCell, World.size_drew, World.size_drewN]; omega)) | omega | exact Nat.le_refl _ | (focus (simp; done)) | (focus (simp; omega))))⟩
  · have hk0 : decide (an < 0) = false := by simp; omega
    have hk2 : am < 0 := by omega
    go_wp2_with fail
    go_ret3
    exact ⟨.slice none 0 0, rfl, reads_none _ _, RTo.below H.out (by repeat (first | (with_reducible exact Below.refl _ _) | (with_reducible refine Below.setCell ?_ ?_ _) | (with_reducible refine Below.alloc ?_ ?_ _) | (with_reducible refine Below.drewN ?_ _) | (with_reducible refine Below.drew ?_) | (with_reducible exact Nat.le_refl _) | (focus (simp only [World.size_alloc, World.size_setCell, World.size_drew, World.size_drewN]; omega)) | omega | exact Nat.le_refl _ | (focus (simp; done)) | (focus (simp; omega))))⟩
set_option maxRecDepth 100000 in
set_option maxHeartbeats 4000000 in
theorem rdo10_short (m N : Nat) (M : Nat → Prop) (st : Dk) (nm to : Nm) (b : List UInt8) (ab af : Option Addr) (cb lf cf : Nat) (an am pn : Int) (w : World) (h : RefAt w m M st) (hok : DkOk N st) (hN : N < 4096) (ha : st.armed ≠ 0) (f : Nat) (hg : dirGet st.now nm = some f) (hk1 : 0 ≤ an) (hk2 : 0 ≤ am) (ham : am ≤ 9223372036854775807) (hk : ((st.fileAt f).b.length : Int) < an + am) :
    Calls Try.prog 28 #[(.pointer (some ⟨m, 0, none⟩)), .agg #[.int .i64 10, .string ⟨nm.toArray⟩, .string ⟨to.toArray⟩, .slice ab b.length cb, .int .i64 an, .int .i64 am, .int .i64 pn, .slice af lf cf]] w (RDoOut w m M [] 0 3 st) := by
  have ha0 : (st.armed == 0) = false := by simpa using ha
  have ha1 : decide (st.armed = 0) = false := by simpa using ha
  have hf := hok.fnow _ (get_mem hg)
  have HF := Lib.hid (findI_some hg)
  clear hg
  have H := Lib.hid h
  have HOK := Lib.hid hok
  obtain ⟨vn, vl, vd, vf, fs, hblk, hen, hel, hde, hfi, hfs, hM, hMr⟩ := h
  have HBLK := Lib.hid hblk
  have hml := blk_lt hblk
  obtain ⟨c0, c1, c2, c3, c4, c5, cfz⟩ := cells6 hblk
  have cf5 := cfz 5
  have HEN := Lib.hid hen
  have HEL := Lib.hid hel
  have HDE := Lib.hid hde
  have HFI := Lib.hid hfi
  have HFS := Lib.hid hfs
  have HM := Lib.hid hM
  have HMR := Lib.hid hMr
  clear hblk hen hel hde hfi hfs hM hMr hok cfz
  have hlen := HOK.out.lnow
  have hen := HEN.out
  obtain ⟨na, nc, rfl⟩ := ownsRow_len hen
  clear hen
  obtain ⟨vb, hvb⟩ := files_get HFS.out hf
  have hfi := HFI.out
  obtain ⟨gf, cg, ax, cx, rfl, ex, hfl, hgf, y0, y1⟩ := hfi.pair hvb
  clear hfi
  simp only at ex
  subst ex
  have HVB := Lib.hid hvb
  have HXR := Lib.hid (HFI.out.2 _ (List.mem_of_getElem? hvb)).1
  have hf0 : (0 : Int) ≤ (f : Int) := by omega
  have hf1 : (f : Int) < (fs.length : Int) := by omega
  have hxl := (HOK.out.at f).2
  clear hvb hf
  go_enter Try.func28, Try.ntmps28
  go_wp2_with fail
  refine wp_region_now0 [3, 5] [(0, 0), (1, 0), (2, 0), (3, 2), (4, 0), (5, 2), (6, 1), (7, 0)] (by kernel_rfl) (by kernel_rfl) rfl (by kernel_rfl) ?_
  refine stepE0 rfl rfl (fun K hK => ?_)
  go_simp
  refine hK _ ?_
  clear hK K
  refine stepE0 rfl rfl (fun K hK => ?_)
  go_simp
  refine hK _ ?_
  clear hK K
  refine stepE0 rfl rfl (fun K hK => ?_)
  go_simp
  refine hK _ ?_
  clear hK K
  refine stepE2 rfl rfl ?_ (fun w1 hS => ?_) (fun K hK => ?_)
  rotate_left
  focus (obtain rfl : w1 = _ := hS; go_simp; rfl)
  go_simp
  refine hK _ ?_
  clear hK K
  refine stepE0 rfl rfl (fun K hK => ?_)
  go_simp
  refine hK _ ?_
  clear hK K
  refine stepE2 rfl rfl ?_ (fun w1 hS => ?_) (fun K hK => ?_)
  rotate_left
  focus (obtain rfl : w1 = _ := hS; go_simp; rfl)
  go_simp
  refine hK _ ?_
  clear hK K
  refine stepE1 rfl rfl (by kernel_rfl) (fun K hK => ?_)
  (go_wp2_with fail; refine Calls.mono (find07_any _ _ _ st.now nm _ rfl ((reads_of_owns HEN.out).below (by repeat (first | (with_reducible exact Below.refl _ _) | (with_reducible refine Below.setCell ?_ ?_ _) | (with_reducible refine Below.alloc ?_ ?_ _) | (with_reducible refine Below.drewN ?_ _) | (with_reducible refine Below.drew ?_) | (with_reducible exact Nat.le_refl _) | (focus (simp only [World.size_alloc, World.size_setCell, World.size_drew, World.size_drewN]; omega)) | omega | exact Nat.le_refl _ | (focus (simp; done)) | (focus (simp; omega))))) (by omega)) ?_; rintro e w2 ⟨rfl, rfl⟩; rw [HF.out]; go_wp2)
  refine stepE0 rfl rfl (fun K hK => ?_)
  go_simp
  refine hK _ ?_
  clear hK K
  try refine stepEnil0 ?_
  have ha1 : decide (an < 0) = false := by simp; omega
  have ha2 : decide (am < 0) = false := by simp; omega
  by_cases hk3 : ((st.fileAt f).b.length : Int) < an
  · go_wp2_with fail
    go_ret3
    exact ⟨.slice none 0 0, rfl, reads_none _ _, RTo.below H.out (by repeat (first | (with_reducible exact Below.refl _ _) | (with_reducible refine Below.setCell ?_ ?_ _) | (with_reducible refine Below.alloc ?_ ?_ _) | (with_reducible refine Below.drewN ?_ _) | (with_reducible refine Below.drew ?_) | (with_reducible exact Nat.le_refl _) | (focus (simp only [World.size_alloc, World.size_setCell, World.size_drew, World.size_drewN]; omega)) | omega | exact Nat.le_refl _ | (focus (simp; done)) | (focus (simp; omega))))⟩
  · have hk0 : decide (((st.fileAt f).b.length : Int) < an) = false := by simp; omega
    have hk4 : ((st.fileAt f).b.length : Int) - an < am := by omega
    go_wp2_with fail
    go_ret3
    exact ⟨.slice none 0 0, rfl, reads_none _ _, RTo.below H.out (by repeat (first | (with_reducible exact Below.refl _ _) | (with_reducible refine Below.setCell ?_ ?_ _) | (with_reducible refine Below.alloc ?_ ?_ _) | (with_reducible refine Below.drewN ?_ _) | (with_reducible refine Below.drew ?_) | (with_reducible exact Nat.le_refl _) | (focus (simp only [World.size_alloc, World.size_setCell, World.size_drew, World.size_drewN]; omega)) | omega | exact Nat.le_refl _ | (focus (simp; done)) | (focus (simp; omega))))⟩
set_option maxRecDepth 100000 in
set_option maxHeartbeats 4000000 in
theorem rdo10_do (m N : Nat) (M : Nat → Prop) (st : Dk) (nm to : Nm) (b : List UInt8) (ab af : Option Addr) (cb lf cf : Nat) (an am pn : Int) (w : World) (h : RefAt w m M st) (hok : DkOk N st) (hN : N < 4096) (ha : st.armed ≠ 0) (f i k : Nat) (hi : an = i) (hk : am = k) (hg : dirGet st.now nm = some f) (hik : i + k ≤ (st.fileAt f).b.length) :
    Calls Try.prog 28 #[(.pointer (some ⟨m, 0, none⟩)), .agg #[.int .i64 10, .string ⟨nm.toArray⟩, .string ⟨to.toArray⟩, .slice ab b.length cb, .int .i64 an, .int .i64 am, .int .i64 pn, .slice af lf cf]] w (RDoOut w m M (((st.fileAt f).b.drop i).take k) 0 0 st) := by
  have ha0 : (st.armed == 0) = false := by simpa using ha
  have ha1 : decide (st.armed = 0) = false := by simpa using ha
  subst hi hk
  have hf := hok.fnow _ (get_mem hg)
  have HF := Lib.hid (findI_some hg)
  clear hg
  have H := Lib.hid h
  have HOK := Lib.hid hok
  obtain ⟨vn, vl, vd, vf, fs, hblk, hen, hel, hde, hfi, hfs, hM, hMr⟩ := h
  have HBLK := Lib.hid hblk
  have hml := blk_lt hblk
  obtain ⟨c0, c1, c2, c3, c4, c5, cfz⟩ := cells6 hblk
  have cf5 := cfz 5
  have HEN := Lib.hid hen
  have HEL := Lib.hid hel
  have HDE := Lib.hid hde
  have HFI := Lib.hid hfi
  have HFS := Lib.hid hfs
  have HM := Lib.hid hM
  have HMR := Lib.hid hMr
  clear hblk hen hel hde hfi hfs hM hMr hok cfz
  have hlen := HOK.out.lnow
  have hen := HEN.out
  obtain ⟨na, nc, rfl⟩ := ownsRow_len hen
  clear hen
  obtain ⟨vb, hvb⟩ := files_get HFS.out hf
  have hfi := HFI.out
  obtain ⟨gf, cg, ax, cx, rfl, ex, hfl, hgf, y0, y1⟩ := hfi.pair hvb
  clear hfi
  simp only at ex
  subst ex
  have HVB := Lib.hid hvb
  have HXR := Lib.hid (HFI.out.2 _ (List.mem_of_getElem? hvb)).1
  have hf0 : (0 : Int) ≤ (f : Int) := by omega
  have hf1 : (f : Int) < (fs.length : Int) := by omega
  have hxl := (HOK.out.at f).2
  clear hvb hf
  go_enter Try.func28, Try.ntmps28
  go_wp2_with fail
  refine wp_region_now0 [3, 5] [(0, 0), (1, 0), (2, 0), (3, 2), (4, 0), (5, 2), (6, 1), (7, 0)] (by kernel_rfl) (by kernel_rfl) rfl (by kernel_rfl) ?_
  refine stepE0 rfl rfl (fun K hK => ?_)
  go_simp
  refine hK _ ?_
  clear hK K
  refine stepE0 rfl rfl (fun K hK => ?_)
  go_simp
  refine hK _ ?_
  clear hK K
  refine stepE0 rfl rfl (fun K hK => ?_)
  go_simp
  refine hK _ ?_
  clear hK K
  refine stepE2 rfl rfl ?_ (fun w1 hS => ?_) (fun K hK => ?_)
  rotate_left
  focus (obtain rfl : w1 = _ := hS; go_simp; rfl)
  go_simp
  refine hK _ ?_
  clear hK K
  refine stepE0 rfl rfl (fun K hK => ?_)
  go_simp
  refine hK _ ?_
  clear hK K
  refine stepE2 rfl rfl ?_ (fun w1 hS => ?_) (fun K hK => ?_)
  rotate_left
  focus (obtain rfl : w1 = _ := hS; go_simp; rfl)
  go_simp
  refine hK _ ?_
  clear hK K
  refine stepE1 rfl rfl (by kernel_rfl) (fun K hK => ?_)
  (go_wp2_with fail; refine Calls.mono (find07_any _ _ _ st.now nm _ rfl ((reads_of_owns HEN.out).below (by repeat (first | (with_reducible exact Below.refl _ _) | (with_reducible refine Below.setCell ?_ ?_ _) | (with_reducible refine Below.alloc ?_ ?_ _) | (with_reducible refine Below.drewN ?_ _) | (with_reducible refine Below.drew ?_) | (with_reducible exact Nat.le_refl _) | (focus (simp only [World.size_alloc, World.size_setCell, World.size_drew, World.size_drewN]; omega)) | omega | exact Nat.le_refl _ | (focus (simp; done)) | (focus (simp; omega))))) (by omega)) ?_; rintro e w2 ⟨rfl, rfl⟩; rw [HF.out]; go_wp2)
  refine stepE0 rfl rfl (fun K hK => ?_)
  go_simp
  refine hK _ ?_
  clear hK K
  try refine stepEnil0 ?_
  have hi1 : decide ((i : Int) < 0) = false := by simp
  have hi2 : decide ((k : Int) < 0) = false := by simp
  have hk0 : decide (((st.fileAt f).b.length : Int) < (i : Int)) = false := by simp; omega
  have hk02 : decide ((st.fileAt f).b.length < i) = false := by simp; omega
  have hk4 : decide (((st.fileAt f).b.length : Int) - (i : Int) < (k : Int)) = false := by simp; omega
  obtain ⟨n, hn⟩ : ∃ n, n = (st.fileAt f).b.length := ⟨_, rfl⟩
  have hrun := run_midT 22 5 Try.underlying22 (fun W => by kernel_rfl) ax (st.fileAt f).b.length cx i (i + k) (by omega) (by have := row_cap7 HXR.out; omega)
  rw [show ((i + k : Nat) : Int) = (i : Int) + (k : Int) by omega] at hrun
  have HMID := Lib.hid (mid_reads (l := i) (k := k) HXR.out rfl hik)
  obtain ⟨a', ha'⟩ : ∃ a', a' = (if cx = i then ax else ax.map (·.add (i * 1))) := ⟨_, rfl⟩
  obtain ⟨c', hc'⟩ : ∃ c', c' = cx - i := ⟨_, rfl⟩
  rw [← ha', ← hc'] at hrun HMID
  rw [show i + k - i = k by omega] at hrun
  clear ha' hc' hn
  go_wp2_with fail
  go_ret3
  have hlk : (((st.fileAt f).b.drop i).take k).length = k := by rw [List.length_take, List.length_drop]; omega
  exact ⟨.slice a' k c', rfl, by rw [hlk]; exact HMID.out.below (by repeat (first | (with_reducible exact Below.refl _ _) | (with_reducible refine Below.setCell ?_ ?_ _) | (with_reducible refine Below.alloc ?_ ?_ _) | (with_reducible refine Below.drewN ?_ _) | (with_reducible refine Below.drew ?_) | (with_reducible exact Nat.le_refl _) | (focus (simp only [World.size_alloc, World.size_setCell, World.size_drew, World.size_drewN]; omega)) | omega | exact Nat.le_refl _ | (focus (simp; done)) | (focus (simp; omega)))), RTo.below H.out (by repeat (first | (with_reducible exact Below.refl _ _) | (with_reducible refine Below.setCell ?_ ?_ _) | (with_reducible refine Below.alloc ?_ ?_ _) | (with_reducible refine Below.drewN ?_ _) | (with_reducible refine Below.drew ?_) | (with_reducible exact Nat.le_refl _) | (focus (simp only [World.size_alloc, World.size_setCell, World.size_drew, World.size_drewN]; omega)) | omega | exact Nat.le_refl _ | (focus (simp; done)) | (focus (simp; omega))))⟩
set_option maxRecDepth 100000 in
set_option maxHeartbeats 4000000 in
theorem rdo9_do (m N : Nat) (M : Nat → Prop) (st : Dk) (nm to : Nm) (b : List UInt8) (ab af : Option Addr) (cb lf cf : Nat) (an am pn : Int) (w : World) (h : RefAt w m M st) (hok : DkOk N st) (hN : N < 4096) (ha : st.armed ≠ 0) (f i : Nat) (hi : an = i) (hg : dirGet st.now nm = some f) (hik : i < (st.fileAt f).b.length) (x : UInt8) (hx : x = byteOf am) :
    Calls Try.prog 28 #[(.pointer (some ⟨m, 0, none⟩)), .agg #[.int .i64 9, .string ⟨nm.toArray⟩, .string ⟨to.toArray⟩, .slice ab b.length cb, .int .i64 an, .int .i64 am, .int .i64 pn, .slice af lf cf]] w (RDoOut w m M [] 0 0 (st.setF f ⟨xorAt (st.fileAt f).b i x, (st.fileAt f).lasts⟩)) := by
  have ha0 : (st.armed == 0) = false := by simpa using ha
  have ha1 : decide (st.armed = 0) = false := by simpa using ha
  subst hi
  have HXX := Lib.hid hx
  clear hx
  have hf := hok.fnow _ (get_mem hg)
  have HF := Lib.hid (findI_some hg)
  clear hg
  have H := Lib.hid h
  have HOK := Lib.hid hok
  obtain ⟨vn, vl, vd, vf, fs, hblk, hen, hel, hde, hfi, hfs, hM, hMr⟩ := h
  have HBLK := Lib.hid hblk
  have hml := blk_lt hblk
  obtain ⟨c0, c1, c2, c3, c4, c5, cfz⟩ := cells6 hblk
  have cf5 := cfz 5
  have HEN := Lib.hid hen
  have HEL := Lib.hid hel
  have HDE := Lib.hid hde
  have HFI := Lib.hid hfi
  have HFS := Lib.hid hfs
  have HM := Lib.hid hM
  have HMR := Lib.hid hMr
  clear hblk hen hel hde hfi hfs hM hMr hok cfz
  have hlen := HOK.out.lnow
  have hen := HEN.out
  obtain ⟨na, nc, rfl⟩ := ownsRow_len hen
  clear hen
  obtain ⟨vb, hvb⟩ := files_get HFS.out hf
  have hfi := HFI.out
  obtain ⟨gf, cg, ax, cx, rfl, ex, hfl, hgf, y0, y1⟩ := hfi.pair hvb
  clear hfi
  simp only at ex
  subst ex
  have HVB := Lib.hid hvb
  have HXR := Lib.hid (HFI.out.2 _ (List.mem_of_getElem? hvb)).1
  have hf0 : (0 : Int) ≤ (f : Int) := by omega
  have hf1 : (f : Int) < (fs.length : Int) := by omega
  have hxl := (HOK.out.at f).2
  clear hvb hf
  go_enter Try.func28, Try.ntmps28
  go_wp2_with fail
  refine wp_region_now0 [3, 5] [(0, 0), (1, 0), (2, 0), (3, 2), (4, 0), (5, 2), (6, 1), (7, 0)] (by kernel_rfl) (by kernel_rfl) rfl (by kernel_rfl) ?_
  refine stepE0 rfl rfl (fun K hK => ?_)
  go_simp
  refine hK _ ?_
  clear hK K
  refine stepE0 rfl rfl (fun K hK => ?_)
  go_simp
  refine hK _ ?_
  clear hK K
  refine stepE0 rfl rfl (fun K hK => ?_)
  go_simp
  refine hK _ ?_
  clear hK K
  refine stepE2 rfl rfl ?_ (fun w1 hS => ?_) (fun K hK => ?_)
  rotate_left
  focus (obtain rfl : w1 = _ := hS; go_simp; rfl)
  go_simp
  refine hK _ ?_
  clear hK K
  refine stepE0 rfl rfl (fun K hK => ?_)
  go_simp
  refine hK _ ?_
  clear hK K
  refine stepE2 rfl rfl ?_ (fun w1 hS => ?_) (fun K hK => ?_)
  rotate_left
  focus (obtain rfl : w1 = _ := hS; go_simp; rfl)
  go_simp
  refine hK _ ?_
  clear hK K
  refine stepE1 rfl rfl (by kernel_rfl) (fun K hK => ?_)
  (go_wp2_with fail; refine Calls.mono (find07_any _ _ _ st.now nm _ rfl ((reads_of_owns HEN.out).below (by repeat (first | (with_reducible exact Below.refl _ _) | (with_reducible refine Below.setCell ?_ ?_ _) | (with_reducible refine Below.alloc ?_ ?_ _) | (with_reducible refine Below.drewN ?_ _) | (with_reducible refine Below.drew ?_) | (with_reducible exact Nat.le_refl _) | (focus (simp only [World.size_alloc, World.size_setCell, World.size_drew, World.size_drewN]; omega)) | omega | exact Nat.le_refl _ | (focus (simp; done)) | (focus (simp; omega))))) (by omega)) ?_; rintro e w2 ⟨rfl, rfl⟩; rw [HF.out]; go_wp2)
  refine stepE0 rfl rfl (fun K hK => ?_)
  go_simp
  refine hK _ ?_
  clear hK K
  try refine stepEnil0 ?_
  have hi1 : decide ((i : Int) < 0) = false := by simp
  have hk0 : decide (((st.fileAt f).b.length : Int) ≤ (i : Int)) = false := by simp; omega
  have hk02 : decide ((st.fileAt f).b.length ≤ i) = false := by simp; omega
  have hby : Value.int .u8 (am % 256) = .int .u8 x.toNat := by
    rw [HXX.out]
    unfold byteOf
    congr 1
    rw [UInt8.toNat_ofNat']
    omega
  have hby2 : am % 256 = (x.toNat : Int) := by injection hby
  obtain ⟨i0, hi, hz0, hz1, hz2⟩ := info_parts byteT_info
  have HI := Lib.hid hi
  have HZ0 := Lib.hid hz0
  have HZ1 := Lib.hid hz1
  have HZ2 := Lib.hid hz2
  clear hi hz0 hz1 hz2 hby
  obtain ⟨yb, hyb⟩ : ∃ yb, (st.fileAt f).b[i]? = some yb := ⟨_, List.getElem?_eq_getElem hik⟩
  have HSET := Lib.hid (show xorAt (st.fileAt f).b i x = (st.fileAt f).b.set i (yb ^^^ x) by unfold xorAt; rw [hyb]; rfl)
  have HYB := Lib.hid hyb
  obtain ⟨n, hn⟩ : ∃ n, n = (st.fileAt f).b.length := ⟨_, rfl⟩
  have HN := Lib.hid hn
  have hxr := HXR.out
  unfold RB at hxr
  rw [← hn] at hxr hik hk0 hk02 hxl y0
  have HX2 := Lib.hid hxr
  have hBX : w.heap.size < (w.alloc (.cells #[.int .i64 9, .string ⟨nm.toArray⟩, .string ⟨to.toArray⟩, .slice ab b.length cb, .int .i64 i, .int .i64 am, .int .i64 pn, .slice af lf cf] 53)).heap.size := by simp
  clear hyb hn hxr
  obtain ⟨w1, hw1⟩ : ∃ w1, w1 = (w.alloc (.cells #[.int .i64 9, .string ⟨nm.toArray⟩, .string ⟨to.toArray⟩, .slice ab b.length cb, .int .i64 i, .int .i64 am, .int .i64 pn, .slice af lf cf] 53)).drew := ⟨_, rfl⟩
  have HB1 := Lib.hid (show Below w.heap.size w w1 by rw [hw1]; exact (by repeat (first | (with_reducible exact Below.refl _ _) | (with_reducible refine Below.setCell ?_ ?_ _) | (with_reducible refine Below.alloc ?_ ?_ _) | (with_reducible refine Below.drewN ?_ _) | (with_reducible refine Below.drew ?_) | (with_reducible exact Nat.le_refl _) | (focus (simp only [World.size_alloc, World.size_setCell, World.size_drew, World.size_drewN]; omega)) | omega | exact Nat.le_refl _ | (focus (simp; done)) | (focus (simp; omega)))))
  have hz1 : w1.heap.size = w.heap.size + 1 := by rw [hw1]; simp
  have HBA := Lib.hid (show w1.heap[w.heap.size]? = some (.cells #[.int .i64 9, .string ⟨nm.toArray⟩, .string ⟨to.toArray⟩, .slice ab b.length cb, .int .i64 i, .int .i64 am, .int .i64 pn, .slice af lf cf] 53 (0, 0)) by rw [hw1]; exact blk_drew7 (blk_new _ rfl))
  have HBM := Lib.hid (blk_below HBLK.out HB1.out)
  rw [← hw1]
  clear hw1 hBX
  obtain ⟨d0, d1, d2, d3, d4, d5, d6, d7⟩ := cells8 HBA.out
  obtain ⟨m0, m1, m2, m3, m4, m5, mf⟩ := cells6 HBM.out
  have hml1 := blk_lt HBM.out
  have hal1 := blk_lt HBA.out
  have y0' := (HB1.out.cell (p := ⟨gf, f * 2, none⟩) hgf).trans y0
  have hgf1 : gf < w1.heap.size := by omega
  clear mf
  go_upto_region 24 with fail
  go_wp2_with (at_builtin; refine wpList_append_reads _ rfl _ _ 22 rfl w1.heap.size 5 i0 (.int .u8 0) 1 1 Try.underlying22 HI.out HZ0.out HZ1.out HZ2.out rfl (by decide) (.slice (some ⟨w.heap.size + 1, 0, none⟩) 0 0) 0 [] rfl (lit_u8 hz1 (Nat.le_of_eq hz1)) (.slice ax n cx) n ((st.fileAt f).b.map bv) rfl (reads_of_owns (ownsRow_below (ownsRow_below HX2.out HB1.out) (by repeat (first | (with_reducible exact Below.refl _ _) | (with_reducible refine Below.setCell ?_ ?_ _) | (with_reducible refine Below.alloc ?_ ?_ _) | (with_reducible refine Below.drewN ?_ _) | (with_reducible refine Below.drew ?_) | (with_reducible exact Nat.le_refl _) | (focus (simp only [World.size_alloc, World.size_setCell, World.size_drew, World.size_drewN]; omega)) | omega | exact Nat.le_refl _ | (focus (simp; done)) | (focus (simp; omega)))))) (bv_one _) (by unfold maxLen; omega) (by omega) (by first | omega | (simp; done) | (simp; omega)) ?_; intro v1 w5 hown5 hgrow5 hat5; have hzq5 := hgrow5.size; simp only [World.size_alloc] at hzq5; have HB5 := Lib.hid (show Below w1.heap.size w1 w5 from Below.grown (by repeat (first | (with_reducible exact Below.refl _ _) | (with_reducible refine Below.setCell ?_ ?_ _) | (with_reducible refine Below.alloc ?_ ?_ _) | (with_reducible refine Below.drewN ?_ _) | (with_reducible refine Below.drew ?_) | (with_reducible exact Nat.le_refl _) | (focus (simp only [World.size_alloc, World.size_setCell, World.size_drew, World.size_drewN]; omega)) | omega | exact Nat.le_refl _ | (focus (simp; done)) | (focus (simp; omega)))) hgrow5 (by first | omega | (simp; done) | (simp; omega)) (fun q e => by have h9 : w.heap.size + 1 = q := (by simpa [Value.ownBlock] using e); omega)); have hown5' : w5.ownsRow w1.heap.size 5 1 v1 n ((st.fileAt f).b.map bv) := (by simpa using hown5); obtain ⟨a5, c5', rfl⟩ := ownsRow_len hown5'; have HO5 := Lib.hid hown5'; clear hown5 hown5' hgrow5 hat5)
  obtain ⟨g, rfl⟩ : ∃ g, a5 = some ⟨g, 0, none⟩ := by
    rcases row_addr HO5.out with ⟨rfl, _⟩ | h9
    · rcases HO5.out.2 with ⟨_, e⟩ | ⟨g, _, _, e, _⟩
      · omega
      · cases e
    · exact h9
  have hgc : w5.cell? ⟨g, i, none⟩ = some (.int .u8 yb.toNat) := by
    rw [HO5.out.cellAt i (by omega), List.getElem?_map, HYB.out]
    rfl
  have hgfz : w5.frozen? ⟨g, i, none⟩ = false := HO5.out.frozenAt _
  have hgl := (HO5.out.lt g rfl).2
  have hge := (HO5.out.lt g rfl).1
  have HB05 := Lib.hid (HB1.out.trans (HB5.out.mono (by omega)))
  have hba5 := blk_below HBA.out HB5.out
  have hbm5 := blk_below HBM.out HB5.out
  obtain ⟨q0, q1, q2, q3, q4, q5, q6, q7⟩ := cells8 hba5
  obtain ⟨r0, r1, r2, r3, r4, r5, rf⟩ := cells6 hbm5
  have hal5 := blk_lt hba5
  have hml5 := blk_lt hbm5
  have hgf5 : gf < w5.heap.size := by omega
  have hne1 : gf ≠ g := by omega
  have hne2 : g ≠ gf := by omega
  have hne3 : m ≠ g := by omega
  have hne4 : w.heap.size ≠ g := by omega
  have fz0 : w5.frozen? ⟨gf, f * 2, none⟩ = false := (ownsRow_below HFI.out.1 HB05.out).frozenAt _
  have z0 := (HB5.out.cell (p := ⟨gf, f * 2, none⟩) hgf1).trans y0'
  have hi0 : (0 : Int) ≤ (i : Int) := by omega
  have hik1 : (i : Int) < (n : Int) := by omega
  have HXB := Lib.hid (xor_bv yb x)
  clear rf q0 q1 q2 q3 q6 q7 d0 d1 d2 d3 d4 d5 d6 d7 m0 m1 m2 m3 m4 m5 hba5 hbm5 y0' y0 y1 c0 c1 c2 c3 c4 c5 cf5
  go_upto_region 25 with fail
  refine wp_region_now0 [2, 5, 7, 9] [(0, 0), (1, 0), (2, 2), (3, 0), (4, 0), (5, 2), (6, 0), (7, 2), (8, 0), (9, 2), (10, 0), (11, 0), (12, 0), (13, 1)] (by kernel_rfl) (by kernel_rfl) rfl (by kernel_rfl) ?_
  refine stepE0 rfl rfl (fun K hK => ?_)
  go_simp
  refine hK _ ?_
  clear hK K
  refine stepE0 rfl rfl (fun K hK => ?_)
  go_simp
  refine hK _ ?_
  clear hK K
  refine stepE2 rfl rfl ?_ (fun w1 hS => ?_) (fun K hK => ?_)
  rotate_left
  focus (obtain rfl : w1 = _ := hS; go_simp; rfl)
  go_simp
  refine hK _ ?_
  clear hK K
  refine stepE0 rfl rfl (fun K hK => ?_)
  go_simp
  refine hK _ ?_
  clear hK K
  refine stepE0 rfl rfl (fun K hK => ?_)
  go_simp
  refine hK _ ?_
  clear hK K
  refine stepE2 rfl rfl ?_ (fun w1 hS => ?_) (fun K hK => ?_)
  rotate_left
  focus (obtain rfl : w1 = _ := hS; go_simp; rfl)
  go_simp
  refine hK _ ?_
  clear hK K
  refine stepE0 rfl rfl (fun K hK => ?_)
  go_simp
  refine hK _ ?_
  clear hK K
  refine stepE2 rfl rfl ?_ (fun w1 hS => ?_) (fun K hK => ?_)
  rotate_left
  focus (obtain rfl : w1 = _ := hS; go_simp; rfl)
  go_simp
  refine hK _ ?_
  clear hK K
  refine stepE0 rfl rfl (fun K hK => ?_)
  go_simp
  refine hK _ ?_
  clear hK K
  refine stepE2 rfl rfl ?_ (fun w1 hS => ?_) (fun K hK => ?_)
  rotate_left
  focus (obtain rfl : w1 = _ := hS; go_simp; rfl)
  go_simp
  refine hK _ ?_
  clear hK K
  refine stepE0 rfl rfl (fun K hK => ?_)
  go_simp
  refine hK _ ?_
  clear hK K
  refine stepE0 rfl rfl (fun K hK => ?_)
  go_simp
  refine hK _ ?_
  clear hK K
  refine stepE0 rfl rfl (fun K hK => ?_)
  go_simp
  refine hK _ ?_
  clear hK K
  refine stepE1 rfl rfl (by kernel_rfl) (fun K hK => ?_)
  go_wp2
  try refine stepEnil0 ?_
  rw [hby2, HXB.out]
  clear hby2
  go_wp2_with fail
  go_ret3
  obtain ⟨w6, hw6⟩ : ∃ w6, w6 = w5.setCell ⟨g, i, none⟩ (bv (yb ^^^ x)) := ⟨_, rfl⟩
  have hR := rset_b (w2 := w6) (x := ⟨xorAt (st.fileAt f).b i x, (st.fileAt f).lasts⟩) HBLK.out HM.out HMR.out HEN.out HEL.out HDE.out HFI.out HFS.out HVB.out rfl (by rw [hw6]; exact Below.setCell HB05.out (by show w.heap.size ≤ g; omega) _) (vb := .slice (some ⟨g, 0, none⟩) n c5') (by rw [hw6, HSET.out]; exact rb_of (HO5.out.stored i (bv (yb ^^^ x))).1 (by rw [List.map_set]) (by rw [List.length_set]; exact HN.out)) (fun q e => .inr (by have h9 : g = q := (by simpa [Value.ownBlock] using e); omega))
  rw [hw6] at hR
  exact ⟨.slice none 0 0, rfl, reads_none _ _, by first | exact hR | exact ⟨hR.1, hR.2.drew⟩⟩
end Go.Proofs.Ytcicnjlkcbimgaa

/- corncribref07: any call of Do; New. -/
namespace Go.Proofs.Ytcicnjlkcbimgaa
open Go.RowKit Go.Maps
theorem call_none {st : Dk} {s : Nm} (ha : st.armed ≠ 0) (hg : dirGet st.now s = none) : st.fnd s = (6, 0) := fnd_none ha hg
theorem ref07_new (c : Nat) (w : World) : Calls Try.prog 27 #[.int .i64 c] w
    fun e w' => e = .returned (.agg #[.int .i64 c, .slice none 0 0, .slice none 0 0, .slice none 0 0, .slice none 0 0, .int .i64 (-1)]) ∧ Below w.heap.size w w' := by
  go_enter Try.func27, Try.ntmps27
  go_wp2
  refine bodyPost_ret (v := .agg #[.int .i64 c, .slice none 0 0, .slice none 0 0, .slice none 0 0, .slice none 0 0, .int .i64 (-1)]) ?_ rfl ?_
  · simp [results, Try.results27, go_sem]
  · exact ⟨rfl, (by repeat (first | (with_reducible exact Below.refl _ _) | (with_reducible refine Below.setCell ?_ ?_ _) | (with_reducible refine Below.alloc ?_ ?_ _) | (with_reducible refine Below.drewN ?_ _) | (with_reducible refine Below.drew ?_) | (with_reducible exact Nat.le_refl _) | (focus (simp only [World.size_alloc, World.size_setCell, World.size_drew, World.size_drewN]; omega)) | omega | exact Nat.le_refl _ | (focus (simp; done)) | (focus (simp; omega))))⟩
theorem ref_empty {w : World} {m c : Nat} (h : w.heap[m]? = some (.cells #[.int .i64 c, .slice none 0 0, .slice none 0 0, .slice none 0 0, .slice none 0 0, .int .i64 (-1)] 64 (0, 0))) : RefAt w m (fun k => k = m) (Dk.new c) :=
  ⟨.slice none 0 0, .slice none 0 0, .slice none 0 0, .slice none 0 0, [], h, World.ownsRow_nil _ _ _ _, World.ownsRow_nil _ _ _ _, World.ownsRow_nil _ _ _ _, ⟨World.ownsRow_nil _ _ _ _, fun p hp => absurd hp List.not_mem_nil⟩, rfl, rfl, fun k e => by rcases e with e | e | e | e <;> cases e⟩
theorem deeds_rs {st : Dk} (ha : st.armed ≠ 0) (a : DAct) (hk : 0 ≤ a.kind ∧ a.kind ≤ 6) : (st.call a).1 ≠ 0 → (st.call a).2 = st := by
  obtain ⟨k, nm, to, b, n, mm, p⟩ := a
  obtain ⟨h0, h6⟩ := hk
  simp only at h0 h6
  unfold Dk.call
  simp only
  split
  · unfold Dk.create; repeat (first | (intro h; first | rfl | exact absurd rfl h) | split)
  split
  · unfold Dk.append; repeat (first | (intro h; first | rfl | exact absurd rfl h) | split)
  split
  · unfold Dk.sync; repeat (first | (intro h; first | rfl | exact absurd rfl h) | split)
  split
  · unfold Dk.syncNames; repeat (first | (intro h; first | rfl | exact absurd rfl h) | split)
  split
  · unfold Dk.rename; repeat (first | (intro h; first | rfl | exact absurd rfl h) | split)
  split
  · unfold Dk.remove; repeat (first | (intro h; first | rfl | exact absurd rfl h) | split)
  split
  · unfold Dk.cut; repeat (first | (intro h; first | rfl | exact absurd rfl h) | split)
  · omega
theorem call_15 (st : Dk) (a : DAct) (hk : 0 ≤ a.kind ∧ a.kind ≤ 6) : (st.call a).1 ≤ 15 := by
  obtain ⟨k, nm, to, b, n, mm, p⟩ := a
  obtain ⟨h0, h6⟩ := hk
  simp only at h0 h6
  unfold Dk.call
  simp only
  split
  · exact create_le _ _
  split
  · exact append_le _ _ _
  split
  · exact sync_le _ _
  split
  · exact syncNames_le _
  split
  · exact rename_le _ _ _
  split
  · exact remove_le _ _
  split
  · exact cut_le _ _ _
  · omega
set_option maxRecDepth 100000 in
set_option maxHeartbeats 4000000 in
/-- Any call. -/
theorem rdo_any (m N : Nat) (M : Nat → Prop) (st : Dk) (a : DAct) (ab af : Option Addr) (cb cf : Nat) (w : World) (h : RefAt w m M st) (hok : DkOk N st) (hN : N < 4096) (hks : DkS st) (hMl : ∀ k, M k → k < w.heap.size) (ha : Dk.ok a) (hkd : 0 ≤ a.kind ∧ a.kind ≤ 11) (hbl : a.b.length ≤ 300) (hnl : -9223372036854775808 ≤ a.n)
    (hrb : Reads w 1 (.slice ab a.b.length cb) a.b.length (a.b.map bv)) (hrf : ∀ w', Keeps M w w' → Reads w' 2 (.slice af a.p.files.length cf) a.p.files.length (a.p.files.flatMap DPick.row)) :
    Calls Try.prog 28 #[(.pointer (some ⟨m, 0, none⟩)), actV a ab af cb cf] w (RDoOut w m M (st.callB a) (st.callN a) (st.call a).1 (st.call a).2) := by
  have hrs := fun ha => deeds_rs (st := st) ha a
  have h15 := call_15 st a
  have hdd := fun ha h8 => dead_call (st := st) ha a h8
  obtain ⟨k, nm, to, b, n, mm, pn, fs⟩ := a
  obtain ⟨h1, h2, h3, h4, h5, h6, h7, hpk⟩ := ha
  unfold actV
  simp only at *
  by_cases k8 : k = 8
  · subst k8
    exact rdo8 m N M st nm to b ab af cb fs.length cf n mm pn w h hok hN hks.2.2 hMl fs rfl hrf h5 h6 h7 hpk
  by_cases hz : st.armed = 0
  · obtain ⟨e1, e2, e3⟩ := hdd hz k8
    rw [e1, e2, e3]
    exact rdo_dead m N M st nm to b ab af cb fs.length cf n mm pn w h hok hN k k8 hz
  have hrs' := hrs hz
  clear hrs hdd
  by_cases k0 : k = 0
  · subst k0
    refine rdo_0 m N M st nm to b ab af cb fs.length cf n mm pn w h hok hN hz (st.create nm) (hrs' (by omega)) (h15 (by omega)) fun W hb => ?_
    have hW := h.below hb
    cases hn : namedB nm with
    | false => exact rdeed0_arg m N M st nm to b ab af cb fs.length cf n mm pn W hW hok hN hz h1 hn
    | true =>
      cases hg : dirGet st.now nm with
      | some f => exact rdeed0_there m N M st nm to b ab af cb fs.length cf n mm pn W hW hok hN hz h1 hn f hg
      | none =>
        by_cases hl : 64 ≤ st.now.length
        · exact rdeed0_full m N M st nm to b ab af cb fs.length cf n mm pn W hW hok hN hz h1 hn hg hl
        · exact rdeed0_do m N M st nm to b ab af cb fs.length cf n mm pn W hW hok hN hz h1 hn hg hl
  by_cases k1 : k = 1
  · subst k1
    refine rdo_1 m N M st nm to b ab af cb fs.length cf n mm pn w h hok hN hz (st.append nm b) (hrs' (by omega)) (h15 (by omega)) fun W hb => ?_
    have hW := h.below hb
    cases hg : dirGet st.now nm with
    | none => exact rdeed1_none m N M st nm to b ab af cb fs.length cf n mm pn W hW hok hN hz h1 hg
    | some f =>
      by_cases hk : 16777216 < (st.fileAt f).b.length + b.length
      · exact rdeed1_long m N M st nm to b ab af cb fs.length cf n mm pn W hW hok hN hz h1 f hg hbl hk
      by_cases hc : st.cap < st.used + b.length
      · exact rdeed1_full m N M st nm to b ab af cb fs.length cf n mm pn W hW hok hN hz h1 f hg hbl hk hc
      · exact rdeed1_do m N M st nm to b ab af cb fs.length cf n mm pn W hW hok hN hz h1 f hg hbl hk hc (hrb.below hb)
  by_cases k2 : k = 2
  · subst k2
    refine rdo_2 m N M st nm to b ab af cb fs.length cf n mm pn w h hok hN hz (st.sync nm) (hrs' (by omega)) (h15 (by omega)) fun W hb => ?_
    have hW := h.below hb
    cases hg : dirGet st.now nm with
    | none => exact rdeed2_none m N M st nm to b ab af cb fs.length cf n mm pn W hW hok hN hz h1 hg
    | some f => exact rdeed2_do m N M st nm to b ab af cb fs.length cf n mm pn W hW hok hN hz h1 f hg
  by_cases k3 : k = 3
  · subst k3
    exact rdo_3 m N M st nm to b ab af cb fs.length cf n mm pn w h hok hN hz st.syncNames (hrs' (by omega)) (h15 (by omega)) fun W hb => rdeed_3 m N M st nm to b ab af cb fs.length cf n mm pn W (h.below hb) hok hN hz h1
  by_cases k4 : k = 4
  · subst k4
    refine rdo_4 m N M st nm to b ab af cb fs.length cf n mm pn w h hok hN hz (st.rename nm to) (hrs' (by omega)) (h15 (by omega)) fun W hb => ?_
    have hW := h.below hb
    cases hg : dirGet st.now nm with
    | none => exact rdeed4_none m N M st nm to b ab af cb fs.length cf n mm pn W hW hok hN hz h1 hg
    | some f =>
      cases hn : namedB to with
      | false => exact rdeed4_arg m N M st nm to b ab af cb fs.length cf n mm pn W hW hok hN hz h1 f hg h2 hn
      | true => exact rdeed4_do m N M st nm to b ab af cb fs.length cf n mm pn W hW hok hN hz h1 f hg h2 hn
  by_cases k5 : k = 5
  · subst k5
    refine rdo_5 m N M st nm to b ab af cb fs.length cf n mm pn w h hok hN hz (st.remove nm) (hrs' (by omega)) (h15 (by omega)) fun W hb => ?_
    have hW := h.below hb
    cases hg : dirGet st.now nm with
    | none => exact rdeed5_none m N M st nm to b ab af cb fs.length cf n mm pn W hW hok hN hz h1 hg
    | some f => exact rdeed5_do m N M st nm to b ab af cb fs.length cf n mm pn W hW hok hN hz h1 f hg
  by_cases k6 : k = 6
  · subst k6
    refine rdo_6 m N M st nm to b ab af cb fs.length cf n mm pn w h hok hN hz (st.cut nm n) (hrs' (by omega)) (h15 (by omega)) fun W hb => ?_
    have hW := h.below hb
    cases hg : dirGet st.now nm with
    | none => exact rdeed6_none m N M st nm to b ab af cb fs.length cf n mm pn W hW hok hN hz h1 hg
    | some f =>
      by_cases hk : n < 0 ∨ ((st.fileAt f).b.length : Int) < n
      · exact rdeed6_arg m N M st nm to b ab af cb fs.length cf n mm pn W hW hok hN hz h1 f hg hk
      · obtain ⟨j, rfl⟩ : ∃ j : Nat, n = j := ⟨n.toNat, by omega⟩
        exact rdeed6_do m N M st nm to b ab af cb fs.length cf mm mm pn W hW hok hN hz h1 j f hg (by omega)
  by_cases k7 : k = 7
  · subst k7
    by_cases hn : n < 0
    · have e : st.call ⟨7, nm, to, b, n, mm, ⟨pn, fs⟩⟩ = (1, st) := by show st.arm n = _; unfold Dk.arm; rw [if_neg hz, if_pos hn]
      rw [e]
      exact rdo7_no m N M st nm to b ab af cb fs.length cf n mm pn w h hok hN hz hn
    · have e : st.call ⟨7, nm, to, b, n, mm, ⟨pn, fs⟩⟩ = (0, { st with armed := n }) := by show st.arm n = _; unfold Dk.arm; rw [if_neg hz, if_neg hn]
      rw [e]
      exact rdo7_do m N M st nm to b ab af cb fs.length cf n mm pn w h hok hN hz hn
  have hk9 : 9 ≤ k := by omega
  cases hg : dirGet st.now nm with
  | none =>
    have hf : st.fnd nm = (6, 0) := fnd_none hz hg
    have e1 : st.call ⟨k, nm, to, b, n, mm, ⟨pn, fs⟩⟩ = (6, st) := by
      unfold Dk.call
      simp only [k0, k1, k2, k3, k4, k5, k6, k7, k8, if_false]
      unfold Dk.spoil Dk.read Dk.size
      rw [hf]
      simp
    have e2 : st.callB ⟨k, nm, to, b, n, mm, ⟨pn, fs⟩⟩ = [] := by unfold Dk.callB Dk.read; rw [hf]; simp
    have e3 : st.callN ⟨k, nm, to, b, n, mm, ⟨pn, fs⟩⟩ = 0 := by unfold Dk.callN Dk.size; rw [hf]; simp
    rw [e1, e2, e3]
    exact rdo9_none m N M st nm to b ab af cb fs.length cf n mm pn w h hok hN k hk9 hz hg
  | some f =>
    have hf : st.fnd nm = (0, f) := fnd_some hz hg
    by_cases k9 : k = 9
    · subst k9
      by_cases hk : n < 0 ∨ ((st.fileAt f).b.length : Int) ≤ n
      · have e : st.call ⟨9, nm, to, b, n, mm, ⟨pn, fs⟩⟩ = (1, st) := by show st.spoil nm n (byteOf mm) = _; unfold Dk.spoil; rw [hf, if_neg (by simp), if_pos hk]
        rw [e]
        exact rdo9_arg m N M st nm to b ab af cb fs.length cf n mm pn w h hok hN hz f hg hk
      · obtain ⟨j, rfl⟩ : ∃ j : Nat, n = j := ⟨n.toNat, by omega⟩
        have e : st.call ⟨9, nm, to, b, j, mm, ⟨pn, fs⟩⟩ = (0, st.setF f ⟨xorAt (st.fileAt f).b j (byteOf mm), (st.fileAt f).lasts⟩) := by show st.spoil nm j (byteOf mm) = _; unfold Dk.spoil; rw [hf, if_neg (by simp), if_neg hk]; rfl
        rw [e]
        exact rdo9_do m N M st nm to b ab af cb fs.length cf (j : Int) mm pn w h hok hN hz f j rfl hg (by omega) (byteOf mm) rfl
    by_cases k10 : k = 10
    · subst k10
      by_cases hk1 : n < 0 ∨ mm < 0
      · have e : st.read nm n mm = (1, []) := by unfold Dk.read; rw [hf, if_neg (by simp), if_pos hk1]
        have e1 : st.call ⟨10, nm, to, b, n, mm, ⟨pn, fs⟩⟩ = (1, st) := by show ((st.read nm n mm).1, st) = _; rw [e]
        have e2 : st.callB ⟨10, nm, to, b, n, mm, ⟨pn, fs⟩⟩ = [] := by show (st.read nm n mm).2 = _; rw [e]
        rw [e1, e2]
        exact rdo10_arg m N M st nm to b ab af cb fs.length cf n mm pn w h hok hN hz f hg hk1
      by_cases hk2 : ((st.fileAt f).b.length : Int) < n + mm
      · have e : st.read nm n mm = (3, []) := by unfold Dk.read; rw [hf, if_neg (by simp), if_neg hk1, if_pos hk2]
        have e1 : st.call ⟨10, nm, to, b, n, mm, ⟨pn, fs⟩⟩ = (3, st) := by show ((st.read nm n mm).1, st) = _; rw [e]
        have e2 : st.callB ⟨10, nm, to, b, n, mm, ⟨pn, fs⟩⟩ = [] := by show (st.read nm n mm).2 = _; rw [e]
        rw [e1, e2]
        exact rdo10_short m N M st nm to b ab af cb fs.length cf n mm pn w h hok hN hz f hg (by omega) (by omega) h4 hk2
      · have e : st.read nm n mm = (0, ((st.fileAt f).b.drop n.toNat).take mm.toNat) := by unfold Dk.read; rw [hf, if_neg (by simp), if_neg hk1, if_neg hk2]
        have e1 : st.call ⟨10, nm, to, b, n, mm, ⟨pn, fs⟩⟩ = (0, st) := by show ((st.read nm n mm).1, st) = _; rw [e]
        have e2 : st.callB ⟨10, nm, to, b, n, mm, ⟨pn, fs⟩⟩ = ((st.fileAt f).b.drop n.toNat).take mm.toNat := by show (st.read nm n mm).2 = _; rw [e]
        rw [e1, e2]
        exact rdo10_do m N M st nm to b ab af cb fs.length cf n mm pn w h hok hN hz f n.toNat mm.toNat (by omega) (by omega) hg (by omega)
    have k11 : k = 11 := by omega
    subst k11
    have e : st.size nm = (0, (st.fileAt f).b.length) := by unfold Dk.size; rw [hf, if_neg (by simp)]
    have e1 : st.call ⟨11, nm, to, b, n, mm, ⟨pn, fs⟩⟩ = (0, st) := by show ((st.size nm).1, st) = _; rw [e]
    have e3 : st.callN ⟨11, nm, to, b, n, mm, ⟨pn, fs⟩⟩ = (st.fileAt f).b.length := by show (st.size nm).2 = _; rw [e]
    rw [e1, e3]
    exact rdo11 m N M st nm to b ab af cb fs.length cf n mm pn w h hok hN 11 (by omega) hz f hg
end Go.Proofs.Ytcicnjlkcbimgaa
