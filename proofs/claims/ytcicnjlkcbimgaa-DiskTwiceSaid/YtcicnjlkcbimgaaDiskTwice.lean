/- DiskTwice: the plain law, the walk. -/
import Derived.Test.YtcicnjlkcbimgaaDiskRoom
import Derived.Test.YtcicnjlkcbimgaaDiskLasts
import Derived.Test.YtcicnjlkcbimgaaAppReads
namespace Go.Proofs.Ytcicnjlkcbimgaa
open Go.RowKit
theorem crash_twice (d : Dk) (p q : DPicks) : (d.crash p).crash q = d.crash p := by
  have e1 : (d.crash p).lastDir q = d.lastDir p := by
    unfold Dk.lastDir Dk.crash
    simp [deedsApp]
    rfl
  have e2 : settleAll (d.lastDir p) q (settleAll (d.lastDir p) p d.files) = settleAll (d.lastDir p) p d.files := by
    unfold settleAll
    apply List.ext_getElem?
    intro i
    simp only [List.getElem?_mapIdx]
    cases d.files[i]? with
    | none => rfl
    | some f =>
      simp only [Option.map_some]
      by_cases h : (d.lastDir p).any (fun x => x.2 == i) = true
      · simp only [h, if_true, settle_twice]
      · simp only [h]
        rfl
  have e3 : (d.crash p).crash q = ⟨d.cap, (d.crash p).lastDir q, (d.crash p).lastDir q, [], settleAll ((d.crash p).lastDir q) q (settleAll (d.lastDir p) p d.files), -1⟩ := rfl
  rw [e3, e1, e2]
  rfl
def bytesOf (d : Dk) (s : Nm) : List UInt8 := match dirGet d.now s with | some i => (d.fileAt i).b | none => []
theorem mem_get : ∀ {l : Dir} {s : Nm}, s ∈ l.map (·.1) → ∃ i, dirGet l s = some i := fun {l s} h => by
  cases e : dirGet l s with
  | some i => exact ⟨i, rfl⟩
  | none =>
    obtain ⟨p, hp, e2⟩ := List.mem_map.1 h
    exact absurd e2 (get_none e p hp)
theorem size_of {d : Dk} {s : Nm} (ha : d.armed ≠ 0) (h : s ∈ d.now.map (·.1)) : d.size s = (0, (bytesOf d s).length) := by
  obtain ⟨i, hi⟩ := mem_get h
  have e : d.fnd s = (0, i) := by unfold Dk.fnd; simp [ha, hi]
  unfold Dk.size bytesOf
  rw [e, hi]
  simp
theorem read_of {d : Dk} {s : Nm} (ha : d.armed ≠ 0) (h : s ∈ d.now.map (·.1)) : d.read s 0 (bytesOf d s).length = (0, bytesOf d s) := by
  obtain ⟨i, hi⟩ := mem_get h
  have e : d.fnd s = (0, i) := by unfold Dk.fnd; simp [ha, hi]
  unfold Dk.read bytesOf
  rw [e, hi]
  simp
theorem bytesOf_le {K : Nat} {d : Dk} (h : DkOk K d) (s : Nm) : (bytesOf d s).length ≤ 16777216 := by
  unfold bytesOf
  split
  · exact (h.at _).2
  · simp
theorem names_mem {l : Dir} {j : Nat} {s : Nm} (h : (namesOf l)[j]? = some s) : s ∈ l.map (·.1) := (List.mergeSort_perm _ _).mem_iff.1 (List.mem_of_getElem? h)
theorem rows_info : (Try.prog.info? 22).map (fun i => (i.zero, i.size, i.bytes)) = some (some (.slice none 0 0), 1, 24) := by kernel_rfl
/-- Rows of bytes, kept. -/
def KeptRows (w : World) (B : Nat) (d : Dk) (nms : List Nm) (vals : List Value) : Prop := ∀ (j : Nat) (u : Value), vals[j]? = some u → ∃ s a c, nms[j]? = some s ∧ u = .slice a (bytesOf d s).length c ∧ w.ownsRow B 5 1 u (bytesOf d s).length ((bytesOf d s).map bv)
theorem KeptRows.below {w w' : World} {B : Nat} {d : Dk} {nms : List Nm} {vals : List Value} (h : KeptRows w B d nms vals) (hb : Below w.heap.size w w') : KeptRows w' B d nms vals := fun j u hu => by
  obtain ⟨s, a, c, h1, h2, h3⟩ := h j u hu
  exact ⟨s, a, c, h1, h2, ownsRow_below h3 hb⟩
theorem KeptRows.own {w w' : World} {B : Nat} {d : Dk} {nms : List Nm} {vals : List Value} {G : Nat → Prop} (h : KeptRows w B d nms vals) (hk : Keeps G w w') (hh : Hits w G (22 + 1)) : KeptRows w' B d nms vals := fun j u hu => by
  obtain ⟨s, a, c, h1, h2, h3⟩ := h j u hu
  exact ⟨s, a, c, h1, h2, keep_row hk hh h3 (by decide)⟩
theorem KeptRows.kp {w w' : World} {B : Nat} {d : Dk} {nms : List Nm} {vals : List Value} {P : Nat → Prop} (h : KeptRows w B d nms vals) (hk : KP P w w') (hP : ∀ k, B ≤ k → k < w.heap.size → P k) : KeptRows w' B d nms vals := fun j u hu => by
  obtain ⟨s, a, c, h1, h2, h3⟩ := h j u hu
  exact ⟨s, a, c, h1, h2, hk.row h3 fun g hg => hP g (h3.lt g hg).1 (h3.lt g hg).2⟩
theorem KeptRows.snoc {w : World} {B : Nat} {d : Dk} {nms : List Nm} {vals : List Value} (h : KeptRows w B d nms vals) {s : Nm} {a : Option Addr} {c : Nat} (hs : nms[vals.length]? = some s) (hr : w.ownsRow B 5 1 (.slice a (bytesOf d s).length c) (bytesOf d s).length ((bytesOf d s).map bv)) :
    KeptRows w B d nms (vals ++ [.slice a (bytesOf d s).length c]) := fun j u hu => by
  rw [List.getElem?_append] at hu
  split at hu
  · exact h j u hu
  · rename_i hj
    have e : j = vals.length := by
      have := (List.getElem?_eq_some_iff.1 hu).1
      simp at this
      omega
    subst e
    simp at hu
    subst hu
    exact ⟨s, a, c, hs, rfl, hr⟩
theorem KeptRows.one {w : World} {B : Nat} {d : Dk} {nms : List Nm} {vals : List Value} (h : KeptRows w B d nms vals) : ∀ u ∈ vals, u.oneCell' = true := fun u hu => by
  obtain ⟨j, hj⟩ := List.mem_iff_getElem?.1 hu
  obtain ⟨_, _, _, _, rfl, _⟩ := h j u hj
  rfl
theorem name_cell {w : World} {base g n c : Nat} {l : Dir} (h : w.ownsRow base 9 1 (.slice (some ⟨g, 0, none⟩) n c) n ((namesOf l).map strV)) {j : Nat} {s : Nm} (hj : j < n) (hs : (namesOf l)[j]? = some s) : w.cell? ⟨g, j, none⟩ = some (.string ⟨s.toArray⟩) := by
  rw [h.cellAt j (by omega), List.getElem?_map, hs]
  rfl
set_option maxRecDepth 100000 in
set_option maxHeartbeats 8000000 in
theorem twice_any (a : Option Addr) (n ca : Nat) (l : List AArg) (p q : DPicks) (af ag : Option Addr) (cf cg : Nat) (w : World) (hl : l.length = n) (hr : Reads w 8 (.slice a n ca) n (l.flatMap AArg.row)) (hok : ∀ x ∈ l, AOk w x) (hfar : farB l = false)
    (hrp : Reads w 2 (.slice af p.files.length cf) p.files.length (p.files.flatMap DPick.row)) (hrq : Reads w 2 (.slice ag q.files.length cg) q.files.length (q.files.flatMap DPick.row)) (hnp : p.files.length ≤ 60) (hnq : q.files.length ≤ 60)
    (hp1 : -9223372036854775808 ≤ p.names ∧ p.names ≤ 9223372036854775807) (hq1 : -9223372036854775808 ≤ q.names ∧ q.names ≤ 9223372036854775807) (hpk : ∀ x ∈ p.files, PickOk x) (hqk : ∀ x ∈ q.files, PickOk x) :
    Calls Try.prog 7 #[.slice a n ca, .agg #[.int .i64 p.names, .slice af p.files.length cf], .agg #[.int .i64 q.names, .slice ag q.files.length cg]] w fun e w' => e = .returned (.bool true) ∧ Below w.heap.size w w' := by
  have hd3 : decide ((60 : Int) < (p.files.length : Int)) = false := by simp; omega
  have hd4 : decide ((60 : Int) < (q.files.length : Int)) = false := by simp; omega
  have HL := Lib.hid hl
  have HR := Lib.hid hr
  have HOK := Lib.hid hok
  have HRP := Lib.hid hrp
  have HRQ := Lib.hid hrq
  have HP1 := Lib.hid hp1
  have HQ1 := Lib.hid hq1
  have HPK := Lib.hid hpk
  have HQK := Lib.hid hqk
  obtain ⟨hn60, hbad⟩ := far_no hfar
  rw [HL.out] at hn60
  have HBAD := Lib.hid hbad
  have HFAR := Lib.hid hfar
  obtain ⟨i0, hi, hz0, hz1, hz2⟩ := info_parts rows_info
  have HI := Lib.hid hi
  have HZ0 := Lib.hid hz0
  have HZ1 := Lib.hid hz1
  have HZ2 := Lib.hid hz2
  clear hi hz0 hz1 hz2 hbad hfar hl hr hok hrp hrq hp1 hq1 hpk hqk
  go_enter Try.func7, Try.ntmps7
  go_wp2_with fail
  refine (alive07 _).mono ?_
  rintro e w1 ⟨rfl, hb1⟩
  have hB0 : Below w.heap.size w ((w.alloc (.cells #[.int .i64 p.names, .slice af p.files.length cf] 25)).alloc (.cells #[.int .i64 q.names, .slice ag q.files.length cg] 25)) := ((Below.refl _ _).alloc (Nat.le_refl _) _).alloc (by simp) _
  have HBX := Lib.hid (show w1.heap[w.heap.size]? = some (.cells #[.int .i64 p.names, .slice af p.files.length cf] 25 (0, 0)) from blk_below (blk_alloc (heap_new w _) _) (by simpa using hb1))
  have HBY := Lib.hid (show w1.heap[w.heap.size + 1]? = some (.cells #[.int .i64 q.names, .slice ag q.files.length cg] 25 (0, 0)) from blk_below (blk_new (w := w.alloc (.cells #[.int .i64 p.names, .slice af p.files.length cf] 25)) _ (by simp)) (by simpa using hb1))
  have HB1 := Lib.hid (hB0.trans (hb1.mono (by simp; omega)))
  have hz1 : w.heap.size + 1 < w1.heap.size := blk_lt HBY.out
  have x1 : w1.cell? ⟨w.heap.size, 1, none⟩ = some (.slice af p.files.length cf) := by rw [cell_of_row w1 w.heap.size 1 _ _ _ HBX.out]; rfl
  have x2 : w1.cell? ⟨w.heap.size + 1, 1, none⟩ = some (.slice ag q.files.length cg) := by rw [cell_of_row w1 (w.heap.size + 1) 1 _ _ _ HBY.out]; rfl
  clear hb1 hB0
  go_wp2_with fail
  refine (far_any a n ca l _ HL.out (HR.out.below HB1.out)).mono ?_
  rintro e w2 ⟨rfl, rfl⟩
  rw [HFAR.out]
  go_wp2_with fail
  refine (new_ds 5000 (by omega) _).mono ?_
  rintro e w2 ⟨rfl, hd2, hb2, hz2⟩
  have HD2 := Lib.hid hd2
  have HK2 := Lib.hid (show KP (fun k => k < w1.heap.size) w1 w2 from KP.of hb2)
  clear hd2 hb2 x1 x2
  go_wp2_with fail
  go_loopw [9] (fun i wr => ∃ (k : Nat) (st : Dk), k ≤ n ∧ i = .int .i64 k ∧ DS wr (w1.heap.size + 2) (fun k => k < w1.heap.size) k st ∧ KP (fun k => k < w1.heap.size) w1 wr) (fun i _ => n - (intOf i).toNat)
  case atStart => exact ⟨0, Dk.new 5000, Nat.zero_le _, rfl, HD2.out, HK2.out⟩
  case round =>
    obtain ⟨k, st, hk, rfl, hd, hkp⟩ := hrel
    have HD := Lib.hid hd
    have HKP := Lib.hid hkp
    have hzr := hkp.size
    have HBW := Lib.hid (HB1.out.trans ((hkp.below (Nat.le_refl _) fun _ e => e).mono (by omega)))
    clear hd hkp
    by_cases hlt : k < n
    · obtain ⟨x, hx⟩ : ∃ x, l[k]? = some x := ⟨_, List.getElem?_eq_getElem (by rw [HL.out]; exact hlt)⟩
      have hxm := List.mem_of_getElem? hx
      have HAO := Lib.hid (HOK.out x hxm)
      have HAB := Lib.hid (HBAD.out x hxm)
      obtain ⟨b, o, cc, e, hbl, y0, y1, y2, y3, y4, y5, y6, y7⟩ := act_cells (HR.out.below HBW.out) hx (by omega)
      obtain ⟨rfl, -, rfl⟩ := sl_inj e
      have hk0 : (0 : Int) ≤ (k : Int) := by omega
      have hk1 : (k : Int) < (n : Int) := by omega
      clear hx e hxm
      obtain ⟨⟨kd, nm, to, bs, nn, mm, ⟨pn, fs⟩⟩, ab, cb, af', cf'⟩ := x
      simp only at y0 y1 y2 y3 y4 y5 y6 y7
      go_wp2_with fail
      have hao := HAO.out.below HBW.out
      refine (do07_any HD.out (fun k hk => by omega) (by omega) ⟨kd, nm, to, bs, nn, mm, ⟨pn, fs⟩⟩ (act_ok HAO.out HAB.out) ab af' cb cf' hao.rb hao.rf).mono ?_
      clear hao
      rintro e w5 hdo
      obtain ⟨st', hst'⟩ : ∃ st', st' = (st.call ⟨kd, nm, to, bs, nn, mm, ⟨pn, fs⟩⟩).2 := ⟨_, rfl⟩
      obtain ⟨r, hr⟩ : ∃ r, r = (st.call ⟨kd, nm, to, bs, nn, mm, ⟨pn, fs⟩⟩).1 := ⟨_, rfl⟩
      obtain ⟨sn, hsn⟩ : ∃ sn, sn = st.callN ⟨kd, nm, to, bs, nn, mm, ⟨pn, fs⟩⟩ := ⟨_, rfl⟩
      rw [← hst', ← hr, ← hsn] at hdo
      obtain ⟨v5, rfl, ho5, hd5, hk5⟩ := hdo
      obtain ⟨a5, c5, rfl⟩ := ownsRow_len ho5
      have HD5 := Lib.hid hd5
      have HK5 := Lib.hid (HKP.out.trans hk5)
      clear hst' hr hsn ho5 hd5 hk5 y0 y1 y2 y3 y4 y5 y6 y7
      go_wp2_with fail
      go_roundw
      case rel => exact ⟨k + 1, st', by omega, by go_num, HD5.out, HK5.out⟩
      case measure => simp [intOf]; omega
    · have hkn : decide ((k : Int) < (n : Int)) = false := by simp; omega
      obtain ⟨wa, rfl⟩ : ∃ W : World, W = wr := ⟨_, rfl⟩
      have hbx := HKP.out.blk HBX.out (by omega)
      have x0 : wa.cell? ⟨w.heap.size, 0, none⟩ = some (.int .i64 p.names) := by rw [cell_of_row wa w.heap.size 0 _ _ _ hbx]; rfl
      have x1 : wa.cell? ⟨w.heap.size, 1, none⟩ = some (.slice af p.files.length cf) := by rw [cell_of_row wa w.heap.size 1 _ _ _ hbx]; rfl
      have hwl := blk_lt hbx
      clear hbx
      go_wp2_with fail
      refine (picks_any p.names p.files af _ cf _ rfl (by omega) (HRP.out.below HBW.out)).mono ?_
      rintro e wb ⟨v, rfl, hov, hbb⟩
      obtain ⟨av, cv, rfl⟩ := ownsRow_len hov
      have HOV := Lib.hid hov
      have hzb := hbb.size
      have HDB := Lib.hid (HD.out.later (R := fun k => k < w1.heap.size ∨ (wa.heap.size ≤ k ∧ k < wb.heap.size)) hbb fun k hk => hk.imp id fun hk => hk.1)
      have HKB := Lib.hid (HKP.out.trans (KP.of hbb))
      clear hov hbb x0 x1
      go_wp2_with fail
      refine (crash_ds HDB.out (fun k hk => hk.elim (fun hk => by omega) fun hk => hk.2) (by omega) p av cv (reads_of_owns HOV.out) (fun g e => by
        subst e
        rcases row_addr HOV.out with ⟨e, _⟩ | ⟨g', e⟩
        · cases e
        · cases e
          have := HOV.out.lt g' rfl
          exact ⟨rfl, .inr this, this.2⟩) HP1.out.1 HP1.out.2 HPK.out).mono ?_
      rintro e wc ⟨rfl, hdc, hkc⟩
      have HTW := Lib.hid (crash_twice st p q)
      obtain ⟨sc, hsc⟩ : ∃ sc, sc = st.crash p := ⟨_, rfl⟩
      rw [← hsc] at hdc HTW
      have HARM := Lib.hid (show (sc.armed == 0) = false by rw [hsc]; rfl)
      have HARM2 := Lib.hid (show sc.armed ≠ 0 by rw [hsc]; exact (by decide : (-1 : Int) ≠ 0))
      have HDC := Lib.hid (show DS wc (w1.heap.size + 2) (fun k => k < w1.heap.size) k sc from hdc.less fun k hk => .inl hk)
      have HKC := Lib.hid (HKB.out.trans (hkc.mono fun k _ hk => .inl hk))
      have hzc := HKC.out.size
      have hnl := HDC.out.ok.lnow
      clear hdc hkc hsc
      go_wp2_with fail
      refine (names_ds HDC.out).mono ?_
      rintro e wd ⟨v4, rfl, ho4, hb4⟩
      obtain ⟨a4, c4, rfl⟩ := ownsRow_len ho4
      have HO4 := Lib.hid ho4
      have HB4 := Lib.hid hb4
      have hz4 := hb4.size
      have HLN := Lib.hid (namesOf_len sc.now)
      clear ho4 hb4
      go_wp2_with fail
      go_loopw [11, 12] (fun x i wr => ∃ (j : Nat) (vals : List Value), j ≤ sc.now.length ∧ i = .int .i64 j ∧ vals.length = j ∧ wr.ownsRow wd.heap.size 22 1 x j vals ∧ KeptRows wr wd.heap.size sc (namesOf sc.now) vals ∧ Below wd.heap.size wd wr) (fun _ i _ => sc.now.length - (intOf i).toNat)
      case atStart => exact ⟨0, [], Nat.zero_le _, rfl, rfl, World.ownsRow_nil _ _ _ _, fun j u hu => by simp at hu, Below.refl _ _⟩
      case round =>
        obtain ⟨j, vals, hj, rfl, hvl, hown, hkr, hbr⟩ := hrel
        obtain ⟨ax, cx, rfl⟩ := ownsRow_len hown
        have HOW := Lib.hid hown
        have HKR := Lib.hid hkr
        have HBR := Lib.hid hbr
        have HVL := Lib.hid hvl
        have hzr2 := hbr.size
        have HDR := Lib.hid (HDC.out.below (HB4.out.trans (hbr.mono hz4)))
        clear hown hkr hbr hvl
        by_cases hjl : j < sc.now.length
        · obtain ⟨s, hs⟩ : ∃ s, (namesOf sc.now)[j]? = some s := ⟨_, List.getElem?_eq_getElem (by rw [HLN.out]; exact hjl)⟩
          have hsm := names_mem hs
          obtain ⟨g4, rfl⟩ : ∃ g, a4 = some ⟨g, 0, none⟩ := by
            rcases HO4.out.2 with ⟨e, h0⟩ | ⟨g, _, _, e, _⟩
            · omega
            · simp only [Value.slice.injEq] at e
              exact ⟨g, e.1⟩
          have hcell := name_cell (ownsRow_below HO4.out HBR.out) hjl hs
          have hg4 := (HO4.out.lt g4 rfl).2
          have hg4r : g4 < wr.heap.size := by omega
          have HSZ := Lib.hid (size_of HARM2.out hsm)
          have HRD := Lib.hid (read_of HARM2.out hsm)
          have hble := bytesOf_le HDC.out.ok s
          have hslen : s.length ≤ maxLen := by
            obtain ⟨F, qq, h1, _, _⟩ := HDC.out
            obtain ⟨pr, hpr, e⟩ := List.mem_map.1 hsm
            have := dir_keys h1.now pr hpr
            rw [e] at this
            exact this
          have HSL := Lib.hid hslen
          have HS := Lib.hid hs
          have hj0 : (0 : Int) ≤ (j : Int) := by omega
          have hj1 : (j : Int) < (sc.now.length : Int) := by omega
          clear hs hsm hslen
          go_wp2_with fail
          refine (size_ds HDR.out s HSL.out).mono ?_
          rintro e we ⟨rfl, rfl⟩
          rw [HSZ.out]
          go_wp2_with fail
          refine (read_ds HDR.out s 0 (bytesOf sc s).length HSL.out (by omega) (by omega)).mono ?_
          rintro e we hR
          rw [HRD.out] at hR
          obtain ⟨vr, rfl, hor, hbe⟩ := hR
          obtain ⟨ar, cr, rfl⟩ := ownsRow_len hor
          have HBE := Lib.hid (HBR.out.trans (hbe.mono hzr2))
          have HOR := Lib.hid hor
          have hze := hbe.size
          have HOWE := Lib.hid (ownsRow_below HOW.out hbe)
          have HKRE := Lib.hid (HKR.out.below hbe)
          clear hor hbe hcell
          go_wp2_with fail
          refine (code0 _).mono ?_
          rintro e wf ⟨rfl, rfl⟩
          go_wp2_with (at_builtin; refine wpList_append_own _ rfl _ _ 75 rfl wd.heap.size 22 i0 (.slice none 0 0) 1 24 Try.underlying75 HI.out HZ0.out HZ1.out HZ2.out rfl (by decide) _ _ _ rfl (HOWE.out.alloc _) ⟨we.heap.size, 0, none⟩ 1 1 [.slice ar (bytesOf sc s).length cr] rfl rfl (by have h := cell_one_new we (.slice ar (bytesOf sc s).length cr) 22; simpa using h) (by simp [Value.oneCell']) (by unfold maxLen; omega) (by omega) (by simp; omega) ?_; intro v' w5 hown' hgrow _; have HOX := Lib.hid hown'; have HGX := Lib.hid hgrow; clear hown' hgrow)
          have HB5 := Lib.hid (show Below wd.heap.size wd w5 from (HBE.out.alloc (by omega) _).grown HGX.out (by simp; omega) (fun g hg => (HOWE.out.lt g hg).1))
          have HBE5 := Lib.hid (show KeptRows w5 wd.heap.size sc (namesOf sc.now) vals ∧ w5.ownsRow wd.heap.size 5 1 (.slice ar (bytesOf sc s).length cr) (bytesOf sc s).length ((bytesOf sc s).map bv) from
            ⟨HKRE.out.own (keeps_append HGX.out) (hits_row HOWE.out), keep_row (keeps_append HGX.out) (hits_row HOWE.out) (ownsRow_mono HOR.out hzr2) (by decide)⟩)
          go_roundw
          case rel => exact ⟨j + 1, vals ++ [.slice ar (bytesOf sc s).length cr], by omega, by go_num, by simp [HVL.out], HOX.out, HBE5.out.1.snoc (by rw [HVL.out]; exact HS.out) HBE5.out.2, HB5.out⟩
          case measure => simp [intOf]; omega
        · have hjn : decide ((j : Int) < (sc.now.length : Int)) = false := by simp; omega
          have hje : j = sc.now.length := by omega
          subst hje
          obtain ⟨we, rfl⟩ : ∃ W : World, W = wr := ⟨_, rfl⟩
          have HKE := Lib.hid (HKC.out.trans (KP.of (HB4.out.trans (HBR.out.mono hz4))))
          have HBWE := Lib.hid (HB1.out.trans ((HKE.out.below (Nat.le_refl _) fun _ e => e).mono (by omega)))
          have hze := HKE.out.size
          have HD6 := Lib.hid (HDC.out.later (R := fun k => k < w1.heap.size ∨ (wc.heap.size ≤ k ∧ k < we.heap.size)) (HB4.out.trans (HBR.out.mono hz4)) fun k hk => hk.imp id fun hk => hk.1)
          have hbx := HKE.out.blk HBY.out (by omega)
          have x0 : we.cell? ⟨w.heap.size + 1, 0, none⟩ = some (.int .i64 q.names) := by rw [cell_of_row we (w.heap.size + 1) 0 _ _ _ hbx]; rfl
          have x1 : we.cell? ⟨w.heap.size + 1, 1, none⟩ = some (.slice ag q.files.length cg) := by rw [cell_of_row we (w.heap.size + 1) 1 _ _ _ hbx]; rfl
          have hwl := blk_lt hbx
          clear hbx
          go_wp2_with fail
          refine (picks_any q.names q.files ag _ cg _ rfl (by omega) (HRQ.out.below HBWE.out)).mono ?_
          rintro e wf ⟨v, rfl, hov, hbf⟩
          obtain ⟨aw, cw, rfl⟩ := ownsRow_len hov
          have HOV2 := Lib.hid hov
          have hzf := hbf.size
          have HD7 := Lib.hid (HD6.out.later (R := fun k => k < w1.heap.size ∨ (wc.heap.size ≤ k ∧ k < wf.heap.size)) hbf fun k hk => by omega)
          have HKF := Lib.hid (HKE.out.trans (KP.of hbf))
          have HO4F := Lib.hid (ownsRow_below (ownsRow_below HO4.out HBR.out) hbf)
          have HOWF := Lib.hid (ownsRow_below HOW.out hbf)
          have HKRF := Lib.hid (HKR.out.below hbf)
          clear hov hbf x0 x1
          go_wp2_with fail
          refine (crash_ds HD7.out (fun k hk => by omega) (by omega) q aw cw (reads_of_owns HOV2.out) (fun g e => by
            subst e
            rcases row_addr HOV2.out with ⟨e, _⟩ | ⟨g', e⟩
            · cases e
            · cases e
              have := HOV2.out.lt g' rfl
              exact ⟨rfl, .inr ⟨by show wc.heap.size ≤ g'; omega, this.2⟩, this.2⟩) HQ1.out.1 HQ1.out.2 HQK.out).mono ?_
          rintro e wg ⟨rfl, hdg, hkg⟩
          rw [HTW.out] at hdg
          have HDG := Lib.hid (show DS wg (w1.heap.size + 2) (fun k => k < w1.heap.size) k sc from hdg.less fun k hk => .inl hk)
          have HKG := Lib.hid (HKF.out.trans (hkg.mono fun k _ hk => .inl hk))
          have hzg := HKG.out.size
          have HO4G := Lib.hid (hkg.row HO4F.out fun g hg => .inr ⟨by have := (HO4.out.lt g hg).1; omega, (HO4F.out.lt g hg).2⟩)
          have HOWG := Lib.hid (hkg.row HOWF.out fun g hg => .inr ⟨by have := (HOW.out.lt g hg).1; omega, (HOWF.out.lt g hg).2⟩)
          have HKRG := Lib.hid (HKRF.out.kp hkg fun g h1 h2 => .inr ⟨by omega, h2⟩)
          clear hdg hkg
          go_wp2_with fail
          refine (names_ds HDG.out).mono ?_
          rintro e wh ⟨v4, rfl, ho4, hb4⟩
          obtain ⟨a5, c5, rfl⟩ := ownsRow_len ho4
          have HO5 := Lib.hid ho4
          have HDH := Lib.hid (HDG.out.below hb4)
          have HKH := Lib.hid (HKG.out.trans (KP.of hb4))
          have HO4H := Lib.hid (ownsRow_below HO4G.out hb4)
          have HOWH := Lib.hid (ownsRow_below HOWG.out hb4)
          have HKRH := Lib.hid (HKRG.out.below hb4)
          have hzh := HKH.out.size
          clear ho4 hb4
          go_wp2_with fail
          refine (down_ds HDH.out).mono ?_
          rintro e wi ⟨rfl, rfl⟩
          rw [HARM.out]
          go_wp2_with fail
          go_loopw [18] (fun i wr => ∃ j : Nat, j ≤ sc.now.length ∧ i = .int .i64 j ∧ Below wh.heap.size wh wr) (fun i _ => sc.now.length - (intOf i).toNat)
          case atStart => exact ⟨0, Nat.zero_le _, rfl, Below.refl _ _⟩
          case round =>
            obtain ⟨j, hj3, rfl, hbr3⟩ := hrel
            have HBR3 := Lib.hid hbr3
            have hzr3 := hbr3.size
            have HDR3 := Lib.hid (HDH.out.below hbr3)
            clear hbr3
            by_cases hjl : j < sc.now.length
            · obtain ⟨s, hs⟩ : ∃ s, (namesOf sc.now)[j]? = some s := ⟨_, List.getElem?_eq_getElem (by rw [HLN.out]; exact hjl)⟩
              have hsm := names_mem hs
              have some_row : ∀ {W : World} {B n c : Nat} {aa : Option Addr} {T : TypeId} {xs : List Value}, W.ownsRow B T 1 (.slice aa n c) n xs → 0 < n → ∃ g, aa = some ⟨g, 0, none⟩ := fun h h0 => by
                rcases h.2 with ⟨e, h1⟩ | ⟨g, _, _, e, _⟩
                · omega
                · simp only [Value.slice.injEq] at e
                  exact ⟨g, e.1⟩
              obtain ⟨g4, rfl⟩ := some_row HO4.out (by omega)
              obtain ⟨g5, rfl⟩ := some_row HO5.out (by omega)
              obtain ⟨gx, rfl⟩ := some_row HOW.out (by omega)
              obtain ⟨u, hu⟩ : ∃ u, vals[j]? = some u := ⟨_, List.getElem?_eq_getElem (by rw [HVL.out]; exact hjl)⟩
              have hslen : s.length ≤ maxLen := by
                obtain ⟨F, qq, h1, _, _⟩ := HDC.out
                obtain ⟨pr, hpr, e⟩ := List.mem_map.1 hsm
                have := dir_keys h1.now pr hpr
                rw [e] at this
                exact this
              have hble := bytesOf_le HDC.out.ok s
              have HSL := Lib.hid hslen
              have HS := Lib.hid hs
              have HU := Lib.hid hu
              have HSZ := Lib.hid (size_of HARM2.out hsm)
              have HRD := Lib.hid (read_of HARM2.out hsm)
              have hj0 : (0 : Int) ≤ (j : Int) := by omega
              have hj1 : (j : Int) < (sc.now.length : Int) := by omega
              have hcell := name_cell (ownsRow_below HO5.out HBR3.out) hjl hs
              have hg5 := (HO5.out.lt g5 rfl).2
              have hg5r : g5 < wr.heap.size := by omega
              clear hs hsm hslen hu some_row
              go_wp2_with fail
              refine (size_ds HDR3.out s HSL.out).mono ?_
              rintro e wi ⟨rfl, rfl⟩
              rw [HSZ.out]
              go_wp2_with fail
              refine (read_ds HDR3.out s 0 (bytesOf sc s).length HSL.out (by omega) (by omega)).mono ?_
              rintro e wk hR
              rw [HRD.out] at hR
              obtain ⟨vr, rfl, hor, hbk⟩ := hR
              obtain ⟨ar, cr, rfl⟩ := ownsRow_len hor
              have HBK := Lib.hid (HBR3.out.trans (hbk.mono hzr3))
              have HOR := Lib.hid hor
              have hzk := HBK.out.size
              have hcell5 := name_cell (ownsRow_below HO5.out HBK.out) hjl HS.out
              have hcell4 := name_cell (ownsRow_below HO4H.out HBK.out) hjl HS.out
              have hg5k : g5 < wk.heap.size := by omega
              have hg4k : g4 < wk.heap.size := by have := (HO4H.out.lt g4 rfl).2; omega
              have hgxk : gx < wk.heap.size := by have := (HOWH.out.lt gx rfl).2; omega
              obtain ⟨s2, a2, c2, hs2, hu2, ho2⟩ := HKRH.out.below HBK.out j u HU.out
              have hss : s2 = s := Option.some.inj (hs2.symm.trans HS.out)
              subst hss
              have hcellx : wk.cell? ⟨gx, j, none⟩ = some (.slice a2 (bytesOf sc s2).length c2) := by
                rw [(ownsRow_below HOWH.out HBK.out).cellAt j (by omega), HU.out, hu2]
              rw [hu2] at ho2
              have HO2 := Lib.hid ho2
              clear hor hbk hcell hs2 hu2 ho2
              go_wp2_with fail
              refine wp_region_now0 [3, 7, 14] [(0, 0), (1, 0), (2, 0), (3, 2), (4, 0), (5, 0), (6, 0), (7, 2), (8, 0), (9, 0), (10, 0), (11, 0), (12, 0), (13, 0), (14, 2), (15, 1), (16, 0), (17, 0)] (by kernel_rfl) (by kernel_rfl) rfl (by kernel_rfl) ?_
              refine stepE0 rfl rfl (fun K hK => ?_)
              go_simp
              refine hK _ ?_
              clear hK K
              refine stepE0 rfl rfl (fun K hK => ?_)
              go_simp
              refine hK _ ?_
              clear hK K
              refine stepE0 rfl rfl (fun K hK => ?_)
              go_simp
              refine hK _ ?_
              clear hK K
              refine stepE2 rfl rfl ?_ (fun w1 hS => ?_) (fun K hK => ?_)
              rotate_left
              focus (obtain rfl : w1 = _ := hS; go_simp; rfl)
              go_simp
              refine hK _ ?_
              clear hK K
              refine stepE0 rfl rfl (fun K hK => ?_)
              go_simp
              refine hK _ ?_
              clear hK K
              refine stepE0 rfl rfl (fun K hK => ?_)
              go_simp
              refine hK _ ?_
              clear hK K
              refine stepE0 rfl rfl (fun K hK => ?_)
              go_simp
              refine hK _ ?_
              clear hK K
              refine stepE2 rfl rfl ?_ (fun w1 hS => ?_) (fun K hK => ?_)
              rotate_left
              focus (obtain rfl : w1 = _ := hS; go_simp; rfl)
              go_simp
              refine hK _ ?_
              clear hK K
              refine stepE0 rfl rfl (fun K hK => ?_)
              go_simp
              refine hK _ ?_
              clear hK K
              refine stepE0 rfl rfl (fun K hK => ?_)
              go_simp
              refine hK _ ?_
              clear hK K
              refine stepE0 rfl rfl (fun K hK => ?_)
              go_simp
              refine hK _ ?_
              clear hK K
              refine stepE0 rfl rfl (fun K hK => ?_)
              go_simp
              refine hK _ ?_
              clear hK K
              refine stepE0 rfl rfl (fun K hK => ?_)
              go_simp
              refine hK _ ?_
              clear hK K
              refine stepE0 rfl rfl (fun K hK => ?_)
              go_simp
              refine hK _ ?_
              clear hK K
              refine stepE2 rfl rfl ?_ (fun w1 hS => ?_) (fun K hK => ?_)
              rotate_left
              focus (obtain rfl : w1 = _ := hS; go_simp; rfl)
              go_simp
              refine hK _ ?_
              clear hK K
              refine stepE1 rfl rfl (by kernel_rfl) (fun K hK => ?_)
              (go_wp2_with fail; refine Calls.mono (same_any _ _ (bytesOf sc s2) (bytesOf sc s2) _ (reads_of_owns (ownsRow_below HOR.out (by repeat (first | (with_reducible exact Below.refl _ _) | (with_reducible refine Below.setCell ?_ ?_ _) | (with_reducible refine Below.alloc ?_ ?_ _) | (with_reducible refine Below.drewN ?_ _) | (with_reducible refine Below.drew ?_) | (with_reducible exact Nat.le_refl _) | (focus (simp only [World.size_alloc, World.size_setCell, World.size_drew, World.size_drewN]; omega)) | omega | exact Nat.le_refl _ | (focus (simp; done)) | (focus (simp; omega)))))) (reads_of_owns (ownsRow_below HO2.out (by repeat (first | (with_reducible exact Below.refl _ _) | (with_reducible refine Below.setCell ?_ ?_ _) | (with_reducible refine Below.alloc ?_ ?_ _) | (with_reducible refine Below.drewN ?_ _) | (with_reducible refine Below.drew ?_) | (with_reducible exact Nat.le_refl _) | (focus (simp only [World.size_alloc, World.size_setCell, World.size_drew, World.size_drewN]; omega)) | omega | exact Nat.le_refl _ | (focus (simp; done)) | (focus (simp; omega))))))) ?_; rintro e wm ⟨rfl, hbm⟩; rw [decide_eq_true (rfl : bytesOf sc s2 = bytesOf sc s2)]; have HBM := Lib.hid hbm; clear hbm; go_wp2)
              refine stepE0 rfl rfl (fun K hK => ?_)
              go_simp
              refine hK _ ?_
              clear hK K
              refine stepE0 rfl rfl (fun K hK => ?_)
              go_simp
              refine hK _ ?_
              clear hK K
              try refine stepEnil0 ?_
              go_wp2_with fail
              go_roundw
              case rel => exact ⟨j + 1, by omega, by go_num, Below.trans HBK.out.drew (HBM.out.mono hzk)⟩
              case measure => simp [intOf]; omega
            · have hjn2 : decide ((j : Int) < (sc.now.length : Int)) = false := by simp; omega
              go_wp2_with fail
              go_ret
              exact ⟨rfl, HB1.out.trans (((HKH.out.trans (KP.of HBR3.out)).below (Nat.le_refl _) fun _ e => e).mono (by omega))⟩
end Go.Proofs.Ytcicnjlkcbimgaa
