/- DiskLasts: the walk. -/
import Derived.Test.YtcicnjlkcbimgaaDiskLastsLaw
import Derived.Test.YtcicnjlkcbimgaaDiskAlive
import Derived.Test.YtcicnjlkcbimgaaSame
namespace Go.Proofs.Ytcicnjlkcbimgaa
open Go.RowKit
theorem row_addr {w : World} {base n c : Nat} {a : Option Addr} {e : TypeId} {sz : Nat} {xs : List Value} (h : w.ownsRow base e sz (.slice a n c) n xs) : (a = none ∧ c = 0) ∨ ∃ g, a = some ⟨g, 0, none⟩ := by
  rcases h.2 with ⟨e, h0⟩ | ⟨g, _, _, e, _⟩
  · simp only [Value.slice.injEq] at e
    exact .inl ⟨e.1, e.2.2⟩
  · simp only [Value.slice.injEq] at e
    exact .inr ⟨g, e.1⟩
theorem row_cap {w : World} {base n c : Nat} {a : Option Addr} {e : TypeId} {sz : Nat} {xs : List Value} (h : w.ownsRow base e sz (.slice a n c) n xs) : n ≤ c := by
  rcases h.2 with ⟨e, h0⟩ | ⟨g, cap, cur, e, _, _, h1, _⟩
  · omega
  · simp only [Value.slice.injEq] at e
    omega
theorem reads_row {w : World} {base n c : Nat} {a : Option Addr} {e : TypeId} {b : List UInt8} (h : w.ownsRow base e 1 (.slice a n c) n (b.map bv)) (hb : b.length = n) (j : Nat) (hj : j ≤ n) : Reads w 1 (.slice a j c) (b.take j).length ((b.take j).map bv) := by
  have e : (b.take j).length = j := by rw [List.length_take]; omega
  rw [e]
  rcases h.2 with ⟨e, h0⟩ | ⟨g, cap, cur, e', hg, hh, h1, h2, h3⟩
  · simp only [Value.slice.injEq] at e
    obtain ⟨rfl, _, rfl⟩ := e
    have hj0 : j = 0 := by omega
    subst hj0
    exact ⟨by simp, .inl ⟨rfl, rfl⟩⟩
  · refine ⟨by simp; omega, .inr ?_⟩
    simp only [Value.slice.injEq] at e'
    obtain ⟨rfl, _, rfl⟩ := e'
    refine ⟨⟨g, 0, none⟩, c, rfl, by omega, fun m u hu => ?_⟩
    have hm : m < j := by
      have := (List.getElem?_eq_some_iff.1 hu).1
      simp at this
      omega
    have h5 := h.cellAt m (by omega)
    rw [List.getElem?_map] at h5
    rw [List.getElem?_map, List.getElem?_take_of_lt hm] at hu
    rw [add_zero_off, h5, hu]
set_option maxRecDepth 100000 in
set_option maxHeartbeats 4000000 in
theorem lasts_any (aa ab ac : Option Addr) (na ca nb cb nc cc : Nat) (a b c : List UInt8) (p : DPicks) (af : Option Addr) (cf : Nat) (n : Int) (w : World) (ha : a.length = na) (hb : b.length = nb) (hc : c.length = nc)
    (hra : Reads w 1 (.slice aa na ca) na (a.map bv)) (hrb : Reads w 1 (.slice ab nb cb) nb (b.map bv)) (hrc : Reads w 1 (.slice ac nc cc) nc (c.map bv)) (hrp : Reads w 2 (.slice af p.files.length cf) p.files.length (p.files.flatMap DPick.row))
    (hna : na ≤ 300) (hnb : nb ≤ 300) (hnc : nc ≤ 300) (hnp : p.files.length ≤ 20) (hn1 : -9223372036854775808 ≤ p.names) (hn2 : p.names ≤ 9223372036854775807) (hpk : ∀ x ∈ p.files, -9223372036854775808 ≤ x.keep ∧ x.keep ≤ 9223372036854775807) (hl0 : 0 ≤ n) (hl1 : n ≤ 255) :
    Calls Try.prog 3 #[.slice aa na ca, .slice ab nb cb, .slice ac nc cc, .agg #[.int .i64 p.names, .slice af p.files.length cf], .int .u8 n] w fun e w' => e = .returned (.bool true) ∧ Below w.heap.size w w' := by
  have hd1 : decide ((300 : Int) < (na : Int)) = false := by simp; omega
  have hd2 : decide ((300 : Int) < (nb : Int)) = false := by simp; omega
  have hd3 : decide ((300 : Int) < (nc : Int)) = false := by simp; omega
  have hd4 : decide ((20 : Int) < (p.files.length : Int)) = false := by simp; omega
  have HRA := Lib.hid hra
  have HRB := Lib.hid hrb
  have HRC := Lib.hid hrc
  have HRP := Lib.hid hrp
  have HPK := Lib.hid hpk
  have HLA := Lib.hid ha
  have HLB := Lib.hid hb
  have HLC := Lib.hid hc
  have HN1 := Lib.hid hn1
  have HN2 := Lib.hid hn2
  obtain ⟨s, hs1, hs2, hs3, hs4, hs5⟩ := lasts_law (a := a) (b := b) (c := c) (n := n) p (by omega) (by omega) (by omega) hl0
  have HS1 := Lib.hid hs1
  have HS1pre := Lib.hid (show s.take na = a by rw [← ha]; exact hs1.pre)
  have HS2 := Lib.hid hs2
  have HS3 := Lib.hid hs3
  have HS4 := Lib.hid hs4
  have HS5 := Lib.hid hs5
  have HSY := Lib.hid (congrArg Prod.fst (lk3_eq (a := a) (by omega)))
  clear hra hrb hrc hrp hpk ha hb hc hs1 hs2 hs3 hs4 hs5 hn1 hn2
  go_enter Try.func3, Try.ntmps3
  go_wp2_with fail
  refine (alive07 _).mono ?_
  rintro e w1 ⟨rfl, hb1⟩
  have hbx := heap_new w (.cells #[.int .i64 p.names, .slice af p.files.length cf] 25)
  have HBX := Lib.hid (blk_below hbx (by simpa using hb1))
  have HB1 := Lib.hid (show Below w.heap.size w w1 from Below.trans (by repeat (first | (with_reducible exact Below.refl _ _) | (with_reducible refine Below.setCell ?_ ?_ _) | (with_reducible refine Below.alloc ?_ ?_ _) | (with_reducible refine Below.drewN ?_ _) | (with_reducible refine Below.drew ?_) | (with_reducible exact Nat.le_refl _) | (focus (simp only [World.size_alloc, World.size_setCell, World.size_drew, World.size_drewN]; omega)) | omega | exact Nat.le_refl _ | (focus (simp; done)) | (focus (simp; omega)))) (hb1.mono (by simp)))
  have hz1 : w.heap.size < w1.heap.size := by have := hb1.size; simp at this; omega
  clear hb1 hbx
  have x1 : w1.cell? ⟨w.heap.size, 1, none⟩ = some (.slice af p.files.length cf) := by rw [cell_of_row w1 w.heap.size 1 _ _ _ HBX.out]; rfl
  go_wp2_with fail
  refine (new_ds 5000 (by omega) _).mono ?_
  rintro e w2 ⟨rfl, hd2, hb2, hz2⟩
  have HD2 := Lib.hid hd2
  have HK2 := Lib.hid (show KP (fun k => k < w1.heap.size) w1 w2 from KP.of hb2)
  clear hd2 hb2 x1
  go_wp2_with fail
  refine (create_ds HD2.out (fun k hk => by omega) (by omega) [120] (by decide)).mono ?_
  rintro e w3 ⟨rfl, hd3, hk3⟩
  have HD3 := Lib.hid (show DS w3 (w1.heap.size + 2) (fun k => k < w1.heap.size) 1 lk0 from hd3)
  have HK3 := Lib.hid (HK2.out.trans hk3)
  have hz3 := HK3.out.size
  clear hd3 hk3
  go_wp2_with fail
  refine (append_ds HD3.out (fun k hk => by omega) [120] _ a (by decide) (by rw [HLA.out]; exact (HRA.out.below HB1.out).below (HK3.out.below (Nat.le_refl _) fun _ e => e))).mono ?_
  rintro e w4 ⟨rfl, hd4, hk4⟩
  have HD4 := Lib.hid (show DS w4 (w1.heap.size + 2) (fun k => k < w1.heap.size) 1 (lk1 a) from hd4)
  have HK4 := Lib.hid (HK3.out.trans hk4)
  have hz4 := HK4.out.size
  clear hd4 hk4
  go_wp2_with fail
  refine (sync_ds HD4.out (fun k hk => by omega) [120] (by decide)).mono ?_
  rintro e w5 ⟨rfl, hd5, hk5⟩
  have HD5 := Lib.hid (show DS w5 (w1.heap.size + 2) (fun k => k < w1.heap.size) 1 (lk2 a) from hd5)
  have HK5 := Lib.hid (HK4.out.trans hk5)
  have hz5 := HK5.out.size
  clear hd5 hk5
  go_wp2_with fail
  refine (syncNames_ds HD5.out (fun k hk => by omega)).mono ?_
  rintro e w6 ⟨rfl, hd6, hk6⟩
  rw [HSY.out]
  have HD6 := Lib.hid (show DS w6 (w1.heap.size + 2) (fun k => k < w1.heap.size) 1 (lk3 a) from hd6)
  have HK6 := Lib.hid (HK5.out.trans hk6)
  have hz6 := HK6.out.size
  clear hd6 hk6
  go_wp2_with fail
  refine (code0 _).mono ?_
  rintro e w7 ⟨rfl, rfl⟩
  go_wp2_with fail
  refine (code0 _).mono ?_
  rintro e w7 ⟨rfl, rfl⟩
  go_wp2_with fail
  refine (arm_ds HD6.out (fun k hk => by omega) n (by omega)).mono ?_
  rintro e w7 ⟨rfl, hd7, hk7⟩
  have HD7 := Lib.hid (show DS w7 (w1.heap.size + 2) (fun k => k < w1.heap.size) 1 (lk4 a n) from hd7)
  have HK7 := Lib.hid (HK6.out.trans hk7)
  have hz7 := HK7.out.size
  clear hd7 hk7
  go_wp2_with fail
  refine (append_ds HD7.out (fun k hk => by omega) [120] _ b (by decide) (by rw [HLB.out]; exact (HRB.out.below HB1.out).below (HK7.out.below (Nat.le_refl _) fun _ e => e))).mono ?_
  rintro e w8 ⟨rfl, hd8, hk8⟩
  have HD8 := Lib.hid (show DS w8 (w1.heap.size + 2) (fun k => k < w1.heap.size) 1 (lk5 a b n) from hd8)
  have HK8 := Lib.hid (HK7.out.trans hk8)
  have hz8 := HK8.out.size
  clear hd8 hk8
  go_wp2_with fail
  refine (create_ds HD8.out (fun k hk => by omega) (by omega) [121] (by decide)).mono ?_
  rintro e w9 ⟨rfl, hd9, hk9⟩
  have HD9 := Lib.hid (show DS w9 (w1.heap.size + 2) (fun k => k < w1.heap.size) 2 (lk6 a b n) from hd9)
  have HK9 := Lib.hid (HK8.out.trans hk9)
  have hz9 := HK9.out.size
  clear hd9 hk9
  go_wp2_with fail
  refine (append_ds HD9.out (fun k hk => by omega) [121] _ c (by decide) (by rw [HLC.out]; exact (HRC.out.below HB1.out).below (HK9.out.below (Nat.le_refl _) fun _ e => e))).mono ?_
  rintro e wa ⟨rfl, hda, hka⟩
  have HDA := Lib.hid (show DS wa (w1.heap.size + 2) (fun k => k < w1.heap.size) 2 (lk7 a b c n) from hda)
  have HKA := Lib.hid (HK9.out.trans hka)
  have hza := HKA.out.size
  clear hda hka
  go_wp2_with fail
  refine (sync_ds HDA.out (fun k hk => by omega) [121] (by decide)).mono ?_
  rintro e wb ⟨rfl, hdb, hkb⟩
  have HDB := Lib.hid (show DS wb (w1.heap.size + 2) (fun k => k < w1.heap.size) 2 (lk8 a b c n) from hdb)
  have HKB := Lib.hid (HKA.out.trans hkb)
  have hzb := HKB.out.size
  clear hdb hkb
  go_wp2_with fail
  refine (rename_ds HDB.out (fun k hk => by omega) (by omega) [121] [122] (by decide) (by decide)).mono ?_
  rintro e wc ⟨rfl, hdc, hkc⟩
  have HDC := Lib.hid (show DS wc (w1.heap.size + 2) (fun k => k < w1.heap.size) 3 (lk9 a b c n) from hdc)
  have HKC := Lib.hid (HKB.out.trans hkc)
  have hzc := HKC.out.size
  clear hdc hkc
  go_wp2_with fail
  refine (down_ds HDC.out).mono ?_
  rintro e w7 ⟨rfl, rfl⟩
  rw [HS4.out]
  have hbx := HKC.out.blk HBX.out hz1
  have x0 : wc.cell? ⟨w.heap.size, 0, none⟩ = some (.int .i64 p.names) := by rw [cell_of_row wc w.heap.size 0 _ _ _ hbx]; rfl
  have x1 : wc.cell? ⟨w.heap.size, 1, none⟩ = some (.slice af p.files.length cf) := by rw [cell_of_row wc w.heap.size 1 _ _ _ hbx]; rfl
  clear hbx
  go_wp2_with fail
  refine (picks_any p.names p.files af _ cf _ rfl (by omega) ((HRP.out.below HB1.out).below (HKC.out.below (Nat.le_refl _) fun _ e => e))).mono ?_
  rintro e we ⟨v, rfl, hov, hbe⟩
  obtain ⟨av, cv, rfl⟩ := ownsRow_len hov
  have HOV := Lib.hid hov
  have hze := hbe.size
  have HDE := Lib.hid (HDC.out.later (R := fun k => k < w1.heap.size ∨ (wc.heap.size ≤ k ∧ k < we.heap.size)) hbe fun k hk => hk.imp id fun hk => hk.1)
  have HKE := Lib.hid (HKC.out.trans (KP.of hbe))
  clear hov hbe x0 x1
  go_wp2_with fail
  refine (crash_ds HDE.out (fun k hk => hk.elim (fun hk => by omega) fun hk => hk.2) (by omega) p av cv (reads_of_owns HOV.out) (fun g e => by
    subst e
    rcases row_addr HOV.out with ⟨e, _⟩ | ⟨g', e⟩
    · cases e
    · cases e
      have := HOV.out.lt g' rfl
      exact ⟨rfl, .inr this, this.2⟩) HN1.out HN2.out HPK.out).mono ?_
  rintro e wf ⟨rfl, hdf, hkf⟩
  obtain ⟨st, hst⟩ : ∃ st, st = (lk9 a b c n).crash p := ⟨_, rfl⟩
  rw [← hst] at hdf HS2 HS3 HS5
  have HARM := Lib.hid (show (st.armed == 0) = false by rw [hst]; rfl)
  have HDF := Lib.hid (show DS wf (w1.heap.size + 2) (fun k => k < w1.heap.size) 3 st from hdf.less fun k hk => .inl hk)
  have HKF := Lib.hid (HKE.out.trans (hkf.mono fun k _ hk => .inl hk))
  have hzf := HKF.out.size
  clear hdf hkf hst
  go_wp2_with fail
  refine (size_ds HDF.out [120] (by decide)).mono ?_
  rintro e w7 ⟨rfl, rfl⟩
  rw [HS2.out]
  go_wp2_with fail
  have hlo := HS1.out.lo
  have hhi := HS1.out.hi
  rw [HLA.out] at hlo
  rw [HLA.out, HLB.out] at hhi
  refine (read_ds HDF.out [120] 0 s.length (by decide) (by omega) (by omega)).mono ?_
  rintro e wg hR
  rw [HS3.out] at hR
  obtain ⟨vs, rfl, hos, hbg⟩ := hR
  obtain ⟨sa, sc, rfl⟩ := ownsRow_len hos
  have HOS := Lib.hid hos
  have HDG := Lib.hid (HDF.out.below hbg)
  have HKG := Lib.hid (HKF.out.trans (KP.of hbg))
  have hzg := HKG.out.size
  have hbW := Lib.hid (HB1.out.trans ((HKG.out.below (Nat.le_refl _) fun _ e => e).mono (Nat.le_of_lt hz1)))
  clear hos hbg
  go_wp2_with fail
  refine (code0 _).mono ?_
  rintro e w7 ⟨rfl, rfl⟩
  go_wp2_with fail
  refine (code0 _).mono ?_
  rintro e w7 ⟨rfl, rfl⟩
  go_wp2_with fail
  refine (code0 _).mono ?_
  rintro e w7 ⟨rfl, rfl⟩
  have hq1 : decide ((s.length : Int) < (na : Int)) = false := by simp; omega
  have hq2 : decide ((na : Int) + (nb : Int) < (s.length : Int)) = false := by simp; omega
  have hq3 : IntKind.i64.wrap ((na : Int) + (nb : Int)) = (na : Int) + (nb : Int) := IntWalk.i64_in _ (by omega)
  have hrun := run_prefix sa s.length sc na (row_addr HOS.out) (by have := row_cap HOS.out; omega)
  go_wp2_with fail
  refine (down_ds HDG.out).mono ?_
  rintro e w7 ⟨rfl, rfl⟩
  rw [HARM.out]
  go_wp2_with fail
  refine (same_any _ _ (s.take na) a _ (by have h := reads_row HOS.out rfl na hlo; rwa [show (s.take na).length = na by rw [List.length_take]; omega] at h ⊢) (by rw [HLA.out]; exact HRA.out.below hbW.out)).mono ?_
  rintro e wh ⟨rfl, hbh⟩
  rw [decide_eq_true HS1pre.out]
  have HDH := Lib.hid (HDG.out.below hbh)
  have HKH := Lib.hid (HKG.out.trans (KP.of hbh))
  have HOH := Lib.hid (ownsRow_below HOS.out hbh)
  have hzh := hbh.size
  have hbH := Lib.hid (hbW.out.trans (hbh.mono (by omega)))
  clear hbh hrun hq1 hq2
  go_wp2_with fail
  rw [show decide (s.length < na) = false by simp; omega]
  go_loopw [20] (fun i wr => ∃ k : Nat, na ≤ k ∧ i = .int .i64 k ∧ (k ≤ s.length ∨ k = na) ∧ Below wh.heap.size wh wr) (fun i _ => s.length - (intOf i).toNat)
  case atStart => exact ⟨na, Nat.le_refl _, rfl, .inr rfl, Below.refl _ _⟩
  case round =>
    obtain ⟨k, hk, rfl, hk2, hbr⟩ := hrel
    have HBR := Lib.hid hbr
    have hzr := hbr.size
    have hk3 : k ≤ 600 := by omega
    clear hbr
    by_cases hlt : k + 1 < s.length
    · have hmid := HS1.out.mid k (by rw [HLA.out]; exact hk) hlt
      rw [HLA.out] at hmid
      obtain ⟨x, hx⟩ : ∃ x, s[k]? = some x := ⟨_, List.getElem?_eq_getElem (by omega)⟩
      rw [hx] at hmid
      have hkb : k - na < nb := by have := (List.getElem?_eq_some_iff.1 hmid.symm).1; rw [HLB.out] at this; exact this
      obtain ⟨b1, o1, c1, e1, hl1, _, h1⟩ := reads_at (reads_of_owns (ownsRow_below HOH.out HBR.out)) (by omega) (by omega)
      obtain ⟨b2, o2, c2, e2, hl2, _, h2⟩ := reads_at (HRB.out.below (hbH.out.trans (HBR.out.mono (by have := hbH.out.size; omega)))) (by omega) (by omega)
      have y1 := h1 k (bv x) (by rw [List.getElem?_map, hx]; rfl)
      have y2 := h2 (k - na) (bv x) (by rw [List.getElem?_map, ← hmid]; rfl)
      obtain ⟨rfl, -, rfl⟩ := sl_inj e1
      obtain ⟨rfl, -, rfl⟩ := sl_inj e2
      rw [show bv x = .int .u8 x.toNat from rfl] at y1 y2
      have hk0 : (0 : Int) ≤ (k : Int) := by omega
      have hk1 : (k : Int) < (s.length : Int) := by omega
      have hk4 : (k : Int) + 1 < (s.length : Int) := by omega
      have hj0 : (0 : Int) ≤ (k : Int) - (na : Int) := by omega
      have hj1 : (k : Int) - (na : Int) < (nb : Int) := by omega
      have hw1 : IntKind.i64.wrap ((k : Int) - (na : Int)) = (k : Int) - (na : Int) := IntWalk.i64_in _ (by omega)
      have hjt : ((k : Int) - (na : Int)).toNat = k - na := by omega
      clear hmid hx e1 e2 h1 h2
      go_wp2_with fail
      refine wp_region_now0 [3, 10] [(0, 0), (1, 0), (2, 0), (3, 2), (4, 0), (5, 0), (6, 0), (7, 0), (8, 0), (9, 0), (10, 2), (11, 0)] (by kernel_rfl) (by kernel_rfl) rfl (by kernel_rfl) ?_
      refine stepE0 rfl rfl (fun K hK => ?_)
      go_simp
      refine hK _ ?_
      clear hK K
      refine stepE0 rfl rfl (fun K hK => ?_)
      go_simp
      refine hK _ ?_
      clear hK K
      refine stepE0 rfl rfl (fun K hK => ?_)
      go_simp
      refine hK _ ?_
      clear hK K
      refine stepE2 rfl rfl ?_ (fun w1 hS => ?_) (fun K hK => ?_)
      rotate_left
      focus (obtain rfl : w1 = _ := hS; go_simp; rfl)
      go_simp
      refine hK _ ?_
      clear hK K
      refine stepE0 rfl rfl (fun K hK => ?_)
      go_simp
      refine hK _ ?_
      clear hK K
      refine stepE0 rfl rfl (fun K hK => ?_)
      go_simp
      refine hK _ ?_
      clear hK K
      refine stepE0 rfl rfl (fun K hK => ?_)
      go_simp
      refine hK _ ?_
      clear hK K
      refine stepE0 rfl rfl (fun K hK => ?_)
      go_simp
      refine hK _ ?_
      clear hK K
      refine stepE0 rfl rfl (fun K hK => ?_)
      go_simp
      refine hK _ ?_
      clear hK K
      refine stepE0 rfl rfl (fun K hK => ?_)
      go_simp
      refine hK _ ?_
      clear hK K
      refine stepE2 rfl rfl ?_ (fun w1 hS => ?_) (fun K hK => ?_)
      rotate_left
      focus (obtain rfl : w1 = _ := hS; go_simp; rfl)
      go_simp
      refine hK _ ?_
      clear hK K
      refine stepE0 rfl rfl (fun K hK => ?_)
      go_simp
      refine hK _ ?_
      clear hK K
      try refine stepEnil0 ?_
      go_wp2_with fail
      go_roundw
      case rel => exact ⟨k + 1, by omega, by go_num, .inl (by omega), HBR.out.drew⟩
      case measure => simp [intOf]; omega
    · have hlt2 : decide ((k : Int) + 1 < (s.length : Int)) = false := by simp; omega
      have HDR := Lib.hid (HDH.out.below HBR.out)
      have hbR := Lib.hid (hbH.out.trans (HBR.out.mono (by have := hbH.out.size; omega)))
      have hbx := blk_below (HKH.out.blk HBX.out hz1) HBR.out
      have x0 : wr.cell? ⟨w.heap.size, 0, none⟩ = some (.int .i64 p.names) := by rw [cell_of_row wr w.heap.size 0 _ _ _ hbx]; rfl
      have hwl := blk_lt hbx
      clear hbx
      go_wp2_with fail
      refine (size_ds HDR.out [122] (by decide)).mono ?_
      rintro e w7 ⟨rfl, rfl⟩
      rcases HS5.out with h6 | ⟨h0, hn4, hp2⟩
      · obtain ⟨m, hm⟩ : ∃ m, m = (st.size [122]).2 := ⟨_, rfl⟩
        rw [h6, ← hm]
        clear h6 hm
        go_wp2_with fail
        refine (code_any 6 (by omega) (by omega) _).mono ?_
        rintro e w7 ⟨rfl, rfl⟩
        go_wp2_with fail
        go_ret
        exact ⟨rfl, hbR.out⟩
      · rw [h0, HLC.out]
        clear h0
        go_wp2_with fail
        refine (code0 _).mono ?_
        rintro e w7 ⟨rfl, rfl⟩
        go_wp2_with fail
        refine (code0 _).mono ?_
        rintro e w7 ⟨rfl, rfl⟩
        go_wp2_with fail
        go_ret
        exact ⟨rfl, hbR.out⟩
end Go.Proofs.Ytcicnjlkcbimgaa
