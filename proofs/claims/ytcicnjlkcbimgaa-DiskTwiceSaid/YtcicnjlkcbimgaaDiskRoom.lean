/- DiskRoom: the walk. -/
import Derived.Test.YtcicnjlkcbimgaaDiskRoomLaw
import Derived.Test.YtcicnjlkcbimgaaDisk07
import Derived.Test.YtcicnjlkcbimgaaDiskAlive
import Derived.Test.YtcicnjlkcbimgaaDiskFar
namespace Go.Proofs.Ytcicnjlkcbimgaa
open Go.RowKit
theorem far_no {l : List AArg} (h : farB l = false) : l.length ≤ 60 ∧ ∀ x ∈ l, badAct x = false := by
  unfold farB at h
  simp only [Bool.or_eq_false_iff, decide_eq_false_iff_not, List.any_eq_false] at h
  exact ⟨by omega, fun x hx => by have := h.2 x hx; simpa using this⟩
theorem act_ok {w : World} {x : AArg} (h : AOk w x) (hb : badAct x = false) : Dk.ok x.a := by
  unfold badAct at hb
  simp at hb
  exact ⟨h.name, h.to, h.n.2, h.m.2, by omega, h.pn.1, h.pn.2, h.pf⟩
set_option maxRecDepth 100000 in
set_option maxHeartbeats 4000000 in
theorem room_any (c : Nat) (hc : c ≤ 65535) (a : Option Addr) (n ca : Nat) (l : List AArg) (w : World) (hl : l.length = n) (hr : Reads w 8 (.slice a n ca) n (l.flatMap AArg.row)) (hok : ∀ x ∈ l, AOk w x) :
    Calls Try.prog 4 #[.int .u16 c, .slice a n ca] w fun e w' => e = .returned (.bool true) ∧ Below w.heap.size w w' := by
  have HL := Lib.hid hl
  have HR := Lib.hid hr
  have HOK := Lib.hid hok
  clear hl hr hok
  rcases hfar : farB l with _ | _
  · obtain ⟨hn60, hbad⟩ := far_no hfar
    rw [HL.out] at hn60
    have HBAD := Lib.hid hbad
    have HFAR := Lib.hid hfar
    clear hbad hfar
    go_enter Try.func4, Try.ntmps4
    go_wp2_with fail
    refine (alive07 _).mono ?_
    rintro e w1 ⟨rfl, hb1⟩
    have HB1 := Lib.hid hb1
    have hz1 := hb1.size
    clear hb1
    go_wp2_with fail
    refine (far_any a n ca l _ HL.out (HR.out.below HB1.out)).mono ?_
    rintro e w2 ⟨rfl, rfl⟩
    rw [HFAR.out]
    go_wp2_with fail
    refine (new_ds c (by omega) _).mono ?_
    rintro e w2 ⟨rfl, hd2, hb2, hz2⟩
    have HD2 := Lib.hid hd2
    have HK2 := Lib.hid (show KP (fun k => k < w1.heap.size) w1 w2 from KP.of hb2)
    clear hd2 hb2
    go_wp2_with fail
    go_loopw [7] (fun i wr => ∃ (k : Nat) (st : Dk), k ≤ n ∧ i = .int .i64 k ∧ DS wr (w1.heap.size + 2) (fun k => k < w1.heap.size) k st ∧ Room st ∧ st.cap = c ∧ KP (fun k => k < w1.heap.size) w1 wr) (fun i _ => n - (intOf i).toNat)
    case atStart => exact ⟨0, Dk.new c, Nat.zero_le _, rfl, HD2.out, Room.new c, rfl, HK2.out⟩
    case round =>
      obtain ⟨k, st, hk, rfl, hd, hro, hcap, hkp⟩ := hrel
      have HD := Lib.hid hd
      have HRO := Lib.hid hro
      have HCAP := Lib.hid hcap
      have HKP := Lib.hid hkp
      have hzr := hkp.size
      have HBW := Lib.hid (HB1.out.trans ((hkp.below (Nat.le_refl _) fun _ e => e).mono hz1))
      clear hd hro hcap hkp
      by_cases hlt : k < n
      · obtain ⟨x, hx⟩ : ∃ x, l[k]? = some x := ⟨_, List.getElem?_eq_getElem (by rw [HL.out]; exact hlt)⟩
        have hxm := List.mem_of_getElem? hx
        have HAO := Lib.hid (HOK.out x hxm)
        have HAB := Lib.hid (HBAD.out x hxm)
        obtain ⟨b, o, cc, e, hbl, x0, x1, x2, x3, x4, x5, x6, x7⟩ := act_cells (HR.out.below HBW.out) hx (by omega)
        obtain ⟨rfl, -, rfl⟩ := sl_inj e
        have hk0 : (0 : Int) ≤ (k : Int) := by omega
        have hk1 : (k : Int) < (n : Int) := by omega
        have hbw : b < w1.heap.size := by
          have := (reads_at (HR.out.below HB1.out) (by omega) (by omega))
          obtain ⟨b', o', c', e', h', _⟩ := this
          obtain ⟨e1, _, _⟩ := sl_inj e'
          cases e1
          exact h'
        clear hx e hxm
        obtain ⟨⟨kd, nm, to, bs, nn, mm, ⟨pn, fs⟩⟩, ab, cb, af, cf⟩ := x
        simp only at x0 x1 x2 x3 x4 x5 x6 x7
        by_cases h8 : kd = 8
        · subst h8
          go_wp2_with fail
          go_roundw
          case rel => exact ⟨k + 1, st, by omega, by go_num, HD.out.more (by omega), HRO.out, HCAP.out, HKP.out⟩
          case measure => simp [intOf]; omega
        · have HN8 := Lib.hid h8
          go_wp2_with fail
          refine (used_ds HD.out).mono ?_
          rintro e w3 ⟨rfl, hb3⟩
          have HD3 := Lib.hid (HD.out.below hb3)
          have HK3 := Lib.hid (HKP.out.trans (KP.of hb3))
          have hz3 := HK3.out.size
          clear hb3
          go_wp2_with fail
          refine (names_ds HD3.out).mono ?_
          rintro e w4 ⟨v4, rfl, ho4, hb4⟩
          obtain ⟨a4, c4, rfl⟩ := ownsRow_len ho4
          have HD4 := Lib.hid (HD3.out.below hb4)
          have HK4 := Lib.hid (HK3.out.trans (KP.of hb4))
          have hz4 := HK4.out.size
          have HB4 := Lib.hid (HB1.out.trans ((HK4.out.below (Nat.le_refl _) fun _ e => e).mono hz1))
          have y0 := ((HK4.out.cell hbw (fun e => e hbw) (o + k * 8)).trans ((HKP.out.cell hbw (fun e => e hbw) (o + k * 8)).symm)).trans x0
          have y1 := ((HK4.out.cell hbw (fun e => e hbw) (o + k * 8 + 1)).trans ((HKP.out.cell hbw (fun e => e hbw) (o + k * 8 + 1)).symm)).trans x1
          have y2 := ((HK4.out.cell hbw (fun e => e hbw) (o + k * 8 + 2)).trans ((HKP.out.cell hbw (fun e => e hbw) (o + k * 8 + 2)).symm)).trans x2
          have y3 := ((HK4.out.cell hbw (fun e => e hbw) (o + k * 8 + 3)).trans ((HKP.out.cell hbw (fun e => e hbw) (o + k * 8 + 3)).symm)).trans x3
          have y4 := ((HK4.out.cell hbw (fun e => e hbw) (o + k * 8 + 4)).trans ((HKP.out.cell hbw (fun e => e hbw) (o + k * 8 + 4)).symm)).trans x4
          have y5 := ((HK4.out.cell hbw (fun e => e hbw) (o + k * 8 + 5)).trans ((HKP.out.cell hbw (fun e => e hbw) (o + k * 8 + 5)).symm)).trans x5
          have y6 := ((HK4.out.cell hbw (fun e => e hbw) (o + k * 8 + 6)).trans ((HKP.out.cell hbw (fun e => e hbw) (o + k * 8 + 6)).symm)).trans x6
          have y7 := ((HK4.out.cell hbw (fun e => e hbw) (o + k * 8 + 7)).trans ((HKP.out.cell hbw (fun e => e hbw) (o + k * 8 + 7)).symm)).trans x7
          clear ho4 hb4 x0 x1 x2 x3 x4 x5 x6 x7
          go_wp2_with fail
          have hao := HAO.out.below HB4.out
          refine (do07_any HD4.out (fun k hk => by omega) (by omega) ⟨kd, nm, to, bs, nn, mm, ⟨pn, fs⟩⟩ (act_ok HAO.out HAB.out) ab af cb cf hao.rb hao.rf).mono ?_
          clear hao
          rintro e w5 hdo
          obtain ⟨st', hst'⟩ : ∃ st', st' = (st.call ⟨kd, nm, to, bs, nn, mm, ⟨pn, fs⟩⟩).2 := ⟨_, rfl⟩
          obtain ⟨r, hr⟩ : ∃ r, r = (st.call ⟨kd, nm, to, bs, nn, mm, ⟨pn, fs⟩⟩).1 := ⟨_, rfl⟩
          obtain ⟨sn, hsn⟩ : ∃ sn, sn = st.callN ⟨kd, nm, to, bs, nn, mm, ⟨pn, fs⟩⟩ := ⟨_, rfl⟩
          have HRO5 := Lib.hid (show Room st' by rw [hst']; exact HRO.out.call HD.out.ok _ HN8.out)
          have HCAP5 := Lib.hid (show st'.cap = c by rw [hst', call_cap]; exact HCAP.out)
          have HREF := Lib.hid (show r ≠ 0 → st' = st by rw [hst', hr]; exact refused)
          rw [← hst', ← hr, ← hsn] at hdo
          obtain ⟨v5, rfl, ho5, hd5, hk5⟩ := hdo
          obtain ⟨a5, c5, rfl⟩ := ownsRow_len ho5
          have HD5 := Lib.hid hd5
          have HK5 := Lib.hid (HK4.out.trans hk5)
          have hz5 := HK5.out.size
          have hu := HRO5.out.used
          rw [HCAP5.out] at hu
          have hl64 := HD5.out.ok.lnow
          have hu1 : decide ((c : Int) < (st'.used : Int)) = false := by simp; omega
          have hu2 : decide ((64 : Int) < (st'.now.length : Int)) = false := by simp; omega
          clear hst' hr hsn ho5 hd5 hk5 y0 y1 y2 y3 y4 y5 y6 y7
          go_wp2_with fail
          refine (used_ds HD5.out).mono ?_
          rintro e w6 ⟨rfl, hb6⟩
          have HD6 := Lib.hid (HD5.out.below hb6)
          have HK6 := Lib.hid (HK5.out.trans (KP.of hb6))
          have hz6 := HK6.out.size
          clear hb6
          go_wp2_with fail
          refine (names_ds HD6.out).mono ?_
          rintro e w7 ⟨v7, rfl, ho7, hb7⟩
          obtain ⟨a7, c7, rfl⟩ := ownsRow_len ho7
          have HD7 := Lib.hid (HD6.out.below hb7)
          have HK7 := Lib.hid (HK6.out.trans (KP.of hb7))
          have hz7 := HK7.out.size
          clear ho7 hb7
          by_cases hr0 : r = 0
          · subst hr0
            go_wp2_with fail
            go_roundw
            case rel => exact ⟨k + 1, st', by omega, by go_num, HD7.out, HRO5.out, HCAP5.out, HK7.out⟩
            case measure => simp [intOf]; omega
          · have hst := HREF.out hr0
            subst hst
            have hrn : ((r : Int) == 0) = false := by simp; omega
            go_wp2_with fail
            refine (used_ds HD7.out).mono ?_
            rintro e w8 ⟨rfl, hb8⟩
            have HD8 := Lib.hid (HD7.out.below hb8)
            have HK8 := Lib.hid (HK7.out.trans (KP.of hb8))
            clear hb8
            go_wp2_with fail
            refine (names_ds HD8.out).mono ?_
            rintro e w9 ⟨v9, rfl, ho9, hb9⟩
            obtain ⟨a9, c9, rfl⟩ := ownsRow_len ho9
            have HD9 := Lib.hid (HD8.out.below hb9)
            have HK9 := Lib.hid (HK8.out.trans (KP.of hb9))
            clear ho9 hb9
            go_wp2_with fail
            go_roundw
            case rel => exact ⟨k + 1, st', by omega, by go_num, HD9.out, HRO5.out, HCAP5.out, HK9.out⟩
            case measure => simp [intOf]; omega
      · have hkn : decide ((k : Int) < (n : Int)) = false := by simp; omega
        go_wp2_with fail
        go_ret
        exact ⟨rfl, HBW.out⟩
  · have HFAR := Lib.hid hfar
    clear hfar
    go_enter Try.func4, Try.ntmps4
    go_wp2_with fail
    refine (alive07 _).mono ?_
    rintro e w1 ⟨rfl, hb1⟩
    have HB1 := Lib.hid hb1
    clear hb1
    go_wp2_with fail
    refine (far_any a n ca l _ HL.out (HR.out.below HB1.out)).mono ?_
    rintro e w2 ⟨rfl, rfl⟩
    rw [HFAR.out]
    go_wp2_with fail
    go_ret
    exact ⟨rfl, HB1.out⟩
end Go.Proofs.Ytcicnjlkcbimgaa
