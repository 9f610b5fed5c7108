/- DirsEpochs: the walk of the law. -/
import Derived.Test.YtigkcbnlbdiimaaDirsEpochs
namespace Go.Proofs.Ytigkcbnlbdiimaa
open Go.RowKit
theorem find_one (base bm : Nat) (v : Value) (x : Ent) (w : World) (h : MapAt w base bm v [x]) :
    Calls Try.prog 19 #[.pointer (some ⟨bm, 0, none⟩), .int .i64 1] w
      fun e w' => e = .returned (.tuple #[.agg #[.int .i64 x.vol, .int .i64 x.epoch, .int .i64 x.n0, .int .i64 x.n1, .int .i64 x.n2, .bool x.shut], .nilIface]) ∧ Below w.heap.size w w' := by
  have := find_yes base bm v [x] 0 x w h rfl
  simpa using this
/-- What holds at the loop's head: one volume. -/
def OneInv (B bm : Nat) (E : Int) (w0 w : World) : Prop := ∃ v x, MapAt w B bm v [x] ∧ x.vol = 1 ∧ 1 ≤ x.epoch ∧ x.epoch ≤ E ∧ Apart3 x ∧ Below w0.heap.size w0 w
theorem OneInv.mono {B bm : Nat} {E E' : Int} {w0 w : World} (h : OneInv B bm E w0 w) (he : E ≤ E') : OneInv B bm E' w0 w := by
  obtain ⟨v, x, a, b, c, d, e, f⟩ := h
  exact ⟨v, x, a, b, c, by omega, e, f⟩
theorem OneInv.later {B bm : Nat} {E : Int} {w0 w w' : World} (h : OneInv B bm E w0 w) (hb : Below w.heap.size w w') : OneInv B bm E w0 w' := by
  obtain ⟨v, x, a, b, c, d, e, f⟩ := h
  exact ⟨v, x, a.below hb, b, c, d, e, f.trans (hb.mono f.size)⟩
set_option maxRecDepth 100000 in
set_option maxHeartbeats 4000000 in
theorem epochs_any (ao : Option Addr) (n cap : Nat) (cs : List Cmd) (w : World) (hl : cs.length = n) (hn : n ≤ 100) (hA : 0 < n → ∃ b off, ao = some ⟨b, off, none⟩ ∧ b < w.heap.size ∧ CmdsAt w b off cs) :
    Calls Try.prog 4 #[.slice ao n cap] w fun e w' => e = .returned (.bool true) ∧ Below w.heap.size w w' := by
  have HL := Lib.hid hl
  have HA := Lib.hid hA
  clear hl hA
  have hd100 : decide ((100 : Int) < (n : Int)) = false := by simp; omega
  go_enter Try.func4, Try.ntmps4
  go_wp2_with fail
  refine (alive19 _).mono ?_
  rintro e w1 ⟨rfl, hb1⟩
  have hz1 := hb1.size
  have HB1 := Lib.hid hb1
  clear hb1
  go_wp2_with fail
  refine (new_any _).mono ?_
  rintro e w2 ⟨rfl, rfl⟩
  go_wp2_with fail
  refine (do_at w.heap.size w1.heap.size _ [] [⟨1, 1, 0, 1, 2, false⟩] ⟨1, 0, 0, 0, 0, 0, 1, 2⟩ 1 0 _ (MapAt.made w1 _ hz1) (by simp [doEs, threeB, placeB]) (by simp [doN, threeB, placeB]) (by simp [doK, threeB, placeB])).mono ?_
  rintro e w3 hd
  have hI : OneInv w.heap.size w1.heap.size 1 w w3 := by
    have hu := hd.under (w0 := w) (MapAt.made w1 _ hz1) (Nat.le_refl _) (HB1.out.alloc hz1 _)
    obtain ⟨_, v3, hm3, _, _⟩ := hd
    exact ⟨v3, _, hm3, rfl, by simp, by simp, ⟨by simp, by simp, by simp⟩, hu⟩
  obtain ⟨rfl, _⟩ := hd
  have HI := Lib.hid hI
  clear hI
  go_wp2_with fail
  go_loopw [4] (fun i wr => ∃ k : Nat, k ≤ n ∧ i = .int .i64 k ∧ OneInv w.heap.size w1.heap.size (1 + k) w wr) (fun i _ => n - (intOf i).toNat)
  case atStart => exact ⟨0, Nat.zero_le _, rfl, HI.out⟩
  case round =>
    clear HI
    obtain ⟨i, hi, rfl, hm⟩ := hrel
    have HM := Lib.hid hm
    clear hm
    by_cases hlt : i < n
    · obtain ⟨v, x, hm, hv, he1, he2, ha3, hbw⟩ := HM.out
      obtain ⟨c, hc⟩ : ∃ c, cs[i]? = some c := ⟨_, List.getElem?_eq_getElem (by rw [HL.out]; exact hlt)⟩
      obtain ⟨b, off, rfl, hb, hC⟩ := HA.out (by omega)
      obtain ⟨q0, q1, q2, q3, q4, q5, q6, q7⟩ := hC i c hc
      clear hC hc
      have HMr := Lib.hid hm
      have HBW := Lib.hid hbw
      have HV := Lib.hid hv
      have HA3 := Lib.hid ha3
      have k0 := (HBW.out.cell (p := ⟨b, off + i * 8, none⟩) hb).trans q0
      have k1 := (HBW.out.cell (p := ⟨b, off + i * 8 + 1, none⟩) hb).trans q1
      have k2 := (HBW.out.cell (p := ⟨b, off + i * 8 + 2, none⟩) hb).trans q2
      have k3 := (HBW.out.cell (p := ⟨b, off + i * 8 + 3, none⟩) hb).trans q3
      have k4 := (HBW.out.cell (p := ⟨b, off + i * 8 + 4, none⟩) hb).trans q4
      have k5 := (HBW.out.cell (p := ⟨b, off + i * 8 + 5, none⟩) hb).trans q5
      have k6 := (HBW.out.cell (p := ⟨b, off + i * 8 + 6, none⟩) hb).trans q6
      have k7 := (HBW.out.cell (p := ⟨b, off + i * 8 + 7, none⟩) hb).trans q7
      have hzb := HBW.out.size
      have hbr := Nat.lt_of_lt_of_le hb hzb
      clear hm hbw hv ha3 q0 q1 q2 q3 q4 q5 q6 q7
      obtain ⟨ck, cv, ce, cp, cn, c0, c1, c2⟩ := c
      go_wp2_with fail
      refine (find_one _ _ _ x _ (HMr.out.below (by repeat (first | (with_reducible exact Below.refl _ _) | (with_reducible refine Below.setCell ?_ ?_ _) | (with_reducible refine Below.alloc ?_ ?_ _) | (with_reducible refine Below.drewN ?_ _) | (with_reducible refine Below.drew ?_) | (with_reducible exact Nat.le_refl _) | (focus (simp only [World.size_alloc, World.size_setCell, World.size_drew, World.size_drewN]; omega)) | omega | exact Nat.le_refl _ | (focus (simp; done)) | (focus (simp; omega)))))).mono ?_
      rintro e w4 ⟨rfl, hb4⟩
      obtain ⟨hc4, hf4⟩ := bcell hb4
      have hz4 := hb4.size
      simp only [World.size_alloc, World.size_setCell] at hz4
      have hz4' : wr.heap.size < w4.heap.size := by omega
      clear hz4
      have HM4 := Lib.hid ((HMr.out.below (by repeat (first | (with_reducible exact Below.refl _ _) | (with_reducible refine Below.setCell ?_ ?_ _) | (with_reducible refine Below.alloc ?_ ?_ _) | (with_reducible refine Below.drewN ?_ _) | (with_reducible refine Below.drew ?_) | (with_reducible exact Nat.le_refl _) | (focus (simp only [World.size_alloc, World.size_setCell, World.size_drew, World.size_drewN]; omega)) | omega | exact Nat.le_refl _ | (focus (simp; done)) | (focus (simp; omega))))).below hb4)
      have HR4 := Lib.hid (Below.trans (B := wr.heap.size) (a := wr) (by repeat (first | (with_reducible exact Below.refl _ _) | (with_reducible refine Below.setCell ?_ ?_ _) | (with_reducible refine Below.alloc ?_ ?_ _) | (with_reducible refine Below.drewN ?_ _) | (with_reducible refine Below.drew ?_) | (with_reducible exact Nat.le_refl _) | (focus (simp only [World.size_alloc, World.size_setCell, World.size_drew, World.size_drewN]; omega)) | omega | exact Nat.le_refl _ | (focus (simp; done)) | (focus (simp; omega)))) (hb4.mono (by simp)))
      have HB4 := Lib.hid (HBW.out.trans (Below.trans (B := w.heap.size) (by repeat (first | (with_reducible exact Below.refl _ _) | (with_reducible refine Below.setCell ?_ ?_ _) | (with_reducible refine Below.alloc ?_ ?_ _) | (with_reducible refine Below.drewN ?_ _) | (with_reducible refine Below.drew ?_) | (with_reducible exact Nat.le_refl _) | (focus (simp only [World.size_alloc, World.size_setCell, World.size_drew, World.size_drewN]; omega)) | omega | exact Nat.le_refl _ | (focus (simp; done)) | (focus (simp; omega)))) (hb4.mono (by simp; omega))))
      clear hb4
      by_cases hk1 : ck = 1
      · have hkb : (ck == 1) = true := by simpa using hk1
        clear hk1
        go_wp2_with fail
        go_roundw
        case rel => exact ⟨i + 1, by omega, by go_num, v, x, HM4.out.below (by repeat (first | (with_reducible exact Below.refl _ _) | (with_reducible refine Below.setCell ?_ ?_ _) | (with_reducible refine Below.alloc ?_ ?_ _) | (with_reducible refine Below.drewN ?_ _) | (with_reducible refine Below.drew ?_) | (with_reducible exact Nat.le_refl _) | (focus (simp only [World.size_alloc, World.size_setCell, World.size_drew, World.size_drewN]; omega)) | omega | exact Nat.le_refl _ | (focus (simp; done)) | (focus (simp; omega)))), HV.out, he1, by omega, HA3.out, HB4.out.trans (by have := HB4.out.size; exact (by repeat (first | (with_reducible exact Below.refl _ _) | (with_reducible refine Below.setCell ?_ ?_ _) | (with_reducible refine Below.alloc ?_ ?_ _) | (with_reducible refine Below.drewN ?_ _) | (with_reducible refine Below.drew ?_) | (with_reducible exact Nat.le_refl _) | (focus (simp only [World.size_alloc, World.size_setCell, World.size_drew, World.size_drewN]; omega)) | omega | exact Nat.le_refl _ | (focus (simp; done)) | (focus (simp; omega)))))⟩
        case measure => simp [intOf]; omega
      · have hkb : (ck == 1) = false := by simpa using hk1
        have HK1 := Lib.hid hk1
        clear hk1
        obtain ⟨kd, hkd⟩ : ∃ kd : Int, (doK [x] ⟨ck, 1, x.epoch, cp, cn, c0, c1, c2⟩ : Int) = kd := ⟨_, rfl⟩
        have hways := one_ways (1 + i) x ⟨ck, 1, x.epoch, cp, cn, c0, c1, c2⟩ he1 he2 (by omega) HA3.out HK1.out rfl rfl
        have hkd0 : 0 ≤ kd := by omega
        have hkd1 : kd ≤ 17 := by have := doK_le [x] ⟨ck, 1, x.epoch, cp, cn, c0, c1, c2⟩; omega
        have HKD := Lib.hid hkd
        clear hkd
        go_wp2_with fail
        rcases hways with ⟨hz, hes⟩ | ⟨hz, y, hes, hnn, hye, hyv, hya, hk13, hes2⟩
        · refine (do_at _ _ _ [x] [x] ⟨ck, 1, x.epoch, cp, cn, c0, c1, c2⟩ _ kd _ (HMr.out.below (by have := HR4.out.size; exact HR4.out.trans (by repeat (first | (with_reducible exact Below.refl _ _) | (with_reducible refine Below.setCell ?_ ?_ _) | (with_reducible refine Below.alloc ?_ ?_ _) | (with_reducible refine Below.drewN ?_ _) | (with_reducible refine Below.drew ?_) | (with_reducible exact Nat.le_refl _) | (focus (simp only [World.size_alloc, World.size_setCell, World.size_drew, World.size_drewN]; omega)) | omega | exact Nat.le_refl _ | (focus (simp; done)) | (focus (simp; omega)))))) hes rfl HKD.out).mono ?_
          rintro e w5 hd
          have HU5 := Lib.hid (hd.under (w0 := w) (HMr.out.below (by have := HR4.out.size; exact HR4.out.trans (by repeat (first | (with_reducible exact Below.refl _ _) | (with_reducible refine Below.setCell ?_ ?_ _) | (with_reducible refine Below.alloc ?_ ?_ _) | (with_reducible refine Below.drewN ?_ _) | (with_reducible refine Below.drew ?_) | (with_reducible exact Nat.le_refl _) | (focus (simp only [World.size_alloc, World.size_setCell, World.size_drew, World.size_drewN]; omega)) | omega | exact Nat.le_refl _ | (focus (simp; done)) | (focus (simp; omega)))))) (Nat.le_refl _) (by have := HB4.out.size; exact HB4.out.trans (by repeat (first | (with_reducible exact Below.refl _ _) | (with_reducible refine Below.setCell ?_ ?_ _) | (with_reducible refine Below.alloc ?_ ?_ _) | (with_reducible refine Below.drewN ?_ _) | (with_reducible refine Below.drew ?_) | (with_reducible exact Nat.le_refl _) | (focus (simp only [World.size_alloc, World.size_setCell, World.size_drew, World.size_drewN]; omega)) | omega | exact Nat.le_refl _ | (focus (simp; done)) | (focus (simp; omega))))))
          obtain ⟨rfl, v5, hm5, hv5, hk5⟩ := hd
          have HM5 := Lib.hid hm5
          have hz5 := hk5.size
          simp only [World.size_alloc, World.size_setCell] at hz5
          have hn5 : ¬ (wr.heap.size = w1.heap.size ∨ v.ownBlock = some wr.heap.size) := by
            rintro (h | h)
            · have := HMr.out.lt; omega
            · have := (HMr.out.row.lt _ h).2; omega
          have hn6 : ¬ (w4.heap.size = w1.heap.size ∨ v.ownBlock = some w4.heap.size) := by
            rintro (h | h)
            · have := HMr.out.lt; omega
            · have := (HMr.out.row.lt _ h).2; omega
          have r5 := fun o => hk5.cell (b := wr.heap.size) (by simp; omega) hn5 o
          have f5 := fun o => hk5.frozen (b := wr.heap.size) (by simp; omega) hn5 o
          have r6 := fun o => hk5.cell (b := w4.heap.size) (by simp) hn6 o
          have f6 := fun o => hk5.frozen (b := w4.heap.size) (by simp) hn6 o
          clear hm5 hk5 hv5 hn5 hn6
          go_wp2_with fail
          refine (find_one _ _ _ x _ HM5.out).mono ?_
          rintro e w6 ⟨rfl, hb6⟩
          obtain ⟨hc6, hf6⟩ := bcell hb6
          have hz6 := hb6.size
          have HB6 := Lib.hid hb6
          have hl6 : w4.heap.size < w6.heap.size := by omega
          have hl5 : w4.heap.size < w5.heap.size := by omega
          have hl55 : wr.heap.size < w5.heap.size := by omega
          have hl66 : wr.heap.size < w6.heap.size := by omega
          clear hb6
          have hne : (kd != 0) = true := by
            have := HKD.out
            rw [bne_iff_ne]; omega
          go_wp2_with fail
          refine (code_any kd hkd0 hkd1 _).mono ?_
          rintro e w7 ⟨rfl, rfl⟩
          go_wp2_with fail
          go_roundw
          case rel => exact ⟨i + 1, by omega, by go_num, v5, x, (HM5.out.below HB6.out).below (by repeat (first | (with_reducible exact Below.refl _ _) | (with_reducible refine Below.setCell ?_ ?_ _) | (with_reducible refine Below.alloc ?_ ?_ _) | (with_reducible refine Below.drewN ?_ _) | (with_reducible refine Below.drew ?_) | (with_reducible exact Nat.le_refl _) | (focus (simp only [World.size_alloc, World.size_setCell, World.size_drew, World.size_drewN]; omega)) | omega | exact Nat.le_refl _ | (focus (simp; done)) | (focus (simp; omega)))), HV.out, he1, by omega, HA3.out, (HU5.out.trans (HB6.out.mono HU5.out.size)).trans (by have := HU5.out.size; exact (by repeat (first | (with_reducible exact Below.refl _ _) | (with_reducible refine Below.setCell ?_ ?_ _) | (with_reducible refine Below.alloc ?_ ?_ _) | (with_reducible refine Below.drewN ?_ _) | (with_reducible refine Below.drew ?_) | (with_reducible exact Nat.le_refl _) | (focus (simp only [World.size_alloc, World.size_setCell, World.size_drew, World.size_drewN]; omega)) | omega | exact Nat.le_refl _ | (focus (simp; done)) | (focus (simp; omega)))))⟩
          case measure => simp [intOf]; omega
        · refine (do_at _ _ _ [x] [y] ⟨ck, 1, x.epoch, cp, cn, c0, c1, c2⟩ (x.epoch + 1) 0 _ (HMr.out.below (by have := HR4.out.size; exact HR4.out.trans (by repeat (first | (with_reducible exact Below.refl _ _) | (with_reducible refine Below.setCell ?_ ?_ _) | (with_reducible refine Below.alloc ?_ ?_ _) | (with_reducible refine Below.drewN ?_ _) | (with_reducible refine Below.drew ?_) | (with_reducible exact Nat.le_refl _) | (focus (simp only [World.size_alloc, World.size_setCell, World.size_drew, World.size_drewN]; omega)) | omega | exact Nat.le_refl _ | (focus (simp; done)) | (focus (simp; omega)))))) hes hnn (by omega)).mono ?_
          rintro e w5 hd
          have HU5 := Lib.hid (hd.under (w0 := w) (HMr.out.below (by have := HR4.out.size; exact HR4.out.trans (by repeat (first | (with_reducible exact Below.refl _ _) | (with_reducible refine Below.setCell ?_ ?_ _) | (with_reducible refine Below.alloc ?_ ?_ _) | (with_reducible refine Below.drewN ?_ _) | (with_reducible refine Below.drew ?_) | (with_reducible exact Nat.le_refl _) | (focus (simp only [World.size_alloc, World.size_setCell, World.size_drew, World.size_drewN]; omega)) | omega | exact Nat.le_refl _ | (focus (simp; done)) | (focus (simp; omega)))))) (Nat.le_refl _) (by have := HB4.out.size; exact HB4.out.trans (by repeat (first | (with_reducible exact Below.refl _ _) | (with_reducible refine Below.setCell ?_ ?_ _) | (with_reducible refine Below.alloc ?_ ?_ _) | (with_reducible refine Below.drewN ?_ _) | (with_reducible refine Below.drew ?_) | (with_reducible exact Nat.le_refl _) | (focus (simp only [World.size_alloc, World.size_setCell, World.size_drew, World.size_drewN]; omega)) | omega | exact Nat.le_refl _ | (focus (simp; done)) | (focus (simp; omega))))))
          obtain ⟨rfl, v5, hm5, hv5, hk5⟩ := hd
          have HM5 := Lib.hid hm5
          have hz5 := hk5.size
          simp only [World.size_alloc, World.size_setCell] at hz5
          have hn5 : ¬ (wr.heap.size = w1.heap.size ∨ v.ownBlock = some wr.heap.size) := by
            rintro (h | h)
            · have := HMr.out.lt; omega
            · have := (HMr.out.row.lt _ h).2; omega
          have hn6 : ¬ (w4.heap.size = w1.heap.size ∨ v.ownBlock = some w4.heap.size) := by
            rintro (h | h)
            · have := HMr.out.lt; omega
            · have := (HMr.out.row.lt _ h).2; omega
          have r5 := fun o => hk5.cell (b := wr.heap.size) (by simp; omega) hn5 o
          have f5 := fun o => hk5.frozen (b := wr.heap.size) (by simp; omega) hn5 o
          have r6 := fun o => hk5.cell (b := w4.heap.size) (by simp) hn6 o
          have f6 := fun o => hk5.frozen (b := w4.heap.size) (by simp) hn6 o
          have HV5 := Lib.hid hv5
          clear hm5 hk5 hv5 hn5 hn6
          have HYE := Lib.hid hye
          have HYA := Lib.hid hya
          have HYV := Lib.hid hyv
          have HES2 := Lib.hid hes2
          have HK13 := Lib.hid hk13
          have HES := Lib.hid hes
          clear hye hya hyv hes2 hk13 hes hnn hz
          go_wp2_with fail
          refine (find_one _ _ _ y _ HM5.out).mono ?_
          rintro e w6 ⟨rfl, hb6⟩
          obtain ⟨hc6, hf6⟩ := bcell hb6
          have hz6 := hb6.size
          have HB6 := Lib.hid hb6
          have hl6 : w4.heap.size < w6.heap.size := by omega
          have hl5 : w4.heap.size < w5.heap.size := by omega
          have hl55 : wr.heap.size < w5.heap.size := by omega
          have hl66 : wr.heap.size < w6.heap.size := by omega
          clear hb6
          go_wp2_with fail
          refine (code_any 0 (by omega) (by omega) _).mono ?_
          rintro e w7 ⟨rfl, rfl⟩
          have HM6 := Lib.hid (HM5.out.below HB6.out)
          have HU6 := Lib.hid (HU5.out.trans (HB6.out.mono HU5.out.size))
          have hlw : w1.heap.size < w6.heap.size := HM6.out.lt
          go_wp2_with fail
          refine (do_at _ _ _ [y] [y] ⟨ck, 1, x.epoch, cp, cn, c0, c1, c2⟩ (doN [y] ⟨ck, 1, x.epoch, cp, cn, c0, c1, c2⟩) 13 _ (HM6.out.below (by repeat (first | (with_reducible exact Below.refl _ _) | (with_reducible refine Below.setCell ?_ ?_ _) | (with_reducible refine Below.alloc ?_ ?_ _) | (with_reducible refine Below.drewN ?_ _) | (with_reducible refine Below.drew ?_) | (with_reducible exact Nat.le_refl _) | (focus (simp only [World.size_alloc, World.size_setCell, World.size_drew, World.size_drewN]; omega)) | omega | exact Nat.le_refl _ | (focus (simp; done)) | (focus (simp; omega))))) HES2.out rfl (by have := HK13.out; omega)).mono ?_
          rintro e w8 hd
          have HU8 := Lib.hid (hd.under (w0 := w) (HM6.out.below (by repeat (first | (with_reducible exact Below.refl _ _) | (with_reducible refine Below.setCell ?_ ?_ _) | (with_reducible refine Below.alloc ?_ ?_ _) | (with_reducible refine Below.drewN ?_ _) | (with_reducible refine Below.drew ?_) | (with_reducible exact Nat.le_refl _) | (focus (simp only [World.size_alloc, World.size_setCell, World.size_drew, World.size_drewN]; omega)) | omega | exact Nat.le_refl _ | (focus (simp; done)) | (focus (simp; omega))))) (Nat.le_refl _) (by have := HU6.out.size; exact HU6.out.trans (by repeat (first | (with_reducible exact Below.refl _ _) | (with_reducible refine Below.setCell ?_ ?_ _) | (with_reducible refine Below.alloc ?_ ?_ _) | (with_reducible refine Below.drewN ?_ _) | (with_reducible refine Below.drew ?_) | (with_reducible exact Nat.le_refl _) | (focus (simp only [World.size_alloc, World.size_setCell, World.size_drew, World.size_drewN]; omega)) | omega | exact Nat.le_refl _ | (focus (simp; done)) | (focus (simp; omega))))))
          obtain ⟨rfl, v8, hm8, hv8, hk8⟩ := hd
          have HM8 := Lib.hid hm8
          have hz8 := hk8.size
          simp only [World.size_alloc, World.size_setCell] at hz8
          have hnn : ∀ B, B < w6.heap.size + 1 → B ≠ w1.heap.size → v5.ownBlock ≠ some B → (∀ o, w8.cell? ⟨B, o, none⟩ = _) ∧ (∀ o, w8.frozen? ⟨B, o, none⟩ = _) := fun B h1 h2 h3 =>
            ⟨fun o => hk8.cell (b := B) (by simp; omega) (by rintro (h | h); exact h2 h; exact h3 h) o, fun o => hk8.frozen (b := B) (by simp; omega) (by rintro (h | h); exact h2 h; exact h3 h) o⟩
          have hv5r := fun g (h : v5.ownBlock = some g) => HV5.out g h
          have hd1 : v5.ownBlock ≠ some wr.heap.size := fun h => by
            rcases hv5r _ h with h | h
            · have := (HMr.out.row.lt _ h).2; omega
            · simp only [World.size_alloc, World.size_setCell] at h; omega
          have hd2 : v5.ownBlock ≠ some w4.heap.size := fun h => by
            rcases hv5r _ h with h | h
            · have := (HMr.out.row.lt _ h).2; omega
            · simp only [World.size_alloc, World.size_setCell] at h; omega
          have hd3 : v5.ownBlock ≠ some w6.heap.size := fun h => by
            have := (HM6.out.row.lt _ h).2; omega
          have hm1 := HMr.out.lt
          obtain ⟨r8, f8⟩ := hnn wr.heap.size (by omega) (by omega) hd1
          obtain ⟨s8, g8⟩ := hnn w4.heap.size (by omega) (by omega) hd2
          obtain ⟨t8, i8⟩ := hnn w6.heap.size (by omega) (by omega) hd3
          clear hnn hv5r hd1 hd2 hd3 hm8 hk8 hv8
          have hl8 : w6.heap.size < w8.heap.size := by omega
          have hl81 : wr.heap.size < w8.heap.size := by omega
          have hl82 : w4.heap.size < w8.heap.size := by omega
          go_wp2_with fail
          refine (find_one _ _ _ y _ HM8.out).mono ?_
          rintro e w9 ⟨rfl, hb9⟩
          obtain ⟨hc9, hf9⟩ := bcell hb9
          have hz9 := hb9.size
          have HB9 := Lib.hid hb9
          clear hb9
          have hl91 : wr.heap.size < w9.heap.size := by omega
          have hl92 : w4.heap.size < w9.heap.size := by omega
          have hl93 : w6.heap.size < w9.heap.size := by omega
          have hye := HYE.out
          have hxe : IntKind.i64.wrap (x.epoch + 1) = x.epoch + 1 := IntWalk.i64_in _ (by omega)
          obtain ⟨y0, y1, y2, y3, y4, y5⟩ := y
          have hye' : y1 = x.epoch + 1 := hye
          subst hye'
          have HYA' := HYA.out
          have ha1 : (y2 == y3) = false := beq_eq_false_iff_ne.2 HYA'.1
          have ha2 : (y3 == y4) = false := beq_eq_false_iff_ne.2 HYA'.2.1
          have ha3 : (y2 == y4) = false := beq_eq_false_iff_ne.2 HYA'.2.2
          clear hye HYA' HYE
          go_wp2_with fail
          refine (code_any 13 (by omega) (by omega) _).mono ?_
          rintro e w10 ⟨rfl, rfl⟩
          go_wp2_with fail
          go_roundw
          case rel => exact ⟨i + 1, by omega, by go_num, v8, _, (HM8.out.below HB9.out).below (by repeat (first | (with_reducible exact Below.refl _ _) | (with_reducible refine Below.setCell ?_ ?_ _) | (with_reducible refine Below.alloc ?_ ?_ _) | (with_reducible refine Below.drewN ?_ _) | (with_reducible refine Below.drew ?_) | (with_reducible exact Nat.le_refl _) | (focus (simp only [World.size_alloc, World.size_setCell, World.size_drew, World.size_drewN]; omega)) | omega | exact Nat.le_refl _ | (focus (simp; done)) | (focus (simp; omega)))), by have := HYV.out; have := HV.out; show y0 = 1; have h1 : y0 = x.vol := HYV.out; omega, by show 1 ≤ x.epoch + 1; omega, by show x.epoch + 1 ≤ 1 + ((i + 1 : Nat) : Int); omega, HYA.out, (HU8.out.trans (HB9.out.mono HU8.out.size)).trans (by have := HU8.out.size; exact (by repeat (first | (with_reducible exact Below.refl _ _) | (with_reducible refine Below.setCell ?_ ?_ _) | (with_reducible refine Below.alloc ?_ ?_ _) | (with_reducible refine Below.drewN ?_ _) | (with_reducible refine Below.drew ?_) | (with_reducible exact Nat.le_refl _) | (focus (simp only [World.size_alloc, World.size_setCell, World.size_drew, World.size_drewN]; omega)) | omega | exact Nat.le_refl _ | (focus (simp; done)) | (focus (simp; omega)))))⟩
          case measure => simp [intOf]; omega
    · obtain ⟨v, x, hm, hv, he1, he2, ha3, hbw⟩ := HM.out
      have HBW := Lib.hid hbw
      clear hm hv he1 he2 ha3 hbw
      go_wp2_with fail
      refine (do_nil ⟨0, 0, 0, 0, 0, 0, 0, 0⟩ _).mono ?_
      rintro e w4 ⟨rfl, hb4⟩
      have HB4 := Lib.hid (HBW.out.trans (hb4.mono HBW.out.size))
      clear hb4
      go_wp2_with fail
      refine (find_nil 1 _).mono ?_
      rintro e w5 ⟨rfl, hb5⟩
      have HB5 := Lib.hid (HB4.out.trans (hb5.mono HB4.out.size))
      clear hb5
      go_wp2_with fail
      refine (code_any 15 (by omega) (by omega) _).mono ?_
      rintro e w6 ⟨rfl, rfl⟩
      go_wp2_with fail
      refine (code_any 6 (by omega) (by omega) _).mono ?_
      rintro e w7 ⟨rfl, rfl⟩
      go_wp2_with fail
      refine (all_nil _).mono ?_
      rintro e w8 ⟨rfl, rfl⟩
      go_wp2_with fail
      refine (on_nil 1 _).mono ?_
      rintro e w9 ⟨rfl, hb9⟩
      have hz5 := HB5.out.size
      have HB9 := Lib.hid (HB5.out.trans (Below.trans (B := w.heap.size) (a := w5) (by repeat (first | (with_reducible exact Below.refl _ _) | (with_reducible refine Below.setCell ?_ ?_ _) | (with_reducible refine Below.alloc ?_ ?_ _) | (with_reducible refine Below.drewN ?_ _) | (with_reducible refine Below.drew ?_) | (with_reducible exact Nat.le_refl _) | (focus (simp only [World.size_alloc, World.size_setCell, World.size_drew, World.size_drewN]; omega)) | omega | exact Nat.le_refl _ | (focus (simp; done)) | (focus (simp; omega)))) (hb9.mono (by simp; omega))))
      clear hb9
      go_wp2_with fail
      refine (bytes_nil _).mono ?_
      rintro e w10 ⟨rfl, hb10⟩
      have HB10 := Lib.hid (HB9.out.trans (hb10.mono HB9.out.size))
      clear hb10
      go_wp2_with fail
      go_ret
      exact ⟨rfl, HB10.out⟩
set_option maxRecDepth 100000 in
set_option maxHeartbeats 1000000 in
theorem epochs_big (ao : Option Addr) (n cap : Nat) (w : World) (hn : 100 < n) : Calls Try.prog 4 #[.slice ao n cap] w fun e w' => e = .returned (.bool true) ∧ Below w.heap.size w w' := by
  have hn' : (100 : Int) < (n : Int) := by omega
  go_enter Try.func4, Try.ntmps4
  go_wp2_with fail
  refine (alive19 _).mono ?_
  rintro e w1 ⟨rfl, hb1⟩
  go_wp2_with fail
  go_ret
  exact ⟨rfl, hb1⟩
end Go.Proofs.Ytigkcbnlbdiimaa
