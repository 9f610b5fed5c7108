/- TwinShips: the walk. -/
import Derived.Test.YtigkcbnlbdiimaaTwinShips
namespace Go.Proofs.Ytigkcbnlbdiimaa
open Go.RowKit
set_option maxRecDepth 100000 in
set_option maxHeartbeats 8000000 in
theorem ships_any (ao : Option Addr) (n cap : Nat) (l : List Act) (w : World) (hl : l.length = n) (hn : n ≤ 60) (hA : 0 < n → ∃ b off, ao = some ⟨b, off, none⟩ ∧ b < w.heap.size ∧ ActsAt w b off l) :
    Calls Try.prog 7 #[.slice ao n cap] w fun e w' => e = .returned (.bool true) ∧ Below w.heap.size w w' := by
  have HL := Lib.hid hl
  have HA := Lib.hid hA
  clear hl hA
  have hd60 : decide ((60 : Int) < (n : Int)) = false := by simp; omega
  go_enter Try.func7, Try.ntmps7
  go_wp2_with fail
  refine (alive20 _).mono ?_
  rintro e w1 ⟨rfl, hb1⟩
  have hz1 := hb1.size
  have HB1 := Lib.hid hb1
  clear hb1
  go_wp2_with fail
  refine (twin_new _).mono ?_
  rintro e w2 ⟨rfl, hm2, hb2⟩
  have h0 : PS w w2 w1.heap.size Pr.new :=
    ⟨_, _, ⟨hm2.blk, ownsRow_mono hm2.ra hz1, ownsRow_mono hm2.rb hz1, hz1, hm2.na, hm2.nb, hm2.ap⟩, HB1.out.trans (hb2.mono hz1)⟩
  have H0 := Lib.hid h0
  clear h0 hm2 hb2
  go_wp2_with fail
  go_loopw [4] (fun i wr => ∃ (k : Nat) (p : Pr), k ≤ n ∧ i = .int .i64 k ∧ PS w wr w1.heap.size p ∧ PrInv k p) (fun i _ => n - (intOf i).toNat)
  case atStart => exact ⟨0, Pr.new, Nat.zero_le _, rfl, H0.out, PrInv.new⟩
  case round =>
    clear H0
    obtain ⟨i, p, hi, rfl, hps, hpi⟩ := hrel
    have HPS := Lib.hid hps
    have HPI := Lib.hid hpi
    have hzr := hps.size
    have hlt0 := hps.lt
    have ht1 := hpi.t1
    have ht2 := hpi.t2
    have hla := hpi.la
    clear hps hpi
    by_cases hlt : i < n
    · obtain ⟨a, ha⟩ : ∃ a, l[i]? = some a := ⟨_, List.getElem?_eq_getElem (by rw [HL.out]; exact hlt)⟩
      obtain ⟨b, off, rfl, hb, hC⟩ := HA.out (by omega)
      obtain ⟨q0, q1, q2, q3, q4, q5, q6, q7, q8, q9, q10⟩ := hC i a ha
      have eb := fun o => HPS.out.below.cell (p := ⟨b, o, none⟩) hb
      have k0 := (eb _).trans q0
      have k1 := (eb _).trans q1
      have k2 := (eb _).trans q2
      have k3 := (eb _).trans q3
      have k4 := (eb _).trans q4
      have k5 := (eb _).trans q5
      have k6 := (eb _).trans q6
      have k7 := (eb _).trans q7
      have k8 := (eb _).trans q8
      have k9 := (eb _).trans q9
      have k10 := (eb _).trans q10
      have hbr : b < wr.heap.size := by omega
      clear ha hC q0 q1 q2 q3 q4 q5 q6 q7 q8 q9 q10 eb
      obtain ⟨ak, at0, asd, ⟨ck, cv, cE, cp, cN, c0, c1, c2⟩⟩ := a
      by_cases hk0 : ak < 0
      · go_wp2_with fail
        go_ret
        exact ⟨rfl, HPS.out.below⟩
      by_cases hk3 : 3 < ak
      · have hk0' : decide (ak < 0) = false := by simpa using hk0
        clear hk0
        go_wp2_with fail
        go_ret
        exact ⟨rfl, HPS.out.below⟩
      have hk0' : decide (ak < 0) = false := by simpa using hk0
      have hk3' : decide (3 < ak) = false := by simpa using hk3
      have HK0 := Lib.hid hk0
      have HK3 := Lib.hid hk3
      clear hk0 hk3
      go_wp2_with fail
      refine (lead_ps w _ _ _ (HPS.out.later (by repeat (first | (with_reducible exact Below.refl _ _) | (with_reducible refine Below.setCell ?_ ?_ _) | (with_reducible refine Below.alloc ?_ ?_ _) | (with_reducible refine Below.drewN ?_ _) | (with_reducible refine Below.drew ?_) | (with_reducible exact Nat.le_refl _) | (focus (simp only [World.size_alloc, World.size_setCell, World.size_drew, World.size_drewN]; omega)) | omega | exact Nat.le_refl _ | (focus (simp; done)) | (focus (simp; omega)))))).mono ?_
      rintro e w3 ⟨rfl, rfl⟩
      go_wp2_with fail
      all_goals
        refine (act_ps w i w1.heap.size p ⟨ak, _, asd, ⟨ck, cv, cE, cp, cN, c0, c1, c2⟩⟩ _ (HPS.out.later (by repeat (first | (with_reducible exact Below.refl _ _) | (with_reducible refine Below.setCell ?_ ?_ _) | (with_reducible refine Below.alloc ?_ ?_ _) | (with_reducible refine Below.drewN ?_ _) | (with_reducible refine Below.drew ?_) | (with_reducible exact Nat.le_refl _) | (focus (simp only [World.size_alloc, World.size_setCell, World.size_drew, World.size_drewN]; omega)) | omega | exact Nat.le_refl _ | (focus (simp; done)) | (focus (simp; omega))))) HPI.out (by omega)).mono ?_
        rintro e w4 ⟨rfl, hpt⟩
        have h5 : ∃ q, PS w w4 w1.heap.size q ∧ PrInv (i + 1) q := ⟨_, hpt, (act_step i p _ HPI.out).1⟩
        obtain ⟨q, hq1, hq2⟩ := h5
        have HQ1 := Lib.hid hq1
        have HQ2 := Lib.hid hq2
        clear hpt hq1 hq2
        go_wp2_with fail
        go_roundw
        case rel => exact ⟨i + 1, q, by omega, by go_num, HQ1.out, HQ2.out⟩
        case measure => simp [intOf]; omega
    · have hbu := both_up i p HPI.out
      have hi2 := riseI_step (i + 1) _ (1 - p.ld) (riseI_step i p p.ld HPI.out)
      have hld : p.ld = 0 ∨ p.ld = 1 := by unfold Pr.ld; split <;> omega
      have HI1 := Lib.hid (riseI_step i p p.ld HPI.out)
      have HBU := Lib.hid hbu
      have HI2 := Lib.hid hi2
      clear hbu hi2
      go_wp2_with fail
      refine (lead_ps w _ _ _ HPS.out).mono ?_
      rintro e w3 ⟨rfl, rfl⟩
      go_wp2_with fail
      refine (rise_ps w i _ p _ _ (HPS.out.later (by repeat (first | (with_reducible exact Below.refl _ _) | (with_reducible refine Below.setCell ?_ ?_ _) | (with_reducible refine Below.alloc ?_ ?_ _) | (with_reducible refine Below.drewN ?_ _) | (with_reducible refine Below.drew ?_) | (with_reducible exact Nat.le_refl _) | (focus (simp only [World.size_alloc, World.size_setCell, World.size_drew, World.size_drewN]; omega)) | omega | exact Nat.le_refl _ | (focus (simp; done)) | (focus (simp; omega))))) HPI.out (by omega)).mono ?_
      rintro e w4 ⟨rfl, h4⟩
      have H4 := Lib.hid h4
      clear h4
      go_wp2_with fail
      refine (rise_ps w (i + 1) _ _ _ _ (H4.out.later (by repeat (first | (with_reducible exact Below.refl _ _) | (with_reducible refine Below.setCell ?_ ?_ _) | (with_reducible refine Below.alloc ?_ ?_ _) | (with_reducible refine Below.drewN ?_ _) | (with_reducible refine Below.drew ?_) | (with_reducible exact Nat.le_refl _) | (focus (simp only [World.size_alloc, World.size_setCell, World.size_drew, World.size_drewN]; omega)) | omega | exact Nat.le_refl _ | (focus (simp; done)) | (focus (simp; omega))))) HI1.out (by omega)).mono ?_
      rintro e w5 ⟨rfl, h5⟩
      obtain ⟨q, hq⟩ : ∃ q, q = riseI (riseI p p.ld) (1 - p.ld) := ⟨_, rfl⟩
      rw [← hq] at h5
      have H5 := Lib.hid h5
      have HBU' := Lib.hid (show q.L.up = true ∧ q.F.up = true by rw [hq]; exact HBU.out)
      have HI2' := Lib.hid (show PrInv (i + 1 + 1) q by rw [hq]; exact HI2.out)
      clear h5 hq HBU HI2
      obtain ⟨wo, rfl⟩ : ∃ wo : World, wo = wr := ⟨_, rfl⟩
      go_wp2_with fail
      go_loopw [10] (fun j wx => ∃ (k : Nat) (q' : Pr), k ≤ 200 ∧ j = .int .i64 k ∧ PS w wx w1.heap.size q' ∧ PrInv (i + 2 + k) q' ∧ q'.L.up = true ∧ q'.F.up = true ∧ q'.L.log.length + k ≤ q'.F.log.length + 62) (fun j _ => 200 - (intOf j).toNat)
      case atStart => exact ⟨0, q, by omega, rfl, H5.out.later (by repeat (first | (with_reducible exact Below.refl _ _) | (with_reducible refine Below.setCell ?_ ?_ _) | (with_reducible refine Below.alloc ?_ ?_ _) | (with_reducible refine Below.drewN ?_ _) | (with_reducible refine Below.drew ?_) | (with_reducible exact Nat.le_refl _) | (focus (simp only [World.size_alloc, World.size_setCell, World.size_drew, World.size_drewN]; omega)) | omega | exact Nat.le_refl _ | (focus (simp; done)) | (focus (simp; omega)))), HI2'.out, HBU'.out.1, HBU'.out.2, by have := HI2'.out.la; omega⟩
      case round =>
        obtain ⟨k, r, hk, rfl, hrs, hri, hru, hrf, hrl⟩ := hrel
        have HRS := Lib.hid hrs
        have HRI := Lib.hid hri
        have hzx := hrs.size
        have hltx := hrs.lt
        have hrt1 := hri.t1
        have hrt2 := hri.t2
        have hrla := hri.la
        have hrlb := hri.lb
        have hple := (hri.pre hrf).length_le
        have HU := Lib.hid hru
        have HF := Lib.hid hrf
        clear hrs hri hru hrf
        have hk200 : k < 200 := by omega
        by_cases he : r.F.log.length = r.L.log.length
        · obtain ⟨hba, hst, hal⟩ := all_shipped _ r HRI.out HF.out he
          have hs6 : shipK r r.term = 6 := by rw [ship_six r HU.out HF.out, if_pos he]
          have HNO := Lib.hid (ship_none r HU.out HF.out he)
          have HBA := Lib.hid hba
          have HST := Lib.hid hst
          have HS6 := Lib.hid hs6
          clear hba hst hs6 he
          go_wp2_with fail
          refine (lead_ps w _ _ _ HRS.out).mono ?_
          rintro e w6 ⟨rfl, rfl⟩
          go_wp2_with fail
          refine (ship_ps w _ _ r _ _ (HRS.out.later (by repeat (first | (with_reducible exact Below.refl _ _) | (with_reducible refine Below.setCell ?_ ?_ _) | (with_reducible refine Below.alloc ?_ ?_ _) | (with_reducible refine Below.drewN ?_ _) | (with_reducible refine Below.drew ?_) | (with_reducible exact Nat.le_refl _) | (focus (simp only [World.size_alloc, World.size_setCell, World.size_drew, World.size_drewN]; omega)) | omega | exact Nat.le_refl _ | (focus (simp; done)) | (focus (simp; omega))))) HRI.out (by omega)).mono ?_
          rintro e w7 ⟨rfl, h7⟩
          rw [HNO.out] at h7
          rw [HS6.out]
          have H7 := Lib.hid h7
          have hz7 := h7.size
          have hlt7 := h7.lt
          clear h7
          go_wp2_with fail
          refine (code_any 6 (by omega) (by omega) _).mono ?_
          rintro e w8 ⟨rfl, rfl⟩
          go_wp2_with fail
          refine (logs_ps w _ _ _ H7.out).mono ?_
          rintro e w9 ⟨rfl, rfl⟩
          rw [HBA.out]
          obtain ⟨log, hlog⟩ : ∃ log, log = r.a.log := ⟨_, rfl⟩
          have HLG := Lib.hid hlog
          rw [← hlog]
          clear hlog
          go_wp2_with fail
          refine (lead_ps w _ _ _ (H7.out.later (by repeat (first | (with_reducible exact Below.refl _ _) | (with_reducible refine Below.setCell ?_ ?_ _) | (with_reducible refine Below.alloc ?_ ?_ _) | (with_reducible refine Below.drewN ?_ _) | (with_reducible refine Below.drew ?_) | (with_reducible exact Nat.le_refl _) | (focus (simp only [World.size_alloc, World.size_setCell, World.size_drew, World.size_drewN]; omega)) | omega | exact Nat.le_refl _ | (focus (simp; done)) | (focus (simp; omega)))))).mono ?_
          rintro e w9 ⟨rfl, rfl⟩
          go_wp2_with fail
          refine (settled_ps w _ _ _ (H7.out.later (by repeat (first | (with_reducible exact Below.refl _ _) | (with_reducible refine Below.setCell ?_ ?_ _) | (with_reducible refine Below.alloc ?_ ?_ _) | (with_reducible refine Below.drewN ?_ _) | (with_reducible refine Below.drew ?_) | (with_reducible exact Nat.le_refl _) | (focus (simp only [World.size_alloc, World.size_setCell, World.size_drew, World.size_drewN]; omega)) | omega | exact Nat.le_refl _ | (focus (simp; done)) | (focus (simp; omega)))))).mono ?_
          rintro e w9 ⟨rfl, rfl⟩
          rw [show r.settled = (log.length : Int) by rw [HST.out, HLG.out]]
          have hlen : log.length ≤ 100000 := by rw [HLG.out]; omega
          have HLEN := Lib.hid hlen
          clear hlen
          go_wp2_with fail
          refine (map_0 w _ _ _ (H7.out.later (by repeat (first | (with_reducible exact Below.refl _ _) | (with_reducible refine Below.setCell ?_ ?_ _) | (with_reducible refine Below.alloc ?_ ?_ _) | (with_reducible refine Below.drewN ?_ _) | (with_reducible refine Below.drew ?_) | (with_reducible exact Nat.le_refl _) | (focus (simp only [World.size_alloc, World.size_setCell, World.size_drew, World.size_drewN]; omega)) | omega | exact Nat.le_refl _ | (focus (simp; done)) | (focus (simp; omega))))) (by rw [← HLG.out]; exact HLEN.out)).mono ?_
          rintro e w10 ⟨rfl, ⟨v10, hm10⟩, hb10⟩
          rw [← HLG.out] at hm10
          have H10 := Lib.hid (PS.later (PS.later H7.out (by repeat (first | (with_reducible exact Below.refl _ _) | (with_reducible refine Below.setCell ?_ ?_ _) | (with_reducible refine Below.alloc ?_ ?_ _) | (with_reducible refine Below.drewN ?_ _) | (with_reducible refine Below.drew ?_) | (with_reducible exact Nat.le_refl _) | (focus (simp only [World.size_alloc, World.size_setCell, World.size_drew, World.size_drewN]; omega)) | omega | exact Nat.le_refl _ | (focus (simp; done)) | (focus (simp; omega))))) hb10)
          have HM10 := Lib.hid hm10
          clear hm10 hb10
          go_wp2_with fail
          refine (bytes_log log _ _ _ _ HM10.out HLEN.out).mono ?_
          rintro e w11 ⟨v11, rfl, hr11, hb11⟩
          have HR11 := Lib.hid hr11
          have H11 := Lib.hid (H10.out.later hb11)
          clear hr11 hb11
          go_wp2_with fail
          refine (map_1 w _ _ _ H11.out (by rw [HBA.out, ← HLG.out]; exact HLEN.out)).mono ?_
          rintro e w12 ⟨rfl, ⟨v12, hm12⟩, hb12⟩
          rw [HBA.out, ← HLG.out] at hm12
          have H12 := Lib.hid (H11.out.later hb12)
          have HR12 := Lib.hid (HR11.out.below hb12)
          have HM12 := Lib.hid hm12
          clear hm12 hb12
          go_wp2_with fail
          refine (bytes_log log _ _ _ _ HM12.out HLEN.out).mono ?_
          rintro e w13 ⟨v13, rfl, hr13, hb13⟩
          have HR13 := Lib.hid hr13
          have HR14 := Lib.hid (HR12.out.below hb13)
          have H13 := Lib.hid (H12.out.later hb13)
          clear hr13 hb13
          go_wp2_with fail
          refine (same_any _ _ _ _ _ HR14.out HR13.out).mono ?_
          rintro e w15 ⟨rfl, hb15⟩
          rw [decide_eq_true (rfl : mapBytes (doAll [] log) = mapBytes (doAll [] log))]
          have H15 := Lib.hid (H13.out.later hb15)
          clear hb15
          go_wp2_with fail
          refine (ship_ps w _ _ r _ _ H15.out HRI.out (by omega)).mono ?_
          rintro e w16 ⟨rfl, h16⟩
          rw [HS6.out]
          have HB16 := Lib.hid h16.below
          clear h16
          go_wp2_with fail
          refine (code_any 6 (by omega) (by omega) _).mono ?_
          rintro e w17 ⟨rfl, rfl⟩
          go_wp2_with fail
          go_ret
          exact ⟨rfl, HB16.out⟩
        · obtain ⟨ho1, ho2, ho3⟩ := ship_one _ r HRI.out HU.out HF.out he
          have hs0 : shipK r r.term = 0 := by rw [ship_six r HU.out HF.out, if_neg he]
          have hst := (ship_step _ r r.term HRI.out).1
          have HS0 := Lib.hid hs0
          have HST := Lib.hid hst
          have HO := Lib.hid (And.intro ho1 (And.intro ho2 ho3))
          clear ho1 ho2 ho3 hs0 hst
          have hne : r.F.log.length < r.L.log.length := by omega
          go_wp2_with fail
          refine (lead_ps w _ _ _ HRS.out).mono ?_
          rintro e w6 ⟨rfl, rfl⟩
          go_wp2_with fail
          refine (ship_ps w _ _ r _ _ (HRS.out.later (by repeat (first | (with_reducible exact Below.refl _ _) | (with_reducible refine Below.setCell ?_ ?_ _) | (with_reducible refine Below.alloc ?_ ?_ _) | (with_reducible refine Below.drewN ?_ _) | (with_reducible refine Below.drew ?_) | (with_reducible exact Nat.le_refl _) | (focus (simp only [World.size_alloc, World.size_setCell, World.size_drew, World.size_drewN]; omega)) | omega | exact Nat.le_refl _ | (focus (simp; done)) | (focus (simp; omega))))) HRI.out (by omega)).mono ?_
          rintro e w7 ⟨rfl, h7⟩
          rw [HS0.out]
          have H7 := Lib.hid h7
          clear h7
          go_wp2_with fail
          refine (code_any 0 (by omega) (by omega) _).mono ?_
          rintro e w8 ⟨rfl, rfl⟩
          go_wp2_with fail
          go_roundw
          case rel => exact ⟨k + 1, shipP r r.term, by omega, by go_num, H7.out, HST.out, by rw [HO.out.1]; exact HU.out, HO.out.2.1, by rw [HO.out.1, HO.out.2.2]; omega⟩
          case measure => simp [intOf]; omega
/-- On a long row of acts. -/
theorem ships_big (ao : Option Addr) (n cap : Nat) (w : World) (hn : 60 < n) : Calls Try.prog 7 #[.slice ao n cap] w fun e w' => e = .returned (.bool true) ∧ Below w.heap.size w w' := by
  have hn' : (60 : Int) < (n : Int) := by omega
  go_enter Try.func7, Try.ntmps7
  go_wp2_with fail
  refine (alive20 _).mono ?_
  rintro e w1 ⟨rfl, hb1⟩
  go_wp2_with fail
  go_ret
  exact ⟨rfl, hb1⟩
end Go.Proofs.Ytigkcbnlbdiimaa
