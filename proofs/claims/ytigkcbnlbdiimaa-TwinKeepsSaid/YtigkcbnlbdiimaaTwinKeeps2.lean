/- TwinKeeps: the walk. -/
import Derived.Test.YtigkcbnlbdiimaaTwinKeeps
namespace Go.Proofs.Ytigkcbnlbdiimaa
open Go.RowKit
set_option maxRecDepth 100000 in
set_option maxHeartbeats 8000000 in
theorem keeps_any (ao : Option Addr) (n cap : Nat) (l : List Act) (w : World) (hl : l.length = n) (hn : n ≤ 60) (hA : 0 < n → ∃ b off, ao = some ⟨b, off, none⟩ ∧ b < w.heap.size ∧ ActsAt w b off l) :
    Calls Try.prog 6 #[.slice ao n cap] w fun e w' => e = .returned (.bool true) ∧ Below w.heap.size w w' := by
  have HL := Lib.hid hl
  have HA := Lib.hid hA
  clear hl hA
  obtain ⟨i0, hi, hz0, hz1, hz2⟩ := info_parts int_info
  have HI := Lib.hid hi
  have HZ0 := Lib.hid hz0
  have HZ1 := Lib.hid hz1
  have HZ2 := Lib.hid hz2
  clear hi hz0 hz1 hz2
  have hd60 : decide ((60 : Int) < (n : Int)) = false := by simp; omega
  go_enter Try.func6, Try.ntmps6
  go_wp2_with fail
  refine (alive20 _).mono ?_
  rintro e w1 ⟨rfl, hb1⟩
  have hz1 := hb1.size
  have HB1 := Lib.hid hb1
  clear hb1
  go_wp2_with fail
  refine (twin_new _).mono ?_
  rintro e w2 ⟨rfl, hm2, hb2⟩
  have h0 : TK w w2 w1.heap.size (.slice none 0 0) (.slice none 0 0) Pr.new (.slice none 0 0) (.slice none 0 0) [] [] :=
    ⟨⟨hm2.blk, ownsRow_mono hm2.ra hz1, ownsRow_mono hm2.rb hz1, hz1, hm2.na, hm2.nb, hm2.ap⟩, World.ownsRow_nil _ _ _ _, World.ownsRow_nil _ _ _ _, by simp [Value.ownBlock], by simp [Value.ownBlock], by simp [Value.ownBlock], HB1.out.trans (hb2.mono hz1)⟩
  have H0 := Lib.hid h0
  clear h0 hm2 hb2
  go_wp2_with fail
  go_loopw [4, 5, 6, 7] (fun vn ve last i wr => ∃ (k : Nat) (p : Pr) (va vb : Value) (t0 : Int), k ≤ n ∧ i = .int .i64 k ∧ last = .int .i64 t0 ∧ t0 ≤ p.term ∧ TK w wr w1.heap.size va vb p vn ve (nsOf p.L.log p.settled.toNat) (esOf p.L.log p.settled.toNat) ∧ PrInv k p) (fun _ _ _ i _ => n - (intOf i).toNat)
  case atStart => exact ⟨0, Pr.new, _, _, 1, Nat.zero_le _, rfl, rfl, by simp [Pr.new], H0.out, PrInv.new⟩
  case round =>
    clear H0
    obtain ⟨i, p, va, vb, t0, hi, rfl, rfl, htp, htk, hpi⟩ := hrel
    have HTK := Lib.hid htk
    have HPI := Lib.hid hpi
    have hzr := htk.bel.size
    have hlt0 := htk.pr.lt
    have ht1 := hpi.t1
    have ht2 := hpi.t2
    have hla := hpi.la
    have hs0 := hpi.s0
    have hsl := hpi.sl
    obtain ⟨an, mn, cn, rfl, HMN⟩ := owns_len htk.rn
    obtain ⟨ae, me, ce, rfl, HME⟩ := owns_len htk.re
    clear htk hpi
    by_cases hlt : i < n
    · obtain ⟨a, ha⟩ : ∃ a, l[i]? = some a := ⟨_, List.getElem?_eq_getElem (by rw [HL.out]; exact hlt)⟩
      obtain ⟨b, off, rfl, hb, hC⟩ := HA.out (by omega)
      obtain ⟨q0, q1, q2, q3, q4, q5, q6, q7, q8, q9, q10⟩ := hC i a ha
      have eb := fun o => HTK.out.bel.cell (p := ⟨b, o, none⟩) hb
      have k0 := (eb _).trans q0
      have k1 := (eb _).trans q1
      have k2 := (eb _).trans q2
      have k3 := (eb _).trans q3
      have k4 := (eb _).trans q4
      have k5 := (eb _).trans q5
      have k6 := (eb _).trans q6
      have k7 := (eb _).trans q7
      have k8 := (eb _).trans q8
      have k9 := (eb _).trans q9
      have k10 := (eb _).trans q10
      have hbr : b < wr.heap.size := by omega
      clear ha hC q0 q1 q2 q3 q4 q5 q6 q7 q8 q9 q10 eb
      obtain ⟨ak, at0, asd, ⟨ck, cv, cE, cp, cN, c0, c1, c2⟩⟩ := a
      by_cases hk0 : ak < 0
      · go_wp2_with fail
        go_ret
        exact ⟨rfl, HTK.out.bel.alloc (by omega) _⟩
      by_cases hk3 : 3 < ak
      · have hk0' : decide (ak < 0) = false := by simpa using hk0
        clear hk0
        go_wp2_with fail
        go_ret
        exact ⟨rfl, HTK.out.bel.alloc (by omega) _⟩
      have hk0' : decide (ak < 0) = false := by simpa using hk0
      have hk3' : decide (3 < ak) = false := by simpa using hk3
      have HK0 := Lib.hid hk0
      have HK3 := Lib.hid hk3
      clear hk0 hk3
      go_wp2_with fail
      refine (lead_any _ _ _ _ _ _ (HTK.out.pr.below (by repeat (first | (with_reducible exact Below.refl _ _) | (with_reducible refine Below.setCell ?_ ?_ _) | (with_reducible refine Below.alloc ?_ ?_ _) | (with_reducible refine Below.drewN ?_ _) | (with_reducible refine Below.drew ?_) | (with_reducible exact Nat.le_refl _) | (focus (simp only [World.size_alloc, World.size_setCell, World.size_drew, World.size_drewN]; omega)) | omega | exact Nat.le_refl _ | (focus (simp; done)) | (focus (simp; omega)))))).mono ?_
      rintro e w3 ⟨rfl, rfl⟩
      have hkey := fun x => act_step i p x HPI.out
      have HKEY := Lib.hid hkey
      clear hkey
      have hmn : (mn : Int) = p.settled := by have := HMN.out; rw [nsOf_len] at this; omega
      obtain ⟨m, hm⟩ : ∃ m, p.settled.toNat = m := ⟨_, rfl⟩
      have hmm : (m : Int) = p.settled := by omega
      have HM := Lib.hid hm
      have HMM := Lib.hid hmm
      have HMNN := Lib.hid hmn
      clear hm hmm hmn
      go_wp2_with fail
      all_goals
        refine (act_any i w.heap.size w1.heap.size va vb p ⟨ak, _, asd, ⟨ck, cv, cE, cp, cN, c0, c1, c2⟩⟩ _ (HTK.out.pr.below (by repeat (first | (with_reducible exact Below.refl _ _) | (with_reducible refine Below.setCell ?_ ?_ _) | (with_reducible refine Below.alloc ?_ ?_ _) | (with_reducible refine Below.drewN ?_ _) | (with_reducible refine Below.drew ?_) | (with_reducible exact Nat.le_refl _) | (focus (simp only [World.size_alloc, World.size_setCell, World.size_drew, World.size_drewN]; omega)) | omega | exact Nat.le_refl _ | (focus (simp; done)) | (focus (simp; omega))))) HPI.out (by omega)).mono ?_
        rintro e w4 ⟨rfl, hpt⟩
        have h5 : ∃ q va' vb', TK w w4 w1.heap.size va' vb' q (.slice an mn cn) (.slice ae me ce) (nsOf p.L.log p.settled.toNat) (esOf p.L.log p.settled.toNat) ∧ PrInv (i + 1) q ∧ PrStep p q := by
          obtain ⟨va', vb', h6⟩ := TK.pair (HTK.out.later (by repeat (first | (with_reducible exact Below.refl _ _) | (with_reducible refine Below.setCell ?_ ?_ _) | (with_reducible refine Below.alloc ?_ ?_ _) | (with_reducible refine Below.drewN ?_ _) | (with_reducible refine Below.drew ?_) | (with_reducible exact Nat.le_refl _) | (focus (simp only [World.size_alloc, World.size_setCell, World.size_drew, World.size_drewN]; omega)) | omega | exact Nat.le_refl _ | (focus (simp; done)) | (focus (simp; omega))))) hpt
          exact ⟨_, va', vb', h6, (HKEY.out _).1, (HKEY.out _).2⟩
        obtain ⟨q, va', vb', htk4, hqi, hqs⟩ := h5
        rw [HM.out, ← nsOf_same (l := q.L.log) (m := p.L.log) (n := m) (by have := hqs.l; rwa [HM.out] at this), ← esOf_same (l := q.L.log) (m := p.L.log) (n := m) (by have := hqs.l; rwa [HM.out] at this)] at htk4
        have HTK4 := Lib.hid htk4
        have HQI := Lib.hid hqi
        have hqt := hqs.t
        have hqs1 := hqs.s
        have hqsl := hqi.sl
        have hqla := hqi.la
        have hqlt := hqi.t2
        have hlt4 := htk4.pr.lt
        obtain ⟨S, hS⟩ : ∃ S : Nat, q.settled = (S : Int) := ⟨q.settled.toNat, by have := hqi.s0; omega⟩
        have HS := Lib.hid hS
        have hmS : (mn : Int) ≤ (S : Int) := by have := HMNN.out; omega
        have hmm2 : mn = m := by have := HMNN.out; have := HMM.out; omega
        have HMM2 := Lib.hid hmm2
        have hSn : (S : Int) ≤ 100 := by omega
        clear htk4 hqi hqs hpt hS hmm2
        go_wp2_with fail
        refine (lead_any _ _ _ _ _ _ HTK4.out.pr).mono ?_
        rintro e w5 ⟨rfl, rfl⟩
        have hdt : decide (q.term < t0) = false := by simp; omega
        go_wp2_with fail
        refine (settled_any _ _ _ _ _ _ (HTK4.out.pr.below (by repeat (first | (with_reducible exact Below.refl _ _) | (with_reducible refine Below.setCell ?_ ?_ _) | (with_reducible refine Below.alloc ?_ ?_ _) | (with_reducible refine Below.drewN ?_ _) | (with_reducible refine Below.drew ?_) | (with_reducible exact Nat.le_refl _) | (focus (simp only [World.size_alloc, World.size_setCell, World.size_drew, World.size_drewN]; omega)) | omega | exact Nat.le_refl _ | (focus (simp; done)) | (focus (simp; omega)))))).mono ?_
        rintro e w6 ⟨rfl, rfl⟩
        rw [HS.out]
        have hds : decide ((S : Int) < (mn : Int)) = false := by simp; omega
        obtain ⟨wo, rfl⟩ : ∃ wo : World, wo = wr := ⟨_, rfl⟩
        go_wp2_with fail
        have hds2 : decide (S < mn) = false := by simp; omega
        rw [hds2]
        clear hds hds2
        go_loopw [4, 5, 11] (fun vn ve j wx => ∃ k : Nat, k ≤ S ∧ j = .int .i64 k ∧ TK w wx w1.heap.size va' vb' q vn ve (nsOf q.L.log (max m k)) (esOf q.L.log (max m k))) (fun _ _ j _ => S - (intOf j).toNat)
        case atStart => exact ⟨0, Nat.zero_le _, rfl, by rw [Nat.max_zero]; exact HTK4.out.later (by repeat (first | (with_reducible exact Below.refl _ _) | (with_reducible refine Below.setCell ?_ ?_ _) | (with_reducible refine Below.alloc ?_ ?_ _) | (with_reducible refine Below.drewN ?_ _) | (with_reducible refine Below.drew ?_) | (with_reducible exact Nat.le_refl _) | (focus (simp only [World.size_alloc, World.size_setCell, World.size_drew, World.size_drewN]; omega)) | omega | exact Nat.le_refl _ | (focus (simp; done)) | (focus (simp; omega))))⟩
        case round =>
          obtain ⟨k, hk, rfl, htx⟩ := hrel
          have HTX := Lib.hid htx
          obtain ⟨an2, mn2, cn2, rfl, HMN2⟩ := owns_len htx.rn
          obtain ⟨ae2, me2, ce2, rfl, HME2⟩ := owns_len htx.re
          have hzx := htx.bel.size
          have hltx := htx.pr.lt
          clear htx
          by_cases hlk : k < S
          · have hkS : (k : Int) < q.settled := by have := HS.out; omega
            go_wp2_with fail
            refine (settled_any _ _ _ _ _ _ HTX.out.pr).mono ?_
            rintro e w7 ⟨rfl, rfl⟩
            rw [HS.out]
            go_wp2_with fail
            refine (answer_any _ _ _ _ q k _ HTX.out.pr hkS HQI.out.sl (by omega)).mono ?_
            rintro e w8 ⟨rfl, hb8⟩
            have HT8 := Lib.hid (HTX.out.later hb8)
            have hz8 := hb8.size
            have hak := ansK_le q.L.log k
            clear hb8 hkS
            go_wp2_with fail
            refine (code_any _ (by omega) (by omega) _).mono ?_
            rintro e w9 ⟨rfl, rfl⟩
            have hmn2 : mn2 = max m k := by have := HMN2.out; rwa [nsOf_len] at this
            have hme2 : me2 = max m k := by have := HME2.out; rwa [esOf_len] at this
            by_cases hkm : k < m
            · have hmk : max m k = m := Nat.max_eq_left (by omega)
              obtain ⟨g1, cg1, e1, hg1, kn⟩ := row_int HT8.out.rn k _ (nsOf_at q.L.log (max m k) k (by omega))
              obtain ⟨g2, cg2, e2, hg2, ke⟩ := row_int HT8.out.re k _ (esOf_at q.L.log (max m k) k (by omega))
              obtain ⟨rfl, -, -⟩ := slice_inj e1
              obtain ⟨rfl, -, -⟩ := slice_inj e2
              have hk2 : (k : Int) < (mn2 : Int) := by omega
              have hk3 : (k : Int) < (me2 : Int) := by omega
              have hk4 : (0 : Int) ≤ (k : Int) := by omega
              have HMK := Lib.hid hmk
              clear e1 e2 hmk hmn2 hme2
              generalize ansN q.L.log k = x at *
              generalize (ansK q.L.log k : Int) = y at *
              go_wp2_with fail
              go_roundw
              case rel => exact ⟨k + 1, by omega, by go_num, by
                have h1 := HT8.out
                rw [HMK.out] at h1
                rw [Nat.max_eq_left (show k + 1 ≤ m by omega)]
                exact h1⟩
              case measure => simp [intOf]; omega
            · have hmk : max m k = k := Nat.max_eq_right (by omega)
              have hk2 : mn2 ≤ k := by omega
              have hk3 : decide ((k : Int) < (mn2 : Int)) = false := by simp; omega
              have hk4 : me2 ≤ k := by omega
              have HT8' := Lib.hid (show TK w w8 w1.heap.size va' vb' q (.slice an2 mn2 cn2) (.slice ae2 me2 ce2) (nsOf q.L.log k) (esOf q.L.log k) from by have := HT8.out; rwa [hmk] at this)
              have HN1 := Lib.hid (show mn2 = (nsOf q.L.log k).length by rw [nsOf_len]; omega)
              have HE1 := Lib.hid (show me2 = (esOf q.L.log k).length by rw [esOf_len]; omega)
              have HX := Lib.hid (nsOf_succ q.L.log k)
              have HY := Lib.hid (esOf_succ q.L.log k)
              clear hmk hmn2 hme2
              generalize ansN q.L.log k = x at *
              generalize (ansK q.L.log k : Int) = y at *
              have hbw : w.heap.size ≤ w8.heap.size := by omega
              have tok1 : True := trivial
              go_wp2_with (first
                | (at_builtin; have _t := tok1; refine wpList_append_lies _ rfl _ _ 42 rfl w.heap.size 3 i0 (.int .i64 0) 1 8 Try.underlying42 HI.out HZ0.out HZ1.out HZ2.out rfl (by decide) (.slice an2 mn2 cn2) mn2 ((nsOf q.L.log k).map (Value.int .i64)) rfl (ownsRow_cast (HT8'.out.rn.alloc _) HN1.out.symm rfl) ⟨w8.heap.size, 0, none⟩ 1 1 [.int .i64 x] rfl rfl (cell_one_new _ _ _) (by simp [Value.oneCell']) (by omega) (by unfold maxLen; omega) (by omega) (by simp; omega) _ rfl ?_; intro g1 cg1 w10 hown1 hgrow1 hat1 _; have HT10 := Lib.hid (TK.num' HT8'.out HN1.out hgrow1 hown1 (by simpa using hat1)); have hz10 : w8.heap.size ≤ w10.heap.size := (by have := hgrow1.size; simp at this; omega); clear hown1 hgrow1 hat1 tok1)
                | (at_builtin; refine wpList_append_lies _ rfl _ _ 42 rfl w.heap.size 3 i0 (.int .i64 0) 1 8 Try.underlying42 HI.out HZ0.out HZ1.out HZ2.out rfl (by decide) (.slice ae2 me2 ce2) me2 ((esOf q.L.log k).map (Value.int .i64)) rfl (ownsRow_cast (HT10.out.re.alloc _) HE1.out.symm rfl) ⟨w10.heap.size, 0, none⟩ 1 1 [.int .i64 y] rfl rfl (cell_one_new _ _ _) (by simp [Value.oneCell']) (by omega) (by unfold maxLen; omega) (by omega) (by simp; omega) _ rfl ?_; intro g2 cg2 w11 hown2 hgrow2 hat2 _; have HT11 := Lib.hid (TK.err' HT10.out HE1.out hgrow2 hown2 (by simpa using hat2)); clear hown2 hgrow2 hat2))
              go_roundw
              case rel => exact ⟨k + 1, by omega, by go_num, by
                rw [Nat.max_eq_right (show m ≤ k + 1 by omega), HX.out, HY.out]
                exact HT11.out⟩
              case measure => simp [intOf]; omega
          · have hkS : k = S := by omega
            go_wp2_with fail
            refine (settled_any _ _ _ _ _ _ HTX.out.pr).mono ?_
            rintro e w7 ⟨rfl, rfl⟩
            rw [HS.out]
            have HKS := Lib.hid hkS
            clear hkS
            go_wp2_with fail
            go_roundw
            case rel => exact ⟨i + 1, q, va', vb', q.term, by omega, by go_num, rfl, Int.le_refl _, by
              have h1 := HTX.out
              have h2 := HS.out
              rw [show q.settled.toNat = max m k by have := HKS.out; have := HMM2.out; omega]
              exact h1, HQI.out⟩
            case measure => simp [intOf]; omega
    · go_wp2_with fail
      refine (ask_nil 1 ⟨0, 0, 0, 0, 0, 0, 0, 0⟩ _).mono ?_
      rintro e w4 ⟨rfl, hb4⟩
      have HB4 := Lib.hid (HTK.out.bel.trans (hb4.mono hzr))
      clear hb4
      go_wp2_with fail
      refine (answer_nil 0 _).mono ?_
      rintro e w5 ⟨rfl, rfl⟩
      go_wp2_with fail
      refine (lead_nil _).mono ?_
      rintro e w5 ⟨rfl, rfl⟩
      go_wp2_with fail
      refine (logs_nil _).mono ?_
      rintro e w5 ⟨rfl, rfl⟩
      go_wp2_with fail
      refine (code_any 15 (by omega) (by omega) _).mono ?_
      rintro e w5 ⟨rfl, rfl⟩
      go_wp2_with fail
      refine (code_any 15 (by omega) (by omega) _).mono ?_
      rintro e w5 ⟨rfl, rfl⟩
      go_wp2_with fail
      refine (ship_nil 1 _).mono ?_
      rintro e w5 ⟨rfl, rfl⟩
      go_wp2_with fail
      refine (code_any 15 (by omega) (by omega) _).mono ?_
      rintro e w5 ⟨rfl, rfl⟩
      go_wp2_with fail
      refine (fall_nil 0 _).mono ?_
      rintro e w5 ⟨rfl, rfl⟩
      go_wp2_with fail
      refine (code_any 15 (by omega) (by omega) _).mono ?_
      rintro e w5 ⟨rfl, rfl⟩
      go_wp2_with fail
      refine (rise_nil 0 _).mono ?_
      rintro e w5 ⟨rfl, rfl⟩
      go_wp2_with fail
      refine (code_any 15 (by omega) (by omega) _).mono ?_
      rintro e w5 ⟨rfl, rfl⟩
      go_wp2_with fail
      refine (settled_nil _).mono ?_
      rintro e w5 ⟨rfl, rfl⟩
      go_wp2_with fail
      refine (map_nil 0 _).mono ?_
      rintro e w5 ⟨rfl, rfl⟩
      go_wp2_with fail
      go_ret
      exact ⟨rfl, HB4.out⟩
end Go.Proofs.Ytigkcbnlbdiimaa
