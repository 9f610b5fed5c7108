/- TwinAlone: the walk. -/
import Derived.Test.YtigkcbnlbdiimaaTwinAlone
namespace Go.Proofs.Ytigkcbnlbdiimaa
open Go.RowKit
set_option maxRecDepth 100000 in
set_option maxHeartbeats 8000000 in
theorem alone_any (side : Bool) (ao : Option Addr) (n cap : Nat) (cs : List Cmd) (w : World) (hl : cs.length = n) (hn : n ≤ 60) (hA : 0 < n → ∃ b off, ao = some ⟨b, off, none⟩ ∧ b < w.heap.size ∧ CmdsAt w b off cs) :
    Calls Try.prog 9 #[.slice ao n cap, .bool side] w fun e w' => e = .returned (.bool true) ∧ Below w.heap.size w w' := by
  have HL := Lib.hid hl
  have HA := Lib.hid hA
  clear hl hA
  have hd60 : decide ((60 : Int) < (n : Int)) = false := by simp; omega
  have haf := alone_fall side
  have har := fun log => alone_rise side log
  have hbs := fun log => both_ship side log
  have haa := fun log c => alone_ask side log c
  obtain ⟨tm, htm⟩ : ∃ tm : Int, tm = (if side then 2 else 1) := ⟨_, rfl⟩
  simp only [← htm] at hbs haa
  obtain ⟨dn, hdn⟩ : ∃ dn : Int, dn = downI side := ⟨_, rfl⟩
  rw [← hdn] at haf har
  have HAF := Lib.hid haf
  have HAR := Lib.hid har
  have HBS := Lib.hid hbs
  have HAA := Lib.hid haa
  have HLD := Lib.hid (show ∀ log, (aloneP side log).ld = (if side then 1 else 0) ∧ (aloneP side log).term = tm from fun log => ⟨rfl, htm.symm⟩)
  clear haf har hbs haa
  cases side
  ·
    have htm' : tm = _ := htm
    have hdn' : dn = _ := hdn
    clear htm hdn
    simp only [downI, if_true, if_false, Bool.false_eq_true] at htm' hdn'
    have HDN := Lib.hid hdn'
    have HTM := Lib.hid htm'
    subst htm' hdn'
    go_enter Try.func9, Try.ntmps9
    go_wp2_with fail
    refine (alive20 _).mono ?_
    rintro e w1 ⟨rfl, hb1⟩
    have hz1 := hb1.size
    have HB1 := Lib.hid hb1
    clear hb1
    go_wp2_with fail
    refine (twin_new _).mono ?_
    rintro e w2 ⟨rfl, hm2, hb2⟩
    have h0 : PS w w2 w1.heap.size Pr.new :=
      ⟨_, _, ⟨hm2.blk, ownsRow_mono hm2.ra hz1, ownsRow_mono hm2.rb hz1, hz1, hm2.na, hm2.nb, hm2.ap⟩, HB1.out.trans (hb2.mono hz1)⟩
    have H0 := Lib.hid h0
    clear h0 hm2 hb2
    go_wp2_with fail
    refine (fall_ps w 0 _ Pr.new _ _ H0.out PrInv.new (by omega)).mono ?_
    rintro e w3 ⟨rfl, h3, -⟩
    rw [HAF.out.1] at h3
    rw [HAF.out.2]
    have H3 := Lib.hid h3
    clear h3
    go_wp2_with fail
    refine (lead_ps w _ _ _ H3.out).mono ?_
    rintro e w4 ⟨rfl, rfl⟩
    rw [(HLD.out []).1, (HLD.out []).2]
    go_wp2_with fail
    refine (code_any 0 (by omega) (by omega) _).mono ?_
    rintro e w5 ⟨rfl, rfl⟩
    go_wp2_with fail
    go_loopw [10, 11] (fun x i wr => ∃ (k : Nat) (xv : Value), k ≤ n ∧ i = .int .i64 k ∧ x = xv ∧ PS w wr w1.heap.size (aloneP false (cs.take k)) ∧ wr.ownsRow w.heap.size 128 6 xv (doAll [] (cs.take k)).length ((doAll [] (cs.take k)).flatMap Ent.row)) (fun _ i _ => n - (intOf i).toNat)
    case atStart => exact ⟨0, _, Nat.zero_le _, rfl, rfl, H3.out.later (by repeat (first | (with_reducible exact Below.refl _ _) | (with_reducible refine Below.setCell ?_ ?_ _) | (with_reducible refine Below.alloc ?_ ?_ _) | (with_reducible refine Below.drewN ?_ _) | (with_reducible refine Below.drew ?_) | (with_reducible exact Nat.le_refl _) | (focus (simp only [World.size_alloc, World.size_setCell, World.size_drew, World.size_drewN]; omega)) | omega | exact Nat.le_refl _ | (focus (simp; done)) | (focus (simp; omega)))), World.ownsRow_nil _ _ _ _⟩
    case round =>
      obtain ⟨i, x, hi, rfl, hx, hps, hown⟩ := hrel
      have hx' := hx.symm
      clear hx
      subst hx'
      have HPS := Lib.hid hps
      have HX := Lib.hid hown
      have hzr := hps.size
      have hlt0 := hps.lt
      clear hps hown
      by_cases hlt : i < n
      · obtain ⟨c, hc⟩ : ∃ c, cs[i]? = some c := ⟨_, List.getElem?_eq_getElem (by rw [HL.out]; exact hlt)⟩
        have HTK := Lib.hid (take_snoc_get cs i c hc)
        have hlog : (cs.take i).length = i := by rw [List.length_take, HL.out]; omega
        obtain ⟨b, off, rfl, hb, hC⟩ := HA.out (by omega)
        obtain ⟨q0, q1, q2, q3, q4, q5, q6, q7⟩ := hC i c hc
        have eb := fun o => HPS.out.below.cell (p := ⟨b, o, none⟩) hb
        have k0 := (eb _).trans q0
        have k1 := (eb _).trans q1
        have k2 := (eb _).trans q2
        have k3 := (eb _).trans q3
        have k4 := (eb _).trans q4
        have k5 := (eb _).trans q5
        have k6 := (eb _).trans q6
        have k7 := (eb _).trans q7
        have hbr : b < wr.heap.size := by omega
        clear hc hC q0 q1 q2 q3 q4 q5 q6 q7 eb
        obtain ⟨ls, hls⟩ : ∃ ls, ls = cs.take i := ⟨_, rfl⟩
        rw [← hls] at hlog
        have HLS := Lib.hid hls
        have HPS' := Lib.hid (show PS w wr w1.heap.size (aloneP false ls) by rw [hls]; exact HPS.out)
        have HX' := Lib.hid (show wr.ownsRow w.heap.size 128 6 x (doAll [] ls).length ((doAll [] ls).flatMap Ent.row) by rw [hls]; exact HX.out)
        clear HPS HX hls
        have hdl : (doAll [] ls).length ≤ 4096 := by have := doAll_le ls []; simp at this; omega
        have HDL := Lib.hid hdl
        have HLOG := Lib.hid hlog
        clear hdl hlog
        have HANS := Lib.hid (ans_last ls c i HLOG.out.symm)
        have HAL := Lib.hid (alone_ship false (ls ++ [c]) 1)
        have hkle := doK_le (doAll [] ls) c
        obtain ⟨nd, hnd⟩ : ∃ nd, doN (doAll [] ls) c = nd := ⟨_, rfl⟩
        obtain ⟨kd, hkd⟩ : ∃ kd : Nat, doK (doAll [] ls) c = kd := ⟨_, rfl⟩
        rw [hkd] at hkle
        have HND := Lib.hid hnd
        have HKD := Lib.hid hkd
        clear hnd hkd
        obtain ⟨ck, cv, ce, cp, cn, c0, c1, c2⟩ := c
        have hi0 : (0 : Int) ≤ (i : Int) := by omega
        go_wp2_with fail
        refine (ask_ps w _ (aloneP false ls) _ ⟨ck, cv, ce, cp, cn, c0, c1, c2⟩ _ HPS'.out (by show ls.length ≤ _; have := HLOG.out; omega)).mono ?_
        rintro e w5 ⟨rfl, hp5, hst5⟩
        rw [(HAA.out ls ⟨ck, cv, ce, cp, cn, c0, c1, c2⟩).1] at hp5
        rw [(HAA.out ls ⟨ck, cv, ce, cp, cn, c0, c1, c2⟩).2.1, (HAA.out ls ⟨ck, cv, ce, cp, cn, c0, c1, c2⟩).2.2, HLOG.out]
        have H5 := Lib.hid hp5
        have HX5 := Lib.hid (hst5 _ _ _ _ _ _ (by decide) (by decide) HX'.out)
        have hz5 := hp5.size
        have hlt5 := hp5.lt
        have eb := fun o => hp5.below.cell (p := ⟨b, o, none⟩) hb
        have eb0 := fun o => HPS'.out.below.cell (p := ⟨b, o, none⟩) hb
        have j0 := ((eb _).trans (eb0 _).symm).trans k0
        have j1 := ((eb _).trans (eb0 _).symm).trans k1
        have j2 := ((eb _).trans (eb0 _).symm).trans k2
        have j3 := ((eb _).trans (eb0 _).symm).trans k3
        have j4 := ((eb _).trans (eb0 _).symm).trans k4
        have j5 := ((eb _).trans (eb0 _).symm).trans k5
        have j6 := ((eb _).trans (eb0 _).symm).trans k6
        have j7 := ((eb _).trans (eb0 _).symm).trans k7
        have hb5 : b < w5.heap.size := by omega
        clear hp5 hst5 eb eb0
        go_wp2_with fail
        refine (ref_do_any w.heap.size x (doAll [] ls) ⟨ck, cv, ce, cp, cn, c0, c1, c2⟩ _ HX5.out HDL.out (by omega)).mono ?_
        rintro e w6 ⟨v6, rfl, hr6, hb6⟩
        rw [HND.out, HKD.out]
        have H6 := Lib.hid (H5.out.later hb6)
        have HX6 := Lib.hid hr6
        have hz6 := hb6.size
        clear hr6 hb6
        go_wp2_with fail
        refine (answer_ps w _ _ i _ H6.out (by simp [aloneP]; have := HLOG.out; omega) (by simp [aloneP]) (by simp [aloneP]; have := HLOG.out; omega)).mono ?_
        rintro e w7 ⟨rfl, hb7⟩
        rw [show (aloneP false (ls ++ [⟨ck, cv, ce, cp, cn, c0, c1, c2⟩])).L.log = ls ++ [⟨ck, cv, ce, cp, cn, c0, c1, c2⟩] from rfl, HANS.out.1, HANS.out.2, HND.out, HKD.out]
        have H7 := Lib.hid (H6.out.later hb7)
        have HX7 := Lib.hid (ownsRow_below HX6.out hb7)
        have hz7 := hb7.size
        clear hb7
        go_wp2_with fail
        refine (code_any 0 (by omega) (by omega) _).mono ?_
        rintro e w8 ⟨rfl, rfl⟩
        go_wp2_with fail
        refine (settled_ps w _ _ _ H7.out).mono ?_
        rintro e w9 ⟨rfl, rfl⟩
        rw [show (aloneP false (ls ++ [⟨ck, cv, ce, cp, cn, c0, c1, c2⟩])).settled = (i : Int) + 1 by simp [aloneP]; have := HLOG.out; omega]
        go_wp2_with fail
        refine (code_any _ (by omega) (by omega) _).mono ?_
        rintro e w10 ⟨rfl, rfl⟩
        go_wp2_with fail
        refine (ship_ps2 w 100 _ _ _ _ H7.out (alone_inv false _ (by simp; have := HLOG.out; omega)) (by omega)).mono ?_
        rintro e w11 ⟨rfl, hp11, hst11⟩
        rw [HAL.out.2] at hp11
        rw [HAL.out.1]
        have H11 := Lib.hid hp11
        have HX11 := Lib.hid (hst11 _ _ _ _ _ _ (by decide) (by decide) HX7.out)
        clear hp11 hst11
        go_wp2_with fail
        refine (code_any 12 (by omega) (by omega) _).mono ?_
        rintro e w12 ⟨rfl, rfl⟩
        go_wp2_with fail
        go_roundw
        case rel =>
          have hs : cs.take (i + 1) = ls ++ [⟨ck, cv, ce, cp, cn, c0, c1, c2⟩] := by rw [HTK.out, HLS.out]
          refine ⟨i + 1, v6, by omega, by go_num, rfl, ?_, ?_⟩
          · rw [hs]; exact H11.out
          · rw [hs, doAll_snoc]; exact HX11.out
        case measure => simp [intOf]; omega
      · have hin : i = n := by omega
        have hcs : cs.take i = cs := List.take_of_length_le (by rw [HL.out]; omega)
        have HPS' := Lib.hid (show PS w wr w1.heap.size (aloneP false cs) by rw [← hcs]; exact HPS.out)
        have HX' := Lib.hid (show wr.ownsRow w.heap.size 128 6 x (doAll [] cs).length ((doAll [] cs).flatMap Ent.row) by rw [← hcs]; exact HX.out)
        clear HPS HX hcs
        have HDL := Lib.hid (show (doAll [] cs).length ≤ 4096 by have := doAll_le cs []; rw [HL.out] at this; simp at this; omega)
        have HGD := Lib.hid (good_log cs (by rw [HL.out]; omega))
        have HCL := Lib.hid (show cs.length ≤ 100 by rw [HL.out]; omega)
        go_wp2_with fail
        refine (rise_ps2 w 100 _ (aloneP false cs) _ _ HPS'.out (alone_inv false _ HCL.out) (by omega)).mono ?_
        rintro e w5 ⟨rfl, hp5, hst5⟩
        rw [(HAR.out cs).1] at hp5
        rw [(HAR.out cs).2]
        have H5 := Lib.hid hp5
        have HX5 := Lib.hid (hst5 _ _ _ _ _ _ (by decide) (by decide) HX'.out)
        clear hp5 hst5
        go_wp2_with fail
        refine (logs_ps w _ _ _ H5.out).mono ?_
        rintro e w6 ⟨rfl, rfl⟩
        rw [show (bothP false cs).a.log = cs from rfl, show (bothP false cs).b.log = cs from rfl]
        go_wp2_with fail
        refine (code_any 0 (by omega) (by omega) _).mono ?_
        rintro e w7 ⟨rfl, rfl⟩
        go_wp2_with fail
        refine (map_1 w _ _ _ (H5.out.later (by repeat (first | (with_reducible exact Below.refl _ _) | (with_reducible refine Below.setCell ?_ ?_ _) | (with_reducible refine Below.alloc ?_ ?_ _) | (with_reducible refine Below.drewN ?_ _) | (with_reducible refine Below.drew ?_) | (with_reducible exact Nat.le_refl _) | (focus (simp only [World.size_alloc, World.size_setCell, World.size_drew, World.size_drewN]; omega)) | omega | exact Nat.le_refl _ | (focus (simp; done)) | (focus (simp; omega))))) (by show cs.length ≤ _; have := HCL.out; omega)).mono ?_
        rintro e w10 ⟨rfl, ⟨v10, hm10⟩, hb10⟩
        have H10 := Lib.hid (PS.later (PS.later H5.out (by repeat (first | (with_reducible exact Below.refl _ _) | (with_reducible refine Below.setCell ?_ ?_ _) | (with_reducible refine Below.alloc ?_ ?_ _) | (with_reducible refine Below.drewN ?_ _) | (with_reducible refine Below.drew ?_) | (with_reducible exact Nat.le_refl _) | (focus (simp only [World.size_alloc, World.size_setCell, World.size_drew, World.size_drewN]; omega)) | omega | exact Nat.le_refl _ | (focus (simp; done)) | (focus (simp; omega))))) hb10)
        have HX10 := Lib.hid (ownsRow_below (ownsRow_below HX5.out (by repeat (first | (with_reducible exact Below.refl _ _) | (with_reducible refine Below.setCell ?_ ?_ _) | (with_reducible refine Below.alloc ?_ ?_ _) | (with_reducible refine Below.drewN ?_ _) | (with_reducible refine Below.drew ?_) | (with_reducible exact Nat.le_refl _) | (focus (simp only [World.size_alloc, World.size_setCell, World.size_drew, World.size_drewN]; omega)) | omega | exact Nat.le_refl _ | (focus (simp; done)) | (focus (simp; omega))))) hb10)
        have HM10 := Lib.hid (show MapAt w10 _ _ v10 (doAll [] cs) from hm10)
        clear hm10 hb10
        go_wp2_with fail
        refine (bytes_log cs _ _ _ _ HM10.out (by have := HCL.out; omega)).mono ?_
        rintro e w11 ⟨v11, rfl, hr11, hb11⟩
        have HR11 := Lib.hid hr11
        have H11 := Lib.hid (H10.out.later hb11)
        have HX11 := Lib.hid (ownsRow_below HX10.out hb11)
        clear hr11 hb11
        go_wp2_with fail
        refine (ref_bytes _ _ (doAll [] cs) _ _ HX11.out HDL.out HGD.out (by have := HCL.out; omega)).mono ?_
        rintro e w12 ⟨v12, rfl, ho12, hb12⟩
        have HR12 := Lib.hid (reads_of_owns ho12)
        have HR13 := Lib.hid (HR11.out.below hb12)
        have H12 := Lib.hid (H11.out.later hb12)
        clear ho12 hb12
        go_wp2_with fail
        refine (same_any _ _ _ _ _ HR13.out HR12.out).mono ?_
        rintro e w15 ⟨rfl, hb15⟩
        rw [decide_eq_true (rfl : mapBytes (doAll [] cs) = mapBytes (doAll [] cs))]
        have H15 := Lib.hid (H12.out.later hb15)
        clear hb15
        go_wp2_with fail
        refine (ship_ps2 w 100 _ _ _ _ H15.out (both_inv false _ HCL.out) (by omega)).mono ?_
        rintro e w16 ⟨rfl, h16, -⟩
        rw [HBS.out cs]
        have HB16 := Lib.hid h16.below
        clear h16
        go_wp2_with fail
        refine (code_any 6 (by omega) (by omega) _).mono ?_
        rintro e w17 ⟨rfl, rfl⟩
        go_wp2_with fail
        go_ret
        exact ⟨rfl, HB16.out⟩
  ·
    have htm' : tm = _ := htm
    have hdn' : dn = _ := hdn
    clear htm hdn
    simp only [downI, if_true, if_false, Bool.false_eq_true] at htm' hdn'
    have HDN := Lib.hid hdn'
    have HTM := Lib.hid htm'
    subst htm' hdn'
    go_enter Try.func9, Try.ntmps9
    go_wp2_with fail
    refine (alive20 _).mono ?_
    rintro e w1 ⟨rfl, hb1⟩
    have hz1 := hb1.size
    have HB1 := Lib.hid hb1
    clear hb1
    go_wp2_with fail
    refine (twin_new _).mono ?_
    rintro e w2 ⟨rfl, hm2, hb2⟩
    have h0 : PS w w2 w1.heap.size Pr.new :=
      ⟨_, _, ⟨hm2.blk, ownsRow_mono hm2.ra hz1, ownsRow_mono hm2.rb hz1, hz1, hm2.na, hm2.nb, hm2.ap⟩, HB1.out.trans (hb2.mono hz1)⟩
    have H0 := Lib.hid h0
    clear h0 hm2 hb2
    go_wp2_with fail
    refine (fall_ps w 0 _ Pr.new _ _ H0.out PrInv.new (by omega)).mono ?_
    rintro e w3 ⟨rfl, h3, -⟩
    rw [HAF.out.1] at h3
    rw [HAF.out.2]
    have H3 := Lib.hid h3
    clear h3
    go_wp2_with fail
    refine (lead_ps w _ _ _ H3.out).mono ?_
    rintro e w4 ⟨rfl, rfl⟩
    rw [(HLD.out []).1, (HLD.out []).2]
    go_wp2_with fail
    refine (code_any 0 (by omega) (by omega) _).mono ?_
    rintro e w5 ⟨rfl, rfl⟩
    go_wp2_with fail
    go_loopw [10, 11] (fun x i wr => ∃ (k : Nat) (xv : Value), k ≤ n ∧ i = .int .i64 k ∧ x = xv ∧ PS w wr w1.heap.size (aloneP true (cs.take k)) ∧ wr.ownsRow w.heap.size 128 6 xv (doAll [] (cs.take k)).length ((doAll [] (cs.take k)).flatMap Ent.row)) (fun _ i _ => n - (intOf i).toNat)
    case atStart => exact ⟨0, _, Nat.zero_le _, rfl, rfl, H3.out.later (by repeat (first | (with_reducible exact Below.refl _ _) | (with_reducible refine Below.setCell ?_ ?_ _) | (with_reducible refine Below.alloc ?_ ?_ _) | (with_reducible refine Below.drewN ?_ _) | (with_reducible refine Below.drew ?_) | (with_reducible exact Nat.le_refl _) | (focus (simp only [World.size_alloc, World.size_setCell, World.size_drew, World.size_drewN]; omega)) | omega | exact Nat.le_refl _ | (focus (simp; done)) | (focus (simp; omega)))), World.ownsRow_nil _ _ _ _⟩
    case round =>
      obtain ⟨i, x, hi, rfl, hx, hps, hown⟩ := hrel
      have hx' := hx.symm
      clear hx
      subst hx'
      have HPS := Lib.hid hps
      have HX := Lib.hid hown
      have hzr := hps.size
      have hlt0 := hps.lt
      clear hps hown
      by_cases hlt : i < n
      · obtain ⟨c, hc⟩ : ∃ c, cs[i]? = some c := ⟨_, List.getElem?_eq_getElem (by rw [HL.out]; exact hlt)⟩
        have HTK := Lib.hid (take_snoc_get cs i c hc)
        have hlog : (cs.take i).length = i := by rw [List.length_take, HL.out]; omega
        obtain ⟨b, off, rfl, hb, hC⟩ := HA.out (by omega)
        obtain ⟨q0, q1, q2, q3, q4, q5, q6, q7⟩ := hC i c hc
        have eb := fun o => HPS.out.below.cell (p := ⟨b, o, none⟩) hb
        have k0 := (eb _).trans q0
        have k1 := (eb _).trans q1
        have k2 := (eb _).trans q2
        have k3 := (eb _).trans q3
        have k4 := (eb _).trans q4
        have k5 := (eb _).trans q5
        have k6 := (eb _).trans q6
        have k7 := (eb _).trans q7
        have hbr : b < wr.heap.size := by omega
        clear hc hC q0 q1 q2 q3 q4 q5 q6 q7 eb
        obtain ⟨ls, hls⟩ : ∃ ls, ls = cs.take i := ⟨_, rfl⟩
        rw [← hls] at hlog
        have HLS := Lib.hid hls
        have HPS' := Lib.hid (show PS w wr w1.heap.size (aloneP true ls) by rw [hls]; exact HPS.out)
        have HX' := Lib.hid (show wr.ownsRow w.heap.size 128 6 x (doAll [] ls).length ((doAll [] ls).flatMap Ent.row) by rw [hls]; exact HX.out)
        clear HPS HX hls
        have hdl : (doAll [] ls).length ≤ 4096 := by have := doAll_le ls []; simp at this; omega
        have HDL := Lib.hid hdl
        have HLOG := Lib.hid hlog
        clear hdl hlog
        have HANS := Lib.hid (ans_last ls c i HLOG.out.symm)
        have HAL := Lib.hid (alone_ship true (ls ++ [c]) 2)
        have hkle := doK_le (doAll [] ls) c
        obtain ⟨nd, hnd⟩ : ∃ nd, doN (doAll [] ls) c = nd := ⟨_, rfl⟩
        obtain ⟨kd, hkd⟩ : ∃ kd : Nat, doK (doAll [] ls) c = kd := ⟨_, rfl⟩
        rw [hkd] at hkle
        have HND := Lib.hid hnd
        have HKD := Lib.hid hkd
        clear hnd hkd
        obtain ⟨ck, cv, ce, cp, cn, c0, c1, c2⟩ := c
        have hi0 : (0 : Int) ≤ (i : Int) := by omega
        go_wp2_with fail
        refine (ask_ps w _ (aloneP true ls) _ ⟨ck, cv, ce, cp, cn, c0, c1, c2⟩ _ HPS'.out (by show ls.length ≤ _; have := HLOG.out; omega)).mono ?_
        rintro e w5 ⟨rfl, hp5, hst5⟩
        rw [(HAA.out ls ⟨ck, cv, ce, cp, cn, c0, c1, c2⟩).1] at hp5
        rw [(HAA.out ls ⟨ck, cv, ce, cp, cn, c0, c1, c2⟩).2.1, (HAA.out ls ⟨ck, cv, ce, cp, cn, c0, c1, c2⟩).2.2, HLOG.out]
        have H5 := Lib.hid hp5
        have HX5 := Lib.hid (hst5 _ _ _ _ _ _ (by decide) (by decide) HX'.out)
        have hz5 := hp5.size
        have hlt5 := hp5.lt
        have eb := fun o => hp5.below.cell (p := ⟨b, o, none⟩) hb
        have eb0 := fun o => HPS'.out.below.cell (p := ⟨b, o, none⟩) hb
        have j0 := ((eb _).trans (eb0 _).symm).trans k0
        have j1 := ((eb _).trans (eb0 _).symm).trans k1
        have j2 := ((eb _).trans (eb0 _).symm).trans k2
        have j3 := ((eb _).trans (eb0 _).symm).trans k3
        have j4 := ((eb _).trans (eb0 _).symm).trans k4
        have j5 := ((eb _).trans (eb0 _).symm).trans k5
        have j6 := ((eb _).trans (eb0 _).symm).trans k6
        have j7 := ((eb _).trans (eb0 _).symm).trans k7
        have hb5 : b < w5.heap.size := by omega
        clear hp5 hst5 eb eb0
        go_wp2_with fail
        refine (ref_do_any w.heap.size x (doAll [] ls) ⟨ck, cv, ce, cp, cn, c0, c1, c2⟩ _ HX5.out HDL.out (by omega)).mono ?_
        rintro e w6 ⟨v6, rfl, hr6, hb6⟩
        rw [HND.out, HKD.out]
        have H6 := Lib.hid (H5.out.later hb6)
        have HX6 := Lib.hid hr6
        have hz6 := hb6.size
        clear hr6 hb6
        go_wp2_with fail
        refine (answer_ps w _ _ i _ H6.out (by simp [aloneP]; have := HLOG.out; omega) (by simp [aloneP]) (by simp [aloneP]; have := HLOG.out; omega)).mono ?_
        rintro e w7 ⟨rfl, hb7⟩
        rw [show (aloneP true (ls ++ [⟨ck, cv, ce, cp, cn, c0, c1, c2⟩])).L.log = ls ++ [⟨ck, cv, ce, cp, cn, c0, c1, c2⟩] from rfl, HANS.out.1, HANS.out.2, HND.out, HKD.out]
        have H7 := Lib.hid (H6.out.later hb7)
        have HX7 := Lib.hid (ownsRow_below HX6.out hb7)
        have hz7 := hb7.size
        clear hb7
        go_wp2_with fail
        refine (code_any 0 (by omega) (by omega) _).mono ?_
        rintro e w8 ⟨rfl, rfl⟩
        go_wp2_with fail
        refine (settled_ps w _ _ _ H7.out).mono ?_
        rintro e w9 ⟨rfl, rfl⟩
        rw [show (aloneP true (ls ++ [⟨ck, cv, ce, cp, cn, c0, c1, c2⟩])).settled = (i : Int) + 1 by simp [aloneP]; have := HLOG.out; omega]
        go_wp2_with fail
        refine (code_any _ (by omega) (by omega) _).mono ?_
        rintro e w10 ⟨rfl, rfl⟩
        go_wp2_with fail
        refine (ship_ps2 w 100 _ _ _ _ H7.out (alone_inv true _ (by simp; have := HLOG.out; omega)) (by omega)).mono ?_
        rintro e w11 ⟨rfl, hp11, hst11⟩
        rw [HAL.out.2] at hp11
        rw [HAL.out.1]
        have H11 := Lib.hid hp11
        have HX11 := Lib.hid (hst11 _ _ _ _ _ _ (by decide) (by decide) HX7.out)
        clear hp11 hst11
        go_wp2_with fail
        refine (code_any 12 (by omega) (by omega) _).mono ?_
        rintro e w12 ⟨rfl, rfl⟩
        go_wp2_with fail
        go_roundw
        case rel =>
          have hs : cs.take (i + 1) = ls ++ [⟨ck, cv, ce, cp, cn, c0, c1, c2⟩] := by rw [HTK.out, HLS.out]
          refine ⟨i + 1, v6, by omega, by go_num, rfl, ?_, ?_⟩
          · rw [hs]; exact H11.out
          · rw [hs, doAll_snoc]; exact HX11.out
        case measure => simp [intOf]; omega
      · have hin : i = n := by omega
        have hcs : cs.take i = cs := List.take_of_length_le (by rw [HL.out]; omega)
        have HPS' := Lib.hid (show PS w wr w1.heap.size (aloneP true cs) by rw [← hcs]; exact HPS.out)
        have HX' := Lib.hid (show wr.ownsRow w.heap.size 128 6 x (doAll [] cs).length ((doAll [] cs).flatMap Ent.row) by rw [← hcs]; exact HX.out)
        clear HPS HX hcs
        have HDL := Lib.hid (show (doAll [] cs).length ≤ 4096 by have := doAll_le cs []; rw [HL.out] at this; simp at this; omega)
        have HGD := Lib.hid (good_log cs (by rw [HL.out]; omega))
        have HCL := Lib.hid (show cs.length ≤ 100 by rw [HL.out]; omega)
        go_wp2_with fail
        refine (rise_ps2 w 100 _ (aloneP true cs) _ _ HPS'.out (alone_inv true _ HCL.out) (by omega)).mono ?_
        rintro e w5 ⟨rfl, hp5, hst5⟩
        rw [(HAR.out cs).1] at hp5
        rw [(HAR.out cs).2]
        have H5 := Lib.hid hp5
        have HX5 := Lib.hid (hst5 _ _ _ _ _ _ (by decide) (by decide) HX'.out)
        clear hp5 hst5
        go_wp2_with fail
        refine (logs_ps w _ _ _ H5.out).mono ?_
        rintro e w6 ⟨rfl, rfl⟩
        rw [show (bothP true cs).a.log = cs from rfl, show (bothP true cs).b.log = cs from rfl]
        go_wp2_with fail
        refine (code_any 0 (by omega) (by omega) _).mono ?_
        rintro e w7 ⟨rfl, rfl⟩
        go_wp2_with fail
        refine (map_0 w _ _ _ (H5.out.later (by repeat (first | (with_reducible exact Below.refl _ _) | (with_reducible refine Below.setCell ?_ ?_ _) | (with_reducible refine Below.alloc ?_ ?_ _) | (with_reducible refine Below.drewN ?_ _) | (with_reducible refine Below.drew ?_) | (with_reducible exact Nat.le_refl _) | (focus (simp only [World.size_alloc, World.size_setCell, World.size_drew, World.size_drewN]; omega)) | omega | exact Nat.le_refl _ | (focus (simp; done)) | (focus (simp; omega))))) (by show cs.length ≤ _; have := HCL.out; omega)).mono ?_
        rintro e w10 ⟨rfl, ⟨v10, hm10⟩, hb10⟩
        have H10 := Lib.hid (PS.later (PS.later H5.out (by repeat (first | (with_reducible exact Below.refl _ _) | (with_reducible refine Below.setCell ?_ ?_ _) | (with_reducible refine Below.alloc ?_ ?_ _) | (with_reducible refine Below.drewN ?_ _) | (with_reducible refine Below.drew ?_) | (with_reducible exact Nat.le_refl _) | (focus (simp only [World.size_alloc, World.size_setCell, World.size_drew, World.size_drewN]; omega)) | omega | exact Nat.le_refl _ | (focus (simp; done)) | (focus (simp; omega))))) hb10)
        have HX10 := Lib.hid (ownsRow_below (ownsRow_below HX5.out (by repeat (first | (with_reducible exact Below.refl _ _) | (with_reducible refine Below.setCell ?_ ?_ _) | (with_reducible refine Below.alloc ?_ ?_ _) | (with_reducible refine Below.drewN ?_ _) | (with_reducible refine Below.drew ?_) | (with_reducible exact Nat.le_refl _) | (focus (simp only [World.size_alloc, World.size_setCell, World.size_drew, World.size_drewN]; omega)) | omega | exact Nat.le_refl _ | (focus (simp; done)) | (focus (simp; omega))))) hb10)
        have HM10 := Lib.hid (show MapAt w10 _ _ v10 (doAll [] cs) from hm10)
        clear hm10 hb10
        go_wp2_with fail
        refine (bytes_log cs _ _ _ _ HM10.out (by have := HCL.out; omega)).mono ?_
        rintro e w11 ⟨v11, rfl, hr11, hb11⟩
        have HR11 := Lib.hid hr11
        have H11 := Lib.hid (H10.out.later hb11)
        have HX11 := Lib.hid (ownsRow_below HX10.out hb11)
        clear hr11 hb11
        go_wp2_with fail
        refine (ref_bytes _ _ (doAll [] cs) _ _ HX11.out HDL.out HGD.out (by have := HCL.out; omega)).mono ?_
        rintro e w12 ⟨v12, rfl, ho12, hb12⟩
        have HR12 := Lib.hid (reads_of_owns ho12)
        have HR13 := Lib.hid (HR11.out.below hb12)
        have H12 := Lib.hid (H11.out.later hb12)
        clear ho12 hb12
        go_wp2_with fail
        refine (same_any _ _ _ _ _ HR13.out HR12.out).mono ?_
        rintro e w15 ⟨rfl, hb15⟩
        rw [decide_eq_true (rfl : mapBytes (doAll [] cs) = mapBytes (doAll [] cs))]
        have H15 := Lib.hid (H12.out.later hb15)
        clear hb15
        go_wp2_with fail
        refine (ship_ps2 w 100 _ _ _ _ H15.out (both_inv true _ HCL.out) (by omega)).mono ?_
        rintro e w16 ⟨rfl, h16, -⟩
        rw [HBS.out cs]
        have HB16 := Lib.hid h16.below
        clear h16
        go_wp2_with fail
        refine (code_any 6 (by omega) (by omega) _).mono ?_
        rintro e w17 ⟨rfl, rfl⟩
        go_wp2_with fail
        go_ret
        exact ⟨rfl, HB16.out⟩
end Go.Proofs.Ytigkcbnlbdiimaa
