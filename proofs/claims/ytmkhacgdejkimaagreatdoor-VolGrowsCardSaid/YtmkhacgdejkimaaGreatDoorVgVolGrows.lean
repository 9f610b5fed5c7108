/- Law VolGrows: the walk. -/
import Derived.Test.YtmkhacgdejkimaaGreatDoorVgVol9Alive
import Derived.Test.YtmkhacgdejkimaaGreatDoorVg10
import Derived.Test.YtmkhacgdejkimaaGreatDoorVg22
import Derived.Test.YtmkhacgdejkimaaGreatDoorVg16
import Derived.Test.YtmkhacgdejkimaaGreatDoorVg23
namespace Go.Proofs.YtmkhacgdejkimaaGreatDoor
set_option maxRecDepth 100000
set_option maxHeartbeats 8000000
open Go.RowKit
theorem VI.pos_le {d : Dk} {v : Vl} {ns : List Nd} (h : VI d v ns) (hm : v.most ≤ 16777216) : ∀ p ∈ v.idx, p.len ≤ 4096 ∧ p.off ≤ 1000000000 := fun p hp => by
  obtain ⟨h1, h2⟩ := h.len_le hp
  exact ⟨h1, by have := h.most; omega⟩
theorem volGrows_walk (mo : Nat) (hmo : mo ≤ 65535) (a : Option Addr) (len cap : Nat) (l : List ActE) (w : World) (hl : l.length = len) (hr : Reads w 6 (.slice a len cap) len (l.flatMap ActE.cs)) (ho : ∀ x ∈ l, ActArg w x) :
    Calls Tryz.prog 7 #[.int .u16 mo, .slice a len cap] w fun e w' => e = .returned (.bool true) ∧ Below w.heap.size w w' := by
  have HL := Lib.hid hl
  have HR := Lib.hid hr
  have HO := Lib.hid ho
  obtain ⟨n, hn⟩ : ∃ n : Nat, n = 16 + mo := ⟨_, rfl⟩
  have hnb : n ≤ 65551 := by omega
  have hcv : IntKind.i64.wrap (mo : Int) = (mo : Int) := by rw [IntKind.wrap_i64]; omega
  have HADD := Lib.hid (show (16 : Int) + (mo : Int) = (n : Int) by omega)
  have hmo2 : (mo : Int) ≤ 65535 := by omega
  have hmo0 : (0 : Int) ≤ (mo : Int) := by omega
  have HN5 := Lib.hid (namesAt9 (v := 5) (g := 1) (by omega) (by omega))
  obtain ⟨d0, hmk, hvd0⟩ := VD.make (num := 5) (most := n) (epoch := 0) (by omega) (by omega) (by omega) (by omega)
  have HVD0 := Lib.hid hvd0
  have HMK := Lib.hid (fun (w1 : World) (dp : Nat) (P : Nat → Prop) (h : DS w1 dp P 0 (Dk.new 1048576)) (hP : ∀ k, P k → k < w1.heap.size) => make_ds h hP (by omega) 5 n 0 (by omega) ⟨by omega, by omega⟩ (by omega) HN5.out (long_names (by omega)))
  rw [hmk] at HMK
  unfold MadeV at HMK
  clear hl hr ho hmk hvd0 hn
  go_enter Tryz.func7, Tryz.ntmps7
  go_wp2_with fail
  refine (alive09 w).mono ?_
  rintro e w1 ⟨rfl, hb⟩
  have HB1 := Lib.hid hb
  have hz1 := hb.size
  clear hb
  go_wp2_with fail
  refine (far9_any a len cap l w1 HL.out (HR.out.below HB1.out)).mono ?_
  rintro e wx ⟨rfl, rfl⟩
  cases hfa : far9 l
  case true =>
    go_wp2_with fail
    go_ret
    exact ⟨rfl, HB1.out⟩
  have HFA := Lib.hid (far9_no hfa)
  clear hfa
  have h60 : len ≤ 60 := by have := HFA.out.1; have := HL.out; omega
  go_wp2_with fail
  refine (new_ds 1048576 (by omega) w1).mono ?_
  rintro e w2 ⟨rfl, hds, hb, hlt1⟩
  have HDS := Lib.hid hds
  have HB2 := Lib.hid (HB1.out.trans (hb.mono hz1))
  have hz2 := hb.size
  clear hds hb
  obtain ⟨dp, hdp⟩ : ∃ dp, dp = w1.heap.size + 2 := ⟨_, rfl⟩
  rw [← hdp] at HDS hlt1 ⊢
  clear hdp
  go_upto_region 7 with fail
  rw [HADD.out]
  go_wp2_with fail
  refine (show Calls Tryz.prog 32 #[(.pointer (some ⟨dp, 0, none⟩)), .int .i64 5, .int .i64 n, .int .i64 0] w2 _ from HMK.out w2 dp _ HDS.out (fun k hk => Nat.lt_of_lt_of_le hk hz2)).mono ?_
  rintro e w3 hmd
  obtain ⟨_, vp, rfl, hvt⟩ | ⟨h, _⟩ := hmd
  case inr => exact absurd rfl h
  have HVS := Lib.hid (hvt.1.less (fun k hk => Nat.lt_of_lt_of_le hk hz1) : VS w3 vp dp (fun k => k < w.heap.size) _ _ _)
  have HB3 := Lib.hid (HB2.out.trans (hvt.2.below (B := w.heap.size) (Nat.le_trans hz1 hz2) (fun k hk => Nat.lt_of_lt_of_le hk hz1)))
  clear hvt
  have hz3 := HB3.out.size
  go_wp2_with fail
  go_loopw [10] (fun i wr => ∃ (k : Nat) (d : Dk) (v : Vl) (ns : List Nd), k ≤ len ∧ i = .int .i64 k ∧ VS wr vp dp (fun k => k < w.heap.size) (5 + 4 * k) d v ∧ VI d v ns ∧ v.num = 5 ∧ v.most = n ∧ Below w.heap.size w wr) (fun i _ => len - (intOf i).toNat)
  case atStart => exact ⟨0, d0, _, [], Nat.zero_le _, rfl, HVS.out, HVD0.out.vi, rfl, rfl, HB3.out⟩
  case round =>
    obtain ⟨k, d, v, ns, hk, rfl, hvs, hvi, hnum, hmost, hbr⟩ := hrel
    have HVSR := Lib.hid hvs
    have HVI := Lib.hid hvi
    have HNUM := Lib.hid hnum
    have HMOST := Lib.hid hmost
    have HBR := Lib.hid hbr
    have hzr := hbr.size
    clear hvs hvi hnum hmost hbr
    have hk0 : (0 : Int) ≤ (k : Int) := by omega
    by_cases hlt : k < len
    · obtain ⟨x, hx⟩ : ∃ x, l[k]? = some x := ⟨_, List.getElem?_eq_getElem (by rw [HL.out]; exact hlt)⟩
      obtain ⟨b, o, c', e, hblt, r0, r1, r2, r3, r4, r5⟩ := act9_cells (HR.out.below HBR.out) hx (by omega)
      obtain ⟨rfl, -, rfl⟩ := sl_inj e
      have hxa := HO.out x (List.mem_of_getElem? hx)
      have hx3 := HFA.out.2 x (List.mem_of_getElem? hx)
      have hnz : ndSize x.x.n.data.length ≤ 4128 := (ndSize_le (by omega)).2
      have hvsz : v.size ≤ 65551 := by have h1 := HVI.out.most; have h2 := HMOST.out; omega
      obtain ⟨d', v', ns', e1, e2, e3, e4, e5⟩ := HVI.out.act x.act hxa.nd.key hxa.nd.cookie (by show v.size + ndSize x.x.n.data.length + 56 ≤ _; omega)
      have hsh := HVI.out.shape x.act hxa.nd.key hxa.nd.cookie (by show v.size + ndSize x.x.n.data.length + 56 ≤ _; omega)
      rw [e1] at hsh
      simp only at hsh
      obtain ⟨g1, ⟨q, g2⟩, g3, g4, g5, g6, g7, g8, g9⟩ := hsh.grows HVI.out.srt
      have HDO := Lib.hid (fun (w0 : World) (hb : Below wr.heap.size wr w0) => ldo_any (P := fun j => j < w.heap.size ∨ (wr.heap.size ≤ j ∧ j < w0.heap.size)) x w0 (HVSR.out.later hb (fun j hj => hj.imp id (fun h => h.1))) (fun j hj => by have := hb.size; omega) (by omega) ((hxa.below HBR.out).nd.below hb) (by omega) (HVI.out.pos_le (by rw [HMOST.out]; omega)) (HVI.out.told _ _) (by rw [e1]; exact Rv.act_17 _ _))
      rw [e1] at HDO
      simp only at HDO
      obtain ⟨C, hC⟩ : ∃ C, C = ((Rv.of v ns).act x.act).1 := ⟨_, rfl⟩
      obtain ⟨GT, hGT⟩ : ∃ GT, GT = v.gotN d x.act := ⟨_, rfl⟩
      obtain ⟨GK, hGK⟩ : ∃ GK, GK = v.gotK x.act := ⟨_, rfl⟩
      rw [← hC, ← hGT, ← hGK] at HDO
      rw [← hC] at g6
      clear hGT hGK hC
      have HG2 := Lib.hid g2
      have HG7 := Lib.hid g7
      have HG8 := Lib.hid g8
      have HG9 := Lib.hid g9
      clear g2 g7 g8 g9
      obtain ⟨ix, vx, hva, -⟩ := HVSR.out
      have HIF := Lib.hid (info_any hva)
      have HIF2 := Lib.hid (fun (w0 : World) (ix : Nat) (vx : Value) (hv0 : VolAt w0 vp dp ix vx v') => info_any hv0)
      have HVI2 := Lib.hid e2
      have HG6 := Lib.hid g6
      obtain ⟨LV, hLV⟩ : ∃ LV, LV = v.idx.length - goneN v.idx := ⟨_, rfl⟩
      obtain ⟨GN, hGN⟩ : ∃ GN, GN = goneN v.idx := ⟨_, rfl⟩
      obtain ⟨LV', hLV'⟩ : ∃ LV', LV' = v'.idx.length - goneN v'.idx := ⟨_, rfl⟩
      obtain ⟨GN', hGN'⟩ : ∃ GN', GN' = goneN v'.idx := ⟨_, rfl⟩
      obtain ⟨xk, xm, ⟨xn, xa, xc⟩⟩ := x
      obtain ⟨nk, nc, ng, nd⟩ := xn
      simp only at r0 r1 r2 r3 r4 r5
      unfold infoV at HIF
      rw [← hLV, ← hGN] at HIF
      have hf4 : LV + GN ≤ LV' + GN' := by
        have h1 := goneN_le v.idx
        have h2 := goneN_le v'.idx
        omega
      have hf5 : GN ≤ GN' := by omega
      have HLV := Lib.hid hLV
      have HGN := Lib.hid hGN
      have HLV' := Lib.hid hLV'
      have HGN' := Lib.hid hGN'
      clear hLV hGN hLV' hGN'
      have hj1 : (k : Int) < (len : Int) := by omega
      unfold infoV at HIF2
      go_wp2_with fail
      refine HIF.out.mono ?_
      rintro e w4 ⟨rfl, hb4⟩
      have HB4 := Lib.hid hb4
      have s0 := (hb4.cell hblt).trans r0
      have s1 := (hb4.cell hblt).trans r1
      have s2 := (hb4.cell hblt).trans r2
      have s3 := (hb4.cell hblt).trans r3
      have s4 := (hb4.cell hblt).trans r4
      have s5 := (hb4.cell hblt).trans r5
      have hbl4 : b < w4.heap.size := Nat.lt_of_lt_of_le hblt hb4.size
      clear r0 r1 r2 r3 r4 r5 hb4
      go_upto_region 12 with fail
      obtain ⟨w5, hw5⟩ : ∃ w5 : World, w5 = w4.alloc (.cells #[.int .i64 v.num, .int .i64 v.gen, .int .i64 v.epoch, .int .i64 v.size, .int .i64 LV, .int .i64 GN, .bool v.shut] 60) := ⟨_, rfl⟩
      have hb45 : Below w4.heap.size w4 w5 := by rw [hw5]; exact (by repeat (first | (with_reducible first | exact .refl _ _ | refine .setCell ?_ ?_ _ | refine .alloc ?_ ?_ _ | refine .drewN ?_ _ | refine .drew ?_ | exact Nat.le_refl _) | (focus (simp only [World.size_alloc, World.size_setCell, World.size_drew, World.size_drewN]; omega)) | omega | exact Nat.le_refl _ | (focus (simp; done)) | (focus (simp; omega))))
      have HB5 := Lib.hid (HB4.out.trans (hb45.mono HB4.out.size))
      have KW5 := Lib.hid (show w5.heap[w4.heap.size]? = some (.cells #[.int .i64 v.num, .int .i64 v.gen, .int .i64 v.epoch, .int .i64 v.size, .int .i64 LV, .int .i64 GN, .bool v.shut] 60 (0, 0)) by rw [hw5]; exact heap_new w4 _)
      have t0 := (hb45.cell hbl4).trans s0
      have t1 := (hb45.cell hbl4).trans s1
      have t2 := (hb45.cell hbl4).trans s2
      have t3 := (hb45.cell hbl4).trans s3
      have t4 := (hb45.cell hbl4).trans s4
      have t5 := (hb45.cell hbl4).trans s5
      rw [← hw5]
      clear hw5 hb45 s0 s1 s2 s3 s4 s5
      obtain ⟨WB, hWB⟩ : ∃ WB, WB = w4.heap.size := ⟨_, rfl⟩
      rw [← hWB] at KW5 ⊢
      have hwbl := blk_lt KW5.out
      have hwbg : w.heap.size ≤ WB := by have := HB4.out.size; omega
      have hwbr : wr.heap.size ≤ WB := by have := HB4.out.size; omega
      clear hWB
      have hbl5 : b < w5.heap.size := Nat.lt_of_lt_of_le hblt HB5.out.size
      have HD5 := Lib.hid (HDO.out w5 HB5.out)
      go_wp2_with fail
      refine (show Calls Tryz.prog 40 #[(.pointer (some ⟨vp, 0, none⟩)), .agg #[.int .i64 xk, .int .i64 xm, .int .u64 nk, .int .u32 nc, .bool ng, .slice xa nd.length xc]] w5 _ from HD5.out).mono ?_
      rintro e w6 ⟨vd, kv, rfl, hvt, hrv, -⟩
      obtain ⟨ad, dn, cd, rfl⟩ : ∃ ad dn cd, vd = .slice ad dn cd := by
        rcases hrv.2 with ⟨rfl, _⟩ | ⟨_, _, rfl, _⟩
        · exact ⟨_, _, _, rfl⟩
        · exact ⟨_, _, _, rfl⟩
      clear hrv
      have HV6 := Lib.hid hvt.1
      have hwz : w5.heap.size ≤ w6.heap.size := hvt.2.size
      have KW6 := Lib.hid (hvt.2.blk KW5.out (.inr ⟨hwbr, hwbl⟩))
      have HB6 := Lib.hid ((HBR.out.trans (HB5.out.mono hzr)).trans (hvt.2.below (B := w.heap.size) (by have := HB5.out.size; omega) (fun j hj => .inl hj)))
      clear hvt
      go_wp2_with fail
      obtain ⟨w7, hw7⟩ : ∃ w7 : World, w7 = w6.alloc (.cells #[.int .u64 GT.key, .int .u32 GT.cookie, .bool GT.gone, .slice ad dn cd] 93) := ⟨_, rfl⟩
      have hb67 : Below w6.heap.size w6 w7 := by rw [hw7]; exact (by repeat (first | (with_reducible first | exact .refl _ _ | refine .setCell ?_ ?_ _ | refine .alloc ?_ ?_ _ | refine .drewN ?_ _ | refine .drew ?_ | exact Nat.le_refl _) | (focus (simp only [World.size_alloc, World.size_setCell, World.size_drew, World.size_drewN]; omega)) | omega | exact Nat.le_refl _ | (focus (simp; done)) | (focus (simp; omega))))
      have HB7 := Lib.hid (HB6.out.trans (hb67.mono HB6.out.size))
      have HV7 := Lib.hid (HV6.out.below hb67)
      have KW7 := Lib.hid (blk_below' KW6.out hb67)
      rw [← hw7]
      clear hw7 hb67 t0 t1 t2 t3 t4 t5
      have HIN := Lib.hid (show Calls Tryz.prog 26 #[(.pointer (some ⟨vp, 0, none⟩))] w7 fun e w' => e = .returned (.agg #[.int .i64 v'.num, .int .i64 v'.gen, .int .i64 v'.epoch, .int .i64 v'.size, .int .i64 LV', .int .i64 GN', .bool v'.shut]) ∧ Below w7.heap.size w7 w' by
        obtain ⟨ix', vx', hva', -⟩ := HV7.out
        rw [HLV'.out, HGN'.out]
        exact HIF2.out w7 ix' vx' hva')
      refine HIN.out.mono ?_
      rintro e w8 ⟨rfl, hb8⟩
      have HB8 := Lib.hid (HB7.out.trans (hb8.mono HB7.out.size))
      have HV8 := Lib.hid (HV7.out.below hb8)
      have KW8 := Lib.hid (blk_below' KW7.out hb8)
      clear hb8
      go_upto_region 14 with fail
      obtain ⟨w9, hw9⟩ : ∃ w9 : World, w9 = w8.alloc (.cells #[.int .i64 v'.num, .int .i64 v'.gen, .int .i64 v'.epoch, .int .i64 v'.size, .int .i64 LV', .int .i64 GN', .bool v'.shut] 60) := ⟨_, rfl⟩
      have hb89 : Below w8.heap.size w8 w9 := by rw [hw9]; exact (by repeat (first | (with_reducible first | exact .refl _ _ | refine .setCell ?_ ?_ _ | refine .alloc ?_ ?_ _ | refine .drewN ?_ _ | refine .drew ?_ | exact Nat.le_refl _) | (focus (simp only [World.size_alloc, World.size_setCell, World.size_drew, World.size_drewN]; omega)) | omega | exact Nat.le_refl _ | (focus (simp; done)) | (focus (simp; omega))))
      have HB9 := Lib.hid (HB8.out.trans (hb89.mono HB8.out.size))
      have HV9 := Lib.hid (HV8.out.below hb89)
      have KW9 := Lib.hid (blk_below' KW8.out hb89)
      have KN9 := Lib.hid (show w9.heap[w8.heap.size]? = some (.cells #[.int .i64 v'.num, .int .i64 v'.gen, .int .i64 v'.epoch, .int .i64 v'.size, .int .i64 LV', .int .i64 GN', .bool v'.shut] 60 (0, 0)) by rw [hw9]; exact heap_new w8 _)
      rw [← hw9]
      clear hw9 hb89
      obtain ⟨p0, p1, p2, p3, p4, p5, p6⟩ := cells7' KW9.out
      obtain ⟨q0, q1, q2, q3, q4, q5, q6⟩ := cells7' KN9.out
      have hmx : v'.size ≤ n := by have h1 := HVI2.out.most; rw [HG9.out, HMOST.out] at h1; exact h1
      have hlb : LV ≤ 4096 ∧ GN ≤ 4096 := by
        obtain ⟨_, _, hva, -⟩ := HVSR.out
        have h1 := hva.idx.few
        have h2 := goneN_le v.idx
        have h3 := HLV.out
        have h4 := HGN.out
        omega
      have hlb' : LV' ≤ 4096 ∧ GN' ≤ 4096 := by
        obtain ⟨_, _, hva, -⟩ := HV9.out
        have h1 := hva.idx.few
        have h2 := goneN_le v'.idx
        have h3 := HLV'.out
        have h4 := HGN'.out
        omega
      obtain ⟨lb1, lb2⟩ := hlb
      obtain ⟨lb3, lb4⟩ := hlb'
      have m8 : ((v'.size : Int) - (v.size : Int)) % 8 = 0 := by rw [HG2.out]; omega
      have m8' : Int.tmod ((v'.size : Int) - (v.size : Int)) 8 = 0 := by
        rw [HG2.out, show ((v.size + 8 * q : Nat) : Int) - (v.size : Int) = 8 * (q : Int) by omega]
        exact Int.mul_tmod_right 8 _
      have d1 : decide ((v'.size : Int) < (v.size : Int)) = false := by simp; omega
      have d2 : decide ((n : Int) < (v'.size : Int)) = false := by simp; omega
      have d1' : decide (v'.size < v.size) = false := by simp; omega
      have d2' : decide (n < v'.size) = false := by simp; omega
      have d4 : decide ((LV' : Int) + (GN' : Int) < (LV : Int) + (GN : Int)) = false := by simp; omega
      have d5 : decide ((GN' : Int) < (GN : Int)) = false := by simp; omega
      have d5' : decide (GN' < GN) = false := by simp; omega
      have d6 : decide ((v'.epoch : Int) < (v.epoch : Int)) = false := by simp; omega
      have d6' : decide (v'.epoch < v.epoch) = false := by simp; omega
      go_upto_region 16 with fail
      clear m8 m8' d1 d2 d1' d2' d4 d5 d5' d6 d6' hf4 hf5 g1 g3 g4 g5
      have HREL := Lib.hid (show VS w9 vp dp (fun k => k < w.heap.size) (5 + 4 * (k + 1)) d' v' ∧ v'.num = 5 ∧ v'.most = n from ⟨(HV9.out.less (fun j hj => .inl hj)).more (by omega), by rw [HG7.out]; exact HNUM.out, by rw [HG9.out]; exact HMOST.out⟩)
      by_cases hC0 : C = 0
      · have c0 : ((C : Int) != 0) = false := by rw [hC0]; rfl
        clear hC0
        go_wp2_with fail
        go_roundw
        case rel => exact ⟨k + 1, d', v', ns', by omega, by go_num, HREL.out.1, HVI2.out, HREL.out.2.1, HREL.out.2.2, HB9.out⟩
        case measure => simp [intOf]; omega
      · have hvv : v' = v := HG6.out hC0
        have c0 : ((C : Int) != 0) = true := by simpa using hC0
        obtain rfl : LV' = LV := by rw [HLV'.out, HLV.out, hvv]
        obtain rfl : GN' = GN := by rw [HGN'.out, HGN.out, hvv]
        subst hvv
        clear hC0 g6
        go_wp2_with fail
        go_roundw
        case rel => exact ⟨k + 1, d', v', ns', by omega, by go_num, HREL.out.1, HVI2.out, HREL.out.2.1, HREL.out.2.2, HB9.out⟩
        case measure => simp [intOf]; omega
    · have hj1 : ¬ (k : Int) < (len : Int) := by omega
      have hj2 : decide ((k : Int) < (len : Int)) = false := by simp; omega
      have hj3 : decide (k < len) = false := by simp; omega
      go_wp2_with fail
      go_ret
      exact ⟨rfl, HBR.out⟩
end Go.Proofs.YtmkhacgdejkimaaGreatDoor
