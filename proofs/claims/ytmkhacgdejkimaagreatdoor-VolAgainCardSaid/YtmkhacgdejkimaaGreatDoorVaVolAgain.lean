/- Joined texts. -/
import Derived.Test.YtmkhacgdejkimaaGreatDoorVaVol9Alive
import Derived.Test.YtmkhacgdejkimaaGreatDoorVa10
import Derived.Test.YtmkhacgdejkimaaGreatDoorVa22
import Derived.Test.YtmkhacgdejkimaaGreatDoorVa16
import Derived.Test.YtmkhacgdejkimaaGreatDoorVa23
import Derived.Test.YtmkhacgdejkimaaGreatDoorVa25
namespace Go.Proofs.YtmkhacgdejkimaaGreatDoor
open Go.RowKit
theorem VI.pos_le {d : Dk} {v : Vl} {ns : List Nd} (h : VI d v ns) (hm : v.most ≤ 16777216) : ∀ p ∈ v.idx, p.len ≤ 4096 ∧ p.off ≤ 1000000000 := fun p hp => by
  obtain ⟨h1, h2⟩ := h.len_le hp
  exact ⟨h1, by have := h.most; omega⟩
end Go.Proofs.YtmkhacgdejkimaaGreatDoor
namespace Go.Proofs.YtmkhacgdejkimaaGreatDoor
set_option maxRecDepth 100000
set_option maxHeartbeats 8000000
open Go.RowKit
theorem volAgain_walk (a : Option Addr) (len cap : Nat) (l : List ActE) (w : World) (hl : l.length = len) (hr : Reads w 6 (.slice a len cap) len (l.flatMap ActE.cs)) (ho : ∀ x ∈ l, ActArg w x) :
    Calls Tryz.prog 6 #[.slice a len cap] w fun e w' => e = .returned (.bool true) ∧ Below w.heap.size w w' := by
  have HL := Lib.hid hl
  have HR := Lib.hid hr
  have HO := Lib.hid ho
  have HN5 := Lib.hid (namesAt9 (v := 5) (g := 1) (by omega) (by omega))
  obtain ⟨d0, hmk, hvd0⟩ := VD.make (num := 5) (most := 1048576) (epoch := 0) (by omega) (by omega) (by omega) (by omega)
  have HVD0 := Lib.hid hvd0
  have HMK := Lib.hid (fun (w1 : World) (dp : Nat) (P : Nat → Prop) (h : DS w1 dp P 0 (Dk.new 1048576)) (hP : ∀ k, P k → k < w1.heap.size) => make_ds h hP (by omega) 5 1048576 0 (by omega) ⟨by omega, by omega⟩ (by omega) HN5.out (long_names (by omega)))
  rw [hmk] at HMK
  unfold MadeV at HMK
  clear hl hr ho hmk hvd0
  go_enter Tryz.func6, Tryz.ntmps6
  go_wp2_with fail
  refine (alive09 w).mono ?_
  rintro e w1 ⟨rfl, hb⟩
  have HB1 := Lib.hid hb
  have hz1 := hb.size
  clear hb
  go_wp2_with fail
  refine (far9_any a len cap l w1 HL.out (HR.out.below HB1.out)).mono ?_
  rintro e wx ⟨rfl, rfl⟩
  cases hfa : far9 l
  case true =>
    go_wp2_with fail
    go_ret
    exact ⟨rfl, HB1.out⟩
  have HFA := Lib.hid (far9_no hfa)
  clear hfa
  have h60 : len ≤ 60 := by have := HFA.out.1; have := HL.out; omega
  go_wp2_with fail
  refine (new_ds 1048576 (by omega) w1).mono ?_
  rintro e w2 ⟨rfl, hds, hb, hlt1⟩
  have HDS := Lib.hid hds
  have HB2 := Lib.hid (HB1.out.trans (hb.mono hz1))
  have hz2 := hb.size
  clear hds hb
  obtain ⟨dp, hdp⟩ : ∃ dp, dp = w1.heap.size + 2 := ⟨_, rfl⟩
  rw [← hdp] at HDS hlt1 ⊢
  clear hdp
  go_wp2_with fail
  refine (show Calls Tryz.prog 32 #[(.pointer (some ⟨dp, 0, none⟩)), .int .i64 5, .int .i64 1048576, .int .i64 0] w2 _ from HMK.out w2 dp _ HDS.out (fun k hk => Nat.lt_of_lt_of_le hk hz2)).mono ?_
  rintro e w3 hmd
  obtain ⟨_, vp, rfl, hvt⟩ | ⟨h, _⟩ := hmd
  case inr => exact absurd rfl h
  have HVS := Lib.hid (hvt.1.less (fun k hk => Nat.lt_of_lt_of_le hk hz1) : VS w3 vp dp (fun k => k < w.heap.size) _ _ _)
  have HB3 := Lib.hid (HB2.out.trans (hvt.2.below (B := w.heap.size) (Nat.le_trans hz1 hz2) (fun k hk => Nat.lt_of_lt_of_le hk hz1)))
  clear hvt
  have hz3 := HB3.out.size
  go_wp2_with fail
  go_loopw [5, 7] (fun s i wr => ∃ (k vp : Nat) (d : Dk) (v : Vl) (ns : List Nd), k ≤ len ∧ s = (.pointer (some ⟨vp, 0, none⟩)) ∧ i = .int .i64 k ∧ VS wr vp dp (fun k => k < w.heap.size) (5 + 68 * k) d v ∧ VD d v ns ∧ v.num = 5 ∧ v.most = 1048576 ∧ v.size ≤ 16 + 336 * k ∧ ns.length ≤ k ∧ Below w.heap.size w wr) (fun _ i _ => len - (intOf i).toNat)
  case atStart => exact ⟨0, vp, d0, _, [], Nat.zero_le _, rfl, rfl, HVS.out, HVD0.out, rfl, rfl, Nat.le_refl _, Nat.le_refl _, HB3.out⟩
  case round =>
    obtain ⟨k, vp, d, v, ns, hk, rfl, rfl, hvs, hvd, hnum, hmost, hsz, hns, hbr⟩ := hrel
    have HVSR := Lib.hid hvs
    have HVD := Lib.hid hvd
    have HNUM := Lib.hid hnum
    have HMOST := Lib.hid hmost
    have HBR := Lib.hid hbr
    have hzr := hbr.size
    clear hvs hvd hnum hmost hbr
    have hk0 : (0 : Int) ≤ (k : Int) := by omega
    by_cases hlt : k < len
    · obtain ⟨x, hx⟩ : ∃ x, l[k]? = some x := ⟨_, List.getElem?_eq_getElem (by rw [HL.out]; exact hlt)⟩
      obtain ⟨b, o, c', e, hblt, r0, r1, r2, r3, r4, r5⟩ := act9_cells (HR.out.below HBR.out) hx (by omega)
      obtain ⟨rfl, -, rfl⟩ := sl_inj e
      have hxa := HO.out x (List.mem_of_getElem? hx)
      have hx3 := HFA.out.2 x (List.mem_of_getElem? hx)
      have hnz : ndSize x.x.n.data.length ≤ 336 := by unfold ndSize padN; omega
      obtain ⟨d', v', ns', e1, e2, e3, e4, e5⟩ := HVD.out.vi.act x.act hxa.nd.key hxa.nd.cookie (by show v.size + ndSize x.x.n.data.length + 56 ≤ _; omega)
      have hnum' : v'.num = v.num := by
        have := congrArg Rv.num e3
        rw [(Rv.act_keeps _ _).1] at this
        exact this
      have hmost' : v'.most = v.most := by
        have := congrArg Rv.most e3
        rw [(Rv.act_keeps _ _).2] at this
        exact this
      have HVD' := Lib.hid (HVD.out.act x.act (by show v.size + ndSize x.x.n.data.length + 56 ≤ _; omega) e1 e2 hnum')
      have HNUM' := Lib.hid (hnum'.trans HNUM.out)
      have HMOST' := Lib.hid (hmost'.trans HMOST.out)
      have hsz' : v'.size ≤ 16 + 336 * (k + 1) := by
        have h1 : v'.size ≤ v.size + ndSize x.x.n.data.length := e4
        omega
      have hns' : ns'.length ≤ k + 1 := by omega
      have hix' : v'.idx.length ≤ 100 := by have := e2.len; omega
      have HDO := Lib.hid (ldo_any x wr HVSR.out (fun j hj => Nat.lt_of_lt_of_le hj hzr) (by omega) (hxa.below HBR.out).nd (by omega) (HVD.out.vi.pos_le (by rw [HMOST.out]; omega)) (HVD.out.vi.told _ _) (by rw [e1]; exact Rv.act_17 _ _))
      rw [e1] at HDO
      simp only at HDO
      obtain ⟨C, hC⟩ : ∃ C, C = ((Rv.of v ns).act x.act).1 := ⟨_, rfl⟩
      obtain ⟨GT, hGT⟩ : ∃ GT, GT = v.gotN d x.act := ⟨_, rfl⟩
      obtain ⟨GK, hGK⟩ : ∃ GK, GK = v.gotK x.act := ⟨_, rfl⟩
      rw [← hC, ← hGT, ← hGK] at HDO
      clear hC hGT hGK e1 e2 e3 e4 e5 hnum' hmost' hxa hx hx3 hnz
      obtain ⟨xk, xm, ⟨xn, xa, xc⟩⟩ := x
      obtain ⟨nk, nc, ng, nd⟩ := xn
      simp only at r0 r1 r2 r3 r4 r5
      have hj1 : (k : Int) < (len : Int) := by omega
      go_wp2_with fail
      refine (show Calls Tryz.prog 40 #[(.pointer (some ⟨vp, 0, none⟩)), .agg #[.int .i64 xk, .int .i64 xm, .int .u64 nk, .int .u32 nc, .bool ng, .slice xa nd.length xc]] wr _ from HDO.out).mono ?_
      rintro e w6 ⟨vd, kv, rfl, hvt, -, -⟩
      obtain ⟨ix, vx, hva, hds, hft, hok⟩ := hvt.1
      have HVA := Lib.hid hva
      have HFT := Lib.hid hft
      have HB6 := Lib.hid (HBR.out.trans (hvt.2.below (B := w.heap.size) hzr (fun j hj => hj)))
      have hz6 := HB6.out.size
      have HPL := Lib.hid (show ∀ j, (j < w.heap.size ∨ VFoot vp ix vx j) → j < w6.heap.size from fun j hj => by
        rcases hj with hj | hj
        · omega
        · exact (hft j hj).2)
      have HOP := Lib.hid (reopen hds HPL.out (by omega) HVD'.out hok (by rw [HNUM'.out]; exact HN5.out) (by omega))
      rw [HNUM'.out, HMOST'.out] at HOP
      clear hvt hva hds hft hok r0 r1 r2 r3 r4 r5
      go_wp2_with fail
      refine (show Calls Tryz.prog 39 #[(.pointer (some ⟨dp, 0, none⟩)), .int .i64 5, .int .i64 1048576] w6 _ from HOP.out).mono ?_
      rintro e w7 ⟨vp2, rfl, hv7, -, hk7⟩
      have HV7 := Lib.hid hv7
      have HVA7 := Lib.hid (HVA.out.keeps hk7 (fun j hj e => e (.inr hj)))
      have HB7 := Lib.hid (HB6.out.trans (hk7.below (B := w.heap.size) hz6 (fun j hj => .inl hj)))
      have hz7 := HB7.out.size
      clear hv7 hk7 HOP
      obtain ⟨ix2, vx2, hva2, -, -, -⟩ := HV7.out
      have HVA2 := Lib.hid hva2
      clear hva2
      have hk0' : v'.keys 0 5000 = v'.idx := keys_zero v' (by omega) (by show v'.idx.length ≤ 5000; omega)
      have HK2 := Lib.hid (fun (w0 : World) (hb : Below w7.heap.size w7 w0) => keys_any (HVA2.out.below hb) 0 5000)
      have HK1 := Lib.hid (fun (w0 : World) (hb : Below w7.heap.size w7 w0) => keys_any (HVA7.out.below hb) 0 5000)
      have HI2 := Lib.hid (show Calls Tryz.prog 26 #[(.pointer (some ⟨vp2, 0, none⟩))] w7 fun e w' => e = .returned (infoV v') ∧ Below w7.heap.size w7 w' from info_any HVA2.out)
      have HI1 := Lib.hid (fun (w0 : World) (hb : Below w7.heap.size w7 w0) => show Calls Tryz.prog 26 #[(.pointer (some ⟨vp, 0, none⟩))] w0 fun e w' => e = .returned (infoV v') ∧ Below w0.heap.size w0 w' from info_any (HVA7.out.below hb))
      rw [hk0'] at HK1 HK2
      unfold infoV at HI1 HI2
      obtain ⟨IL, hIL⟩ : ∃ IL, IL = v'.idx.length := ⟨_, rfl⟩
      have HIL := Lib.hid hIL
      rw [← hIL] at HK1 HK2 HI1 HI2 hix'
      obtain ⟨LV, hLV⟩ : ∃ LV, LV = IL - goneN v'.idx := ⟨_, rfl⟩
      obtain ⟨GN, hGN⟩ : ∃ GN, GN = goneN v'.idx := ⟨_, rfl⟩
      rw [← hLV, ← hGN] at HI1 HI2
      clear hIL hLV hGN hk0'
      go_wp2_with fail
      refine (code0 _).mono ?_
      rintro e wx ⟨rfl, rfl⟩
      go_wp2_with fail
      refine HI2.out.mono ?_
      rintro e w8 ⟨rfl, hb8⟩
      have HB8 := Lib.hid hb8
      clear hb8
      go_wp2_with fail
      refine (HI1.out w8 HB8.out).mono ?_
      rintro e w9 ⟨rfl, hb9⟩
      have HB9 := Lib.hid (HB8.out.trans (hb9.mono HB8.out.size))
      clear hb9
      go_wp2_with fail
      refine (HK2.out w9 HB9.out).mono ?_
      rintro e w10 ⟨kv2, rfl, ho2, hb10⟩
      have HB10 := Lib.hid (HB9.out.trans (hb10.mono HB9.out.size))
      obtain ⟨a2, c2, rfl, -⟩ := slice_of ho2
      have HO2 := Lib.hid (reads_of_owns ho2)
      clear ho2 hb10
      go_wp2_with fail
      refine (to05_any a2 IL c2 v'.idx w10 HIL.out.symm HO2.out (by omega)).mono ?_
      rintro e w11 ⟨kv3, rfl, ho3, hb11⟩
      have HB11 := Lib.hid (HB10.out.trans (hb11.mono HB10.out.size))
      obtain ⟨a3, c3, rfl, -⟩ := slice_of ho3
      have HO3 := Lib.hid (reads_of_owns ho3)
      clear ho3 hb11
      go_wp2_with fail
      refine (HK1.out w11 HB11.out).mono ?_
      rintro e w12 ⟨kv4, rfl, ho4, hb12⟩
      have HB12 := Lib.hid (HB11.out.trans (hb12.mono HB11.out.size))
      have HO3b := Lib.hid (HO3.out.below hb12)
      obtain ⟨a4, c4, rfl, -⟩ := slice_of ho4
      have HO4 := Lib.hid (reads_of_owns ho4)
      clear ho4 hb12
      go_wp2_with fail
      refine (to05_any a4 IL c4 v'.idx w12 HIL.out.symm HO4.out (by omega)).mono ?_
      rintro e w13 ⟨kv5, rfl, ho5, hb13⟩
      have HB13 := Lib.hid (HB12.out.trans (hb13.mono HB12.out.size))
      have HO3c := Lib.hid (HO3b.out.below hb13)
      obtain ⟨a5, c5, rfl, -⟩ := slice_of ho5
      have HO5 := Lib.hid (reads_of_owns ho5)
      clear ho5 hb13
      go_wp2_with fail
      refine (same05_any a3 IL c3 a5 c5 v'.idx w13 HIL.out.symm HO3c.out HO5.out).mono ?_
      rintro e w14 ⟨rfl, hb14⟩
      have HB14 := Lib.hid (HB13.out.trans (hb14.mono HB13.out.size))
      clear hb14
      have HREL := Lib.hid (show VS w14 vp2 dp (fun k => k < w.heap.size) (5 + 68 * (k + 1)) d' v' from ((HV7.out.below HB14.out).less (fun j hj => .inl hj)).more (by omega))
      go_wp2_with fail
      go_roundw
      case rel => exact ⟨k + 1, vp2, d', v', ns', by omega, rfl, by go_num, HREL.out, HVD'.out, HNUM'.out, HMOST'.out, hsz', hns', HB7.out.trans (HB14.out.mono hz7)⟩
      case measure => simp [intOf]; omega
    · have hj1 : ¬ (k : Int) < (len : Int) := by omega
      have hj2 : decide ((k : Int) < (len : Int)) = false := by simp; omega
      have hj3 : decide (k < len) = false := by simp; omega
      obtain ⟨ix, vx, -, hds, -, -⟩ := HVSR.out
      have HNM := Lib.hid (names_ds hds)
      have hn2 : d.now.length = 2 := by obtain ⟨_, _, hp⟩ := HVD.out.parts; exact hp.len
      rw [hn2] at HNM
      clear hds hn2
      go_wp2_with fail
      refine HNM.out.mono ?_
      rintro e w4 ⟨vn, rfl, hon, hb4⟩
      obtain ⟨an, cn, rfl, -⟩ := slice_of hon
      have HB4 := Lib.hid (HBR.out.trans (hb4.mono hzr))
      clear hon hb4
      go_wp2_with fail
      go_ret
      exact ⟨rfl, HB4.out⟩
end Go.Proofs.YtmkhacgdejkimaaGreatDoor
