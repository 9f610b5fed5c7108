import Derived.Test.YtmkhacgdejkimaaGreatDoorVl23
import Derived.Test.YtmkhacgdejkimaaGreatDoorVl24
import Derived.Test.YtmkhacgdejkimaaGreatDoorVl22
import Derived.Test.YtmkhacgdejkimaaGreatDoorVl21
import Derived.Test.YtmkhacgdejkimaaGreatDoorVl2
import Derived.Deep.LoopGhost
import Derived.Deep.DeepCutAuto
import Derived.Test.YtmkhacgdejkimaaGreatDoorVlVol9Alive
import Derived.Test.YtmkhacgdejkimaaGreatDoorVl10
import Derived.Test.YtmkhacgdejkimaaGreatDoorVl16
import Derived.Test.YtmkhacgdejkimaaGreatDoorVl19
import Derived.Test.YtmkhacgdejkimaaGreatDoorVl26
import Derived.Test.YtmkhacgdejkimaaGreatDoorVlDiskPicks
import Derived.Test.YtmkhacgdejkimaaGreatDoorVlOpen07
import Derived.Test.YtmkhacgdejkimaaGreatDoorVl11
namespace Go.Proofs.YtmkhacgdejkimaaGreatDoor
set_option maxRecDepth 100000
set_option maxHeartbeats 8000000
open Go.RowKit
theorem belVlVolLasts {B : Nat} {w w2 : World} (h : Go.RowKit.Below B w w2 := by repeat (first | (with_reducible first | exact .refl _ _ | refine .setCell ?_ ?_ _ | refine .alloc ?_ ?_ _ | refine .drewN ?_ _ | refine .drew ?_ | exact Nat.le_refl _) | (focus (simp only [World.size_alloc, World.size_setCell, World.size_drew, World.size_drewN]; omega)) | omega | exact Nat.le_refl _ | (focus (simp; done)) | (focus (simp; omega)))) : Go.RowKit.Below B w w2 := h
theorem RvIn.agg {P : Nat → Prop} {w : World} {val : Value} {v : Rv} (h : RvIn w P val v) : ∃ (u0 u1 u2 u3 : Int) (u4 : Bool) (u5a : Option Addr) (u5n u5c : Nat) (u6a : Option Addr) (u6n u6c : Nat), val = .agg #[.int .i64 u0, .int .i64 u1, .int .i64 u2, .int .i64 u3, .bool u4, .slice u5a u5n u5c, .slice u6a u6n u6c] := by
 obtain ⟨al, cl, ad, cd, xs, rfl, _⟩ := h
 exact ⟨_, _, _, _, _, _, _, _, _, _, _, rfl⟩
theorem ndOV_agg (y : Option NdE) : ∃ (y0 y1 : Int) (y2 : Bool) (ya : Option Addr) (yn yc : Nat), ndOV y = .agg #[.int .u64 y0, .int .u32 y1, .bool y2, .slice ya yn yc] := by
 cases y with
 | none => exact ⟨_, _, _, _, _, _, rfl⟩
 | some x => exact ⟨_, _, _, _, _, _, rfl⟩
theorem reads_slice {w : World} {sz n : Nat} {v : Value} {xs : List Value} (h : Reads w sz v n xs) : ∃ a c, v = .slice a n c := by
 rcases h.2 with ⟨e, h0⟩ | ⟨ad, c, e, _⟩
 ·exact ⟨none, 0, by rw [e, h0]⟩
 ·exact ⟨some ad, c, e⟩
theorem mid_fin {P : Nat → Prop} {wr w w5 w6 : World} {bx bq : Nat} {v : Rv} {u0 u1 u2 u3 u4 u5 u6 z0 z1 z2 z3 z4 z5 z6 : Value} (y0 y1 y2 y3 : Value) {t : TypeId}
  (hbw : Below wr.heap.size wr w) (hb5 : Below w.heap.size w w5) (hb6 : Below w5.heap.size w5 w6) (h : RvIn w5 (PNew (POld P wr) w) (.agg #[u0, u1, u2, u3, u4, u5, u6]) v)
  (hx : (wr.heap.size ≤ bx ∧ bx < w.heap.size) ∨ w5.heap.size ≤ bx) (hq : (wr.heap.size ≤ bq ∧ bq < w.heap.size) ∨ w5.heap.size ≤ bq) (hne : bx ≠ bq) (kx : w6.heap[bx]? = some (.cells #[z0, z1, z2, z3, z4, z5, z6] t (0, 0))) :
  Below wr.heap.size wr (set4 (set7i w6 bx u0 u1 u2 u3 u4 u5 u6) bq y0 y1 y2 y3) ∧ (set4 (set7i w6 bx u0 u1 u2 u3 u4 u5 u6) bq y0 y1 y2 y3).heap[bx]? = some (.cells #[u0, u1, u2, u3, u4, u5, u6] t (0, 0)) ∧ RvIn (set4 (set7i w6 bx u0 u1 u2 u3 u4 u5 u6) bq y0 y1 y2 y3) (PNew P wr) (.agg #[u0, u1, u2, u3, u4, u5, u6]) v := by
 have hs1 := hbw.size
 have hs5 := hb5.size
 have hs6 := hb6.size
 have k7 := set7i_keeps w6 bx u0 u1 u2 u3 u4 u5 u6
 have kx7 := store7i kx u0 u1 u2 u3 u4 u5 u6
 have k4 := set4_keeps (set7i w6 bx u0 u1 u2 u3 u4 u5 u6) bq y0 y1 y2 y3
 refine ⟨?_, (k4.block bx (blk_lt kx7) hne).trans kx7, ?_⟩
 ·refine (((hbw.trans (hb5.mono hs1)).trans (hb6.mono (by omega))).trans (k7.below (by omega) fun k e => by omega)).trans (k4.below ?_ fun k e => by omega)
  exact Nat.le_trans (by omega) k7.size
 ·have kk : Keeps (fun k => k = bx ∨ k = bq) w5 (set4 (set7i w6 bx u0 u1 u2 u3 u4 u5 u6) bq y0 y1 y2 y3) := ((Keeps.of_below hb6 fun k hk _ => hk).trans k7 (fun _ _ e => .inl e)).trans k4 (fun _ _ e => .inr e)
  have kp : KP (PNew (POld P wr) w) w5 (set4 (set7i w6 bx u0 u1 u2 u3 u4 u5 u6) bq y0 y1 y2 y3) := Keeps.mono kk (fun k hk e f => by
   rcases f with ⟨_, f⟩ | f <;> omega)
  refine (h.kp kp).wide (fun k hk _ => ?_)
  rcases hk with ⟨f, _⟩ | f
  ·exact .inl f
  ·exact .inr (by omega)
theorem VF.more {w : World} {vp dp K L : Nat} {F : Nat → Prop} {d : Dk} {v : Vl} (h : VF w vp dp F K d v) (hl : K ≤ L) : VF w vp dp F L d v := by
 obtain ⟨ix, vx, G, q, h1, h2, h3, h4, h5, h6, h7⟩ := h
 exact ⟨ix, vx, G, q, h1, h2, h3.mono hl, h4, h5, h6, h7⟩
def LastAt (w0 : World) (vp dp MB PB : Nat) (wx : World) : Prop :=
 ∃ (F : Nat → Prop) (dc : Dk) (vv : Vl) (RM RP : Rv) (c0 c1 c2 c3 : Int) (c4 : Bool) (c5a : Option Addr) (c5n c5c : Nat) (c6a : Option Addr) (c6n c6c : Nat) (u0 u1 u2 u3 : Int) (u4 : Bool) (u5a : Option Addr) (u5n u5c : Nat) (u6a : Option Addr) (u6n u6c : Nat), VF wx vp dp F 300 dc vv ∧ (∀ k, F k → w0.heap.size ≤ k ∧ k ≠ PB ∧ k ≠ MB) ∧
  (∀ p, ∃ vX nsX t, Ends (dc.crash p) vX nsX t ∧ (Rv.of { vX with idx := ixOf nsX } nsX = RM ∨ Rv.of { vX with idx := ixOf nsX } nsX = RP)) ∧
  RvIn wx (fun k => ¬ F k ∧ k ≠ MB ∧ k ≠ PB) (.agg #[.int .i64 c0, .int .i64 c1, .int .i64 c2, .int .i64 c3, .bool c4, .slice c5a c5n c5c, .slice c6a c6n c6c]) RM ∧ RvIn wx (fun k => ¬ F k ∧ k ≠ MB ∧ k ≠ PB) (.agg #[.int .i64 u0, .int .i64 u1, .int .i64 u2, .int .i64 u3, .bool u4, .slice u5a u5n u5c, .slice u6a u6n u6c]) RP ∧ (RP = RM ∨ RP.epoch ≠ RM.epoch ∨ (RP.epoch = RM.epoch ∧ RP.size ≠ RM.size) ∨ (RP.epoch = RM.epoch ∧ RP.size = RM.size ∧ RP.shut ≠ RM.shut)) ∧
  (RM.num = 3 ∧ RM.most = 1048576 ∧ RM.size ≤ RM.most ∧ RM.l.length ≤ 100) ∧ (RP.num = 3 ∧ RP.most = 1048576 ∧ RP.size ≤ RP.most ∧ RP.l.length ≤ 100) ∧
  wx.heap[MB]? = some (.cells #[.int .i64 c0, .int .i64 c1, .int .i64 c2, .int .i64 c3, .bool c4, .slice c5a c5n c5c, .slice c6a c6n c6c] 30 (0, 0)) ∧ wx.heap[PB]? = some (.cells #[.int .i64 u0, .int .i64 u1, .int .i64 u2, .int .i64 u3, .bool u4, .slice u5a u5n u5c, .slice u6a u6n u6c] 30 (0, 0)) ∧ Below w0.heap.size w0 wx
theorem row_addr9 {w : World} {base n sz : Nat} {e : TypeId} {a : Option Addr} {c : Nat} {xs : List Value} (h : w.ownsRow base e sz (.slice a n c) n xs) : a = none ∨ ∃ g, a = some ⟨g, 0, none⟩ := by
 rcases h.2 with ⟨h2, _⟩ | ⟨g, cap, cur, h2, _⟩
 ·exact .inl (sl_inj h2).1
 ·exact .inr ⟨g, (sl_inj h2).1⟩
theorem VS.disk9 {w : World} {vp dp K : Nat} {P : Nat → Prop} {d : Dk} {v : Vl} (h : VS w vp dp P K d v) (hP : ∀ j, P j → j < w.heap.size) : ∃ R : Nat → Prop, DS w dp R K d ∧ (∀ j, P j → R j) ∧ (∀ j, R j → j < w.heap.size) ∧ ∀ w' L d', DTo w w' dp R L d' → VTo w w' vp dp P L d' v := by
 obtain ⟨ix, vx, h1, h2, h3, h4⟩ := h
 refine ⟨fun k => P k ∨ VFoot vp ix vx k, h2, fun j hj => .inl hj, fun j hj => hj.elim (hP j) fun e => (h3 j e).2, fun w' L d' ht => ?_⟩
 refine ⟨⟨ix, vx, h1.keeps ht.2 (fun k hk e => e (.inr hk)), ht.1, fun k hk => ⟨(h3 k hk).1, Nat.lt_of_lt_of_le (h3 k hk).2 ht.2.size⟩, h4⟩, ht.2.mono fun k _ e => .inl e⟩
theorem volLasts_walk (a : Option Addr) (n c : Nat) (l : List ActE) (am : Nat) (ham : am ≤ 255) (p : DPicks) (af : Option Addr) (cf : Nat) (w : World) (hl : l.length = n) (hr : Reads w 6 (.slice a n c) n (l.flatMap ActE.cs)) (ho : ∀ x ∈ l, ActArg w x)
  (hrp : Reads w 2 (.slice af p.files.length cf) p.files.length (p.files.flatMap DPick.row)) (hp1 : -9223372036854775808 ≤ p.names ∧ p.names ≤ 9223372036854775807) (hpk : ∀ x ∈ p.files, PickOk x) :
  Calls Tryz.prog 8 #[.slice a n c, .int .u8 am, .agg #[.int .i64 p.names, .slice af p.files.length cf]] w fun e w' => e = .returned (.bool true) ∧ Below w.heap.size w w' := by
 have HLN := Lib.hid hl
 have HR0 := Lib.hid hr
 have HOA0 := Lib.hid ho
 have HRP := Lib.hid hrp
 have HP1 := Lib.hid hp1
 have HPK := Lib.hid hpk
 have HN3 := Lib.hid (namesAt9 (v := 3) (g := 1) (by omega) (by omega))
 obtain ⟨d0, hmk, hvd0⟩ := VD.make (num := 3) (most := 1048576) (epoch := 0) (by omega) (by omega) (by omega) (by omega)
 have HVD0 := Lib.hid hvd0
 have HMK := Lib.hid (fun (w1 : World) (dp : Nat) (P : Nat → Prop) (h : DS w1 dp P 0 (Dk.new 1048576)) (hP : ∀ k, P k → k < w1.heap.size) => make_ds h hP (by omega) 3 1048576 0 (by omega) ⟨by omega, by omega⟩ (by omega) HN3.out (long_names (by omega)))
 rw [hmk] at HMK
 unfold MadeV at HMK
 have hcv : IntKind.i64.wrap (am : Int) = (am : Int) := by rw [IntKind.wrap_i64]; omega
 have ham2 : (am : Int) ≤ 255 := by omega
 have ham0 : (0 : Int) ≤ (am : Int) := by omega
 obtain ⟨PN, hPN⟩ : ∃ PN, PN = p.names := ⟨_, rfl⟩
 obtain ⟨PL, hPL⟩ : ∃ PL, PL = p.files.length := ⟨_, rfl⟩
 have HPN := Lib.hid hPN
 have HPL := Lib.hid hPL
 rw [← hPL] at HRP
 rw [← hPN, ← hPL]
 clear hl hr ho hrp hp1 hpk hmk hvd0 hPN hPL
 go_enter Tryz.func8, Tryz.ntmps8
 go_upto_region 1 with fail
 obtain ⟨w0, hw0⟩ : ∃ w0 : World, w0 = w.alloc (.cells #[.int .i64 PN, .slice af PL cf] 72) := ⟨_, rfl⟩
 have HB0 := Lib.hid (show Below w.heap.size w w0 by rw [hw0]; exact belVlVolLasts)
 have KX0 := Lib.hid (show w0.heap[w.heap.size]? = some (.cells #[.int .i64 PN, .slice af PL cf] 72 (0, 0)) by rw [hw0]; exact heap_new w _)
 rw [← hw0]
 clear hw0
 have hz0 := HB0.out.size
 obtain ⟨XB, hXB⟩ : ∃ XB, XB = w.heap.size := ⟨_, rfl⟩
 rw [← hXB] at KX0 ⊢
 have hxb := blk_lt KX0.out
 clear hXB
 have HR := Lib.hid (HR0.out.below HB0.out)
 have HOA := Lib.hid (fun x (hx : x ∈ l) => (HOA0.out x hx).below HB0.out)
 go_wp2_with fail
 refine (alive09 w0).mono ?_
 rintro e w1 ⟨rfl, hb⟩
 have HB1 := Lib.hid hb
 have hz1 := hb.size
 have KX1 := Lib.hid (blk_below' KX0.out hb)
 obtain ⟨x0, x1⟩ := scells KX1.out
 clear hb
 go_wp2_with fail
 refine (far9_any a n c l w1 HLN.out (HR.out.below HB1.out)).mono ?_
 rintro e wx ⟨rfl, rfl⟩
 cases hfa : far9 l
 case true =>
  go_wp2_with fail
  go_ret
  exact ⟨rfl, HB0.out.trans (HB1.out.mono hz0)⟩
 have HFA := Lib.hid (far9_no hfa)
 clear hfa
 have h60 : n ≤ 60 := by have := HFA.out.1; have := HLN.out; omega
 by_cases hpl : 100 < PL
 ·have d1 : decide ((100 : Int) < (PL : Int)) = true := by simp; omega
  have d1' : decide (100 < PL) = true := by simp; omega
  go_wp2_with fail
  go_ret
  exact ⟨rfl, HB0.out.trans (HB1.out.mono hz0)⟩
 have d1 : decide ((100 : Int) < (PL : Int)) = false := by simp; omega
 have d1' : decide (100 < PL) = false := by simp; omega
 go_wp2_with fail
 refine (new_ds 1048576 (by omega) w1).mono ?_
 rintro e w2 ⟨rfl, hds, hb, hlt1⟩
 have HDS := Lib.hid hds
 have HB2 := Lib.hid (HB1.out.trans (hb.mono hz1))
 have hz2 := hb.size
 clear hds hb
 obtain ⟨dp, hdp⟩ : ∃ dp, dp = w1.heap.size + 2 := ⟨_, rfl⟩
 rw [← hdp] at HDS hlt1 ⊢
 clear hdp
 go_wp2_with fail
 refine (show Calls Tryz.prog 32 #[(.pointer (some ⟨dp, 0, none⟩)), .int .i64 3, .int .i64 1048576, .int .i64 0] w2 _ from HMK.out w2 dp _ HDS.out (fun k hk => Nat.lt_of_lt_of_le hk hz2)).mono ?_
 rintro e w3 hmd
 obtain ⟨_, vp, rfl, hvt⟩ | ⟨h, _⟩ := hmd
 case inr => exact absurd rfl h
 have HVS := Lib.hid (hvt.1.less (fun k hk => Nat.lt_of_lt_of_le hk hz1) : VS w3 vp dp (fun k => k < w0.heap.size) _ _ _)
 have HB3 := Lib.hid (HB2.out.trans (hvt.2.below (B := w0.heap.size) (Nat.le_trans hz1 hz2) (fun k hk => Nat.lt_of_lt_of_le hk hz1)))
 clear hvt
 have hz3 := HB3.out.size
 clear x0 x1
 go_wp2_with fail
 refine (code0 _).mono ?_
 rintro e wx ⟨rfl, rfl⟩
 go_wp2_with fail
 refine (ref09_new _ _ _ _).mono ?_
 rintro e w4 ⟨rfl, hb⟩
 have HB4 := Lib.hid (HB3.out.trans (hb.mono hz3))
 have hz34 := hb.size
 have HB34 := Lib.hid hb
 clear hb
 go_upto_region 10 with fail
 obtain ⟨w5, hw5⟩ : ∃ w5 : World, w5 = w4.alloc (.cells #[.int .i64 3, .int .i64 1048576, .int .i64 0, .int .i64 16, .bool false, .slice none 0 0, .slice none 0 0] 30) := ⟨_, rfl⟩
 have hb45 : Below w4.heap.size w4 w5 := by rw [hw5]; exact belVlVolLasts
 have KM5 := Lib.hid (show w5.heap[w4.heap.size]? = some (.cells #[.int .i64 3, .int .i64 1048576, .int .i64 0, .int .i64 16, .bool false, .slice none 0 0, .slice none 0 0] 30 (0, 0)) by rw [hw5]; exact heap_new w4 _)
 have HB5 := Lib.hid (HB4.out.trans (hb45.mono HB4.out.size))
 have HB35 := Lib.hid (HB34.out.trans (hb45.mono hz34))
 rw [← hw5]
 clear hw5 hb45
 obtain ⟨MB, hMB⟩ : ∃ MB, MB = w4.heap.size := ⟨_, rfl⟩
 rw [← hMB] at KM5 ⊢
 have hMBlt := blk_lt KM5.out
 have hMBge : w3.heap.size ≤ MB := by rw [hMB]; exact hz34
 clear hMB
 have hz5 := HB5.out.size
 obtain ⟨F, hF1, hF2⟩ := HVS.out.foot
 have hF3 : ∀ k, F k → k < w3.heap.size := hF1.lt
 have HFB := Lib.hid (show ∀ k, F k → w0.heap.size ≤ k ∧ k < w3.heap.size from fun k hk => ⟨by have := hF2 k hk; omega, hF3 k hk⟩)
 have HVF5 := Lib.hid (show VF w5 vp dp F 5 d0 _ from hF1.kp (KP.of HB35.out) (P := F) (fun k hk => hk))
 clear hF1 hF2 hF3
 have HV5 := Lib.hid (HVF5.out.vs (P := fun k => ¬ F k ∧ k < w5.heap.size) (fun k hk e => e.1 hk))
 obtain ⟨R5, r1, r2, r3, r4⟩ := HV5.out.disk9 (fun k hk => hk.2)
 have HAR := Lib.hid (arm_ds r1 r3 (1 + (am : Int)) (by omega))
 have hva0 := HVD0.out.vi.armed
 have HAE := Lib.hid (show d0.arm (1 + (am : Int)) = (0, d0.arms (1 + am)) by
  unfold Dk.arm
  rw [if_neg (by rw [hva0]; decide), if_neg (by omega)]
  unfold Dk.arms
  congr 2)
 rw [HAE.out] at HAR
 have HR4 := Lib.hid r4
 clear r1 r2 r3 r4 hva0
 go_wp2_with fail
 refine HAR.out.mono ?_
 rintro e w6 ⟨rfl, ht⟩
 obtain ⟨hv6, hk6⟩ := HR4.out _ _ _ ht
 have KM6 := Lib.hid (hk6.blk KM5.out ⟨fun e => by have := (HFB.out _ e).2; omega, hMBlt⟩)
 have HB6 := Lib.hid (HB5.out.trans (hk6.below (B := w0.heap.size) hz5 (fun j hj => ⟨fun e => by have := (HFB.out j e).1; omega, by omega⟩)))
 have hz56 := hk6.size
 obtain ⟨F2, hf2, hf2n⟩ := hv6.foot
 have hf2lt := hf2.lt
 have HFB2 := Lib.hid (show ∀ k, F2 k → w0.heap.size ≤ k ∧ k ≠ w6.heap.size ∧ k ≠ MB from fun k hk => by
  have h1 := hf2n k hk
  have h2 := hf2lt k hk
  by_cases hF : F k
  ·have := HFB.out k hF
   exact ⟨this.1, by omega, by omega⟩
  ·have h3 : ¬ k < w5.heap.size := fun e => h1 ⟨hF, e⟩
   exact ⟨by omega, by omega, by omega⟩)
 have HVF6 := Lib.hid hf2
 clear ht hv6 hk6 hf2 hf2n hf2lt
 obtain ⟨m0, m1, m2, m3, m4, m5, m6⟩ := cells7' KM6.out
 go_upto_region 12 with fail
 obtain ⟨w7, hw7⟩ : ∃ w7 : World, w7 = w6.alloc (.cells #[.int .i64 3, .int .i64 1048576, .int .i64 0, .int .i64 16, .bool false, .slice none 0 0, .slice none 0 0] 30) := ⟨_, rfl⟩
 have hb67 : Below w6.heap.size w6 w7 := by rw [hw7]; exact belVlVolLasts
 have KP7 := Lib.hid (show w7.heap[w6.heap.size]? = some (.cells #[.int .i64 3, .int .i64 1048576, .int .i64 0, .int .i64 16, .bool false, .slice none 0 0, .slice none 0 0] 30 (0, 0)) by rw [hw7]; exact heap_new w6 _)
 have KM7 := Lib.hid (blk_below' KM6.out hb67)
 have HB7 := Lib.hid (HB6.out.trans (hb67.mono HB6.out.size))
 have HVF7 := Lib.hid (HVF6.out.kp (KP.of hb67) (P := F2) (fun k hk => hk))
 rw [← hw7]
 clear hw7 hb67 m0 m1 m2 m3 m4 m5 m6
 obtain ⟨PB, hPB⟩ : ∃ PB, PB = w6.heap.size := ⟨_, rfl⟩
 rw [← hPB] at KP7 HFB2 ⊢
 have hPBlt := blk_lt KP7.out
 have hPBge : w0.heap.size ≤ PB := by have := HB6.out.size; omega
 have hMP : MB ≠ PB := by have := blk_lt KM6.out; omega
 have hMBw : w0.heap.size ≤ MB := by omega
 have hXM : XB < w0.heap.size := hxb
 clear hPB
 have hzw7 := HB7.out.size
 go_wp2_with fail
 go_loopw [13] (fun i wr => ∃ (k kk : Nat) (F : Nat → Prop) (x : Dk) (v : Vl) (ns : List Nd) (c0 c1 c2 c3 : Int) (c4 : Bool) (c5a : Option Addr) (c5n c5c : Nat) (c6a : Option Addr) (c6n c6c : Nat), k ≤ n ∧ i = .int .i64 k ∧ VF wr vp dp F (5 + 4 * k) (x.arms kk) v ∧ (∀ k, F k → w0.heap.size ≤ k ∧ k ≠ PB ∧ k ≠ MB) ∧ VD x v ns ∧ RvIn wr (fun k => ¬ F k ∧ k ≠ MB ∧ k ≠ PB) (.agg #[.int .i64 c0, .int .i64 c1, .int .i64 c2, .int .i64 c3, .bool c4, .slice c5a c5n c5c, .slice c6a c6n c6c]) (Rv.of v ns) ∧ v.num = 3 ∧ v.most = 1048576 ∧ v.size ≤ 16 + 336 * k ∧ ns.length ≤ k ∧ wr.heap[MB]? = some (.cells #[.int .i64 c0, .int .i64 c1, .int .i64 c2, .int .i64 c3, .bool c4, .slice c5a c5n c5c, .slice c6a c6n c6c] 30 (0, 0)) ∧ wr.heap[PB]? = some (.cells #[.int .i64 c0, .int .i64 c1, .int .i64 c2, .int .i64 c3, .bool c4, .slice c5a c5n c5c, .slice c6a c6n c6c] 30 (0, 0)) ∧ Below w0.heap.size w0 wr) (fun i _ => n - (intOf i).toNat)
 case atStart =>
  exact ⟨0, 1 + am, F2, d0, _, [], _, _, _, _, _, _, _, _, _, _, _, Nat.zero_le _, rfl, HVF7.out, HFB2.out, HVD0.out, ⟨none, 0, none, 0, [], rfl, reads_none _ _, (fun a e => by cases e), ⟨rfl, reads_none _ _, (fun a e => by cases e), fun x hx => absurd hx List.not_mem_nil⟩, rfl⟩, rfl, rfl, Nat.le_refl _, Nat.le_refl _, KM7.out, KP7.out, HB7.out⟩
 case round =>
  obtain ⟨k, kk, F, x9, v, ns, c0, c1, c2, c3, c4, c5a, c5n, c5c, c6a, c6n, c6c, hk, rfl, hvf, hfb, hvd, hrv, hnum, hmost, hsz, hns, kmr, kpr, hbr⟩ := hrel
  have HVF := Lib.hid hvf
  have HFB := Lib.hid hfb
  have HVD := Lib.hid hvd
  have HRV := Lib.hid hrv
  have HNUM := Lib.hid hnum
  have HMOST := Lib.hid hmost
  have KMR := Lib.hid kmr
  have KPR := Lib.hid kpr
  have HBR := Lib.hid hbr
  have HSZ := Lib.hid hsz
  have HNS := Lib.hid hns
  have hzr := hbr.size
  have hlm := blk_lt kmr
  have hlp := blk_lt kpr
  clear hvf hfb hvd hrv hnum hmost kmr kpr hbr hsz hns
  by_cases hlt : k < n
  ·obtain ⟨x, hx⟩ : ∃ x, l[k]? = some x := ⟨_, List.getElem?_eq_getElem (by rw [HLN.out]; exact hlt)⟩
   obtain ⟨b, o, c', e, hblt, r0, r1, r2, r3, r4, r5⟩ := act9_cells (HR.out.below HBR.out) hx (by omega)
   obtain ⟨rfl, -, rfl⟩ := sl_inj e
   have HXA := Lib.hid (HOA.out x (List.mem_of_getElem? hx))
   have HX3 := Lib.hid (HFA.out.2 x (List.mem_of_getElem? hx))
   have hj0 : (0 : Int) ≤ (k : Int) := by omega
   have hj1 : (k : Int) < (n : Int) := by omega
   clear hx e
   have HXP := Lib.hid (show NdP wr (POld (fun k => ¬ F k ∧ k ≠ MB ∧ k ≠ PB) wr) x.x by
    refine ⟨HXA.out.nd.below HBR.out, fun ad e hl => ?_⟩
    obtain ⟨b, o, c, e2, hb2, _, _⟩ := reads_at HXA.out.nd.data (by omega) (by omega)
    have e3 := (sl_inj e2).1
    rw [e] at e3
    cases e3
    have h1 := HFB.out b
    exact ⟨⟨⟨fun e => by have := h1 e; omega, by show b ≠ MB; omega, by show b ≠ _; omega⟩, by show b < _; omega⟩, by show b < _; omega⟩)
   obtain ⟨RV, hRV⟩ : ∃ RV, RV = (Rv.of v ns).act x.act := ⟨_, rfl⟩
   have HDO := Lib.hid (fun (w0 : World) (hb : Below wr.heap.size wr w0) => rdo_any (POld (fun k => ¬ F k ∧ k ≠ MB ∧ k ≠ PB) wr) (Rv.of v ns) (.agg #[.int .i64 c0, .int .i64 c1, .int .i64 c2, .int .i64 c3, .bool c4, .slice c5a c5n c5c, .slice c6a c6n c6c]) x w0 ((HRV.out.wide (Q := POld (fun k => ¬ F k ∧ k ≠ MB ∧ k ≠ PB) wr) (fun _ hk hs => ⟨hk, hs⟩)).kp (KP.of hb)) (HXP.out.below hb) (by have := HX3.out; omega) HVD.out.vi.srt (by show v.size ≤ _; have := HSZ.out; omega) (by show v.most ≤ _; rw [HMOST.out]; omega) (by show v.idx.length ≤ _; have := HVD.out.vi.len; have := HNS.out; omega) (by show ns.length ≤ _; have := HNS.out; omega))
   rw [← hRV] at HDO
   have h336 : ndSize x.act.n.data.length ≤ 336 := by
    have := HX3.out
    show ndSize x.x.n.data.length ≤ _
    unfold ndSize padN
    omega
   have HST := Lib.hid (act_stops HVD.out kk x.act (show x.act.n.key < _ from HXA.out.nd.key) (show x.act.n.cookie < _ from HXA.out.nd.cookie) (by have := HSZ.out; omega))
   have h17 : RV.1 ≤ 17 := by rw [hRV]; exact Rv.act_17 _ _
   have hn12 : RV.1 ≠ 12 := by rw [hRV]; exact Rv.act_no12 _ _
   rw [← hRV] at HST
   have HRVE := Lib.hid hRV
   clear hRV
   obtain ⟨RC, RW⟩ := RV
   simp only at h17 hn12
   obtain ⟨kd, xm, ⟨⟨key, cookie, gone, data⟩, xa, xc⟩⟩ := x
   simp only at r0 r1 r2 r3 r4 r5
   go_upto_region 15 with fail
   go_cut [14, 15, 16, 17] (fun x16 x17 x18 x19 wx => ∃ (bx : Nat) (u0 u1 u2 u3 : Int) (u4 : Bool) (u5a : Option Addr) (u5n u5c : Nat) (u6a : Option Addr) (u6n u6c : Nat) (k17 : Nat), x16 = .pointer (some ⟨bx, 0, none⟩) ∧ x19 = .int .i64 RC ∧ k17 = 0 ∧ wr.heap.size ≤ bx ∧ Below wr.heap.size wr wx ∧ wx.heap[bx]? = some (.cells #[.int .i64 u0, .int .i64 u1, .int .i64 u2, .int .i64 u3, .bool u4, .slice u5a u5n u5c, .slice u6a u6n u6c] 30 (0, 0)) ∧ RvIn wx (PNew (fun k => ¬ F k ∧ k ≠ MB ∧ k ≠ PB) wr) (.agg #[.int .i64 u0, .int .i64 u1, .int .i64 u2, .int .i64 u3, .bool u4, .slice u5a u5n u5c, .slice u6a u6n u6c]) RW)
   case first =>
    focus
     obtain ⟨SS, HSD⟩ : ∃ SS : World → Prop, Hid (SS = fun w' => Below wr.heap.size wr w') := ⟨_, Lib.hid rfl⟩
     refine wp_region_three0 SS [0, 4] [0, 0, 0, 6, 14, 31, 63, 127, 127, 127, 127, 0, 0, 6399, 14847, 31743, 65535] (.op 0 2 (.op 1 0 (.op 2 0 (.op 3 0 (.op 4 2 (.three 5 (.op 6 0 (.op 7 0 (.op 8 0 (.op 9 0 (.op 10 0 (.two 11 (.op 12 1 (.op 13 1 (.op 14 1 (.op 15 0 (.op 16 0 .nil))))) 12 (.op 11 1 (.op 13 1 (.op 14 1 (.op 15 0 (.op 16 0 .nil))))))))))) 11 (.two 5 (.op 6 0 (.op 7 0 (.op 8 0 (.op 9 0 (.op 10 0 (.op 12 1 (.op 13 1 (.op 14 1 (.op 15 0 (.op 16 0 .nil)))))))))) 12 (.op 5 1 (.op 6 0 (.op 7 0 (.op 8 0 (.op 9 0 (.op 10 0 (.op 13 1 (.op 14 1 (.op 15 0 (.op 16 0 .nil))))))))))) 12 (.two 5 (.op 6 0 (.op 7 0 (.op 8 0 (.op 9 0 (.op 10 0 (.op 11 1 (.op 13 1 (.op 14 1 (.op 15 0 (.op 16 0 .nil)))))))))) 11 (.op 5 1 (.op 6 0 (.op 7 0 (.op 8 0 (.op 9 0 (.op 10 0 (.op 13 1 (.op 14 1 (.op 15 0 (.op 16 0 .nil))))))))))))))))) (by kernel_rfl) (by kernel_rfl) rfl (by kernel_rfl) (by kernel_rfl) ?_ ?_
     (focus (rw [HSD.out]; exact Below.drew (Below.refl _ _))); refine step32 rfl rfl ?_ (fun w1 hS => ?_) fun K hK => ?_; rotate_left; (focus (rw [HSD.out] at hS; obtain ⟨m0, m1, m2, m3, m4, m5, m6⟩ := cells7' (blk_below' KMR.out hS); have q0 := ((bcell hS).1 b (o + k * 6) hblt).trans r0; have q1 := ((bcell hS).1 b (o + k * 6 + 1) hblt).trans r1; have q2 := ((bcell hS).1 b (o + k * 6 + 2) hblt).trans r2; have q3 := ((bcell hS).1 b (o + k * 6 + 3) hblt).trans r3; have q4 := ((bcell hS).1 b (o + k * 6 + 4) hblt).trans r4; have q5 := ((bcell hS).1 b (o + k * 6 + 5) hblt).trans r5; go_simp; rfl)); go_simp; refine hK _ ?_; clear hK K; refine step30 rfl rfl fun K hK => ?_; go_simp; refine hK _ ?_; clear hK K; refine step30 rfl rfl fun K hK => ?_; go_simp; refine hK _ ?_; clear hK K; refine step30 rfl rfl fun K hK => ?_; go_simp; refine hK _ ?_; clear hK K; refine step32 rfl rfl ?_ (fun w1 hS => ?_) fun K hK => ?_; rotate_left; (focus (rw [HSD.out] at hS; obtain ⟨m0, m1, m2, m3, m4, m5, m6⟩ := cells7' (blk_below' KMR.out hS); have q0 := ((bcell hS).1 b (o + k * 6) hblt).trans r0; have q1 := ((bcell hS).1 b (o + k * 6 + 1) hblt).trans r1; have q2 := ((bcell hS).1 b (o + k * 6 + 2) hblt).trans r2; have q3 := ((bcell hS).1 b (o + k * 6 + 3) hblt).trans r3; have q4 := ((bcell hS).1 b (o + k * 6 + 4) hblt).trans r4; have q5 := ((bcell hS).1 b (o + k * 6 + 5) hblt).trans r5; go_simp; rfl)); go_simp; refine hK _ ?_; clear hK K
     refine step3three ?_ ?_ ?_ (by kernel_rfl) (by kernel_rfl) (by kernel_rfl)
     ·
      refine stepM1 rfl rfl (by kernel_rfl) fun K hK => ?_
      (go_wp2_with fail; refine (HDO.out _ belVlVolLasts).mono ?_; rintro e w5 ⟨val, nv, kv, yy, rfl, hin, hb5, hnv, -, -, -⟩; obtain ⟨u0, u1, u2, u3, u4, u5a, u5n, u5c, u6a, u6n, u6c, rfl⟩ := RvIn.agg hin; obtain ⟨y0, y1, y2, ya, yn, yc, hy⟩ := ndOV_agg yy; rw [hy] at hnv; subst hnv; have HIN := Lib.hid hin; have HBC := Lib.hid (show Below wr.heap.size wr wr.drew from belVlVolLasts); have HB5 := Lib.hid hb5; have HBW5 := Lib.hid (HBC.out.trans (hb5.mono HBC.out.size)); have hz5 := HBW5.out.size; clear hb5 hin hy; go_wp2)
      (iterate 5 refine stepM0 rfl rfl fun K hK => ?_; go_simp; refine hK _ ?_; clear hK K)
      refine stepMtwo ?_ ?_ (by kernel_rfl) (by kernel_rfl)
      ·
       refine stepM1S rfl rfl fun K hK => ?_; go_wp2
       refine ⟨by rw [HSD.out]; exact ((by first | exact HBW5.out.alloc hz5 _ | exact (HBW5.out.alloc hz5 _).alloc (Nat.le_trans hz5 (by simp)) _ | exact belVlVolLasts)), ?_⟩
       refine stepM1S rfl rfl fun K hK => ?_; go_wp2
       refine ⟨by rw [HSD.out]; exact ((by first | exact HBW5.out.alloc hz5 _ | exact (HBW5.out.alloc hz5 _).alloc (Nat.le_trans hz5 (by simp)) _ | exact belVlVolLasts)), ?_⟩
       refine stepM1 rfl rfl (by kernel_rfl) fun K hK => ?_
       (have hh5 := (show w5.heap.size = w5.heap.size from rfl); (try have hl5 := blk_lt K5.out); (try have hl5' := blk_lt K5'.out); obtain ⟨w6, hw6⟩ : ∃ w6 : World, w6 = ((w5.alloc (.cells #[.int .i64 0, .int .i64 0, .int .i64 0, .int .i64 0, .bool false, .slice none 0 0, .slice none 0 0] 30)).alloc (.cells #[.int .u64 0, .int .u32 0, .bool false, .slice none 0 0] 82)) := ⟨_, rfl⟩; have HB6 := Lib.hid (show Below w5.heap.size w5 w6 by rw [hw6]; exact belVlVolLasts); have K16 := Lib.hid (show w6.heap[w5.heap.size]? = some (.cells #[.int .i64 0, .int .i64 0, .int .i64 0, .int .i64 0, .bool false, .slice none 0 0, .slice none 0 0] 30 (0, 0)) by rw [hw6]; exact blk_alloc (heap_new w5 _) _); have K17 := Lib.hid (show w6.heap[w5.heap.size + 1]? = some (.cells #[.int .u64 0, .int .u32 0, .bool false, .slice none 0 0] 82 (0, 0)) by rw [hw6]; exact blk_new _ (by simp)); rw [← hw6]; clear hw6; obtain ⟨p0, p1, p2, p3, p4, p5, p6⟩ := cells7' K16.out; obtain ⟨f0, f1, f2, f3, f4, f5, f6⟩ := free7 K16.out; obtain ⟨n0, n1, n2, n3⟩ := ncells K17.out; obtain ⟨o0, o1, o2, o3⟩ := nfree K17.out; have hl16 := blk_lt K16.out; have hl17 := blk_lt K17.out; go_wp2)
       refine stepM1 rfl rfl (by kernel_rfl) fun K hK => ?_; go_wp2; (iterate 2 refine stepM0 rfl rfl fun K hK => ?_; go_simp; refine hK _ ?_; clear hK K)
       try refine stepMnil0 ?_
       clear HSD SS
       go_wp2_with fail
       go_meet
       exact ⟨w5.heap.size, u0, u1, u2, u3, u4, u5a, u5n, u5c, u6a, u6n, u6c, 0, rfl, rfl, rfl, hz5, mid_fin (.int .u64 y0) (.int .u32 y1) (.bool y2) (.slice ya yn yc) HBC.out HB5.out HB6.out HIN.out (.inr (by omega)) (.inr (by omega)) (by omega) K16.out⟩
      ·
       refine stepM1S rfl rfl fun K hK => ?_; go_wp2
       refine ⟨by rw [HSD.out]; exact ((by first | exact HBW5.out.alloc hz5 _ | exact (HBW5.out.alloc hz5 _).alloc (Nat.le_trans hz5 (by simp)) _ | exact belVlVolLasts)), ?_⟩
       refine stepM1S rfl rfl fun K hK => ?_; go_wp2
       refine ⟨by rw [HSD.out]; exact ((by first | exact HBW5.out.alloc hz5 _ | exact (HBW5.out.alloc hz5 _).alloc (Nat.le_trans hz5 (by simp)) _ | exact belVlVolLasts)), ?_⟩
       refine stepM1 rfl rfl (by kernel_rfl) fun K hK => ?_
       (have hh5 := (show w5.heap.size = w5.heap.size from rfl); (try have hl5 := blk_lt K5.out); (try have hl5' := blk_lt K5'.out); obtain ⟨w6, hw6⟩ : ∃ w6 : World, w6 = ((w5.alloc (.cells #[.int .u64 0, .int .u32 0, .bool false, .slice none 0 0] 82)).alloc (.cells #[.int .i64 0, .int .i64 0, .int .i64 0, .int .i64 0, .bool false, .slice none 0 0, .slice none 0 0] 30)) := ⟨_, rfl⟩; have HB6 := Lib.hid (show Below w5.heap.size w5 w6 by rw [hw6]; exact belVlVolLasts); have K16 := Lib.hid (show w6.heap[w5.heap.size + 1]? = some (.cells #[.int .i64 0, .int .i64 0, .int .i64 0, .int .i64 0, .bool false, .slice none 0 0, .slice none 0 0] 30 (0, 0)) by rw [hw6]; exact blk_new _ (by simp)); have K17 := Lib.hid (show w6.heap[w5.heap.size]? = some (.cells #[.int .u64 0, .int .u32 0, .bool false, .slice none 0 0] 82 (0, 0)) by rw [hw6]; exact blk_alloc (heap_new w5 _) _); rw [← hw6]; clear hw6; obtain ⟨p0, p1, p2, p3, p4, p5, p6⟩ := cells7' K16.out; obtain ⟨f0, f1, f2, f3, f4, f5, f6⟩ := free7 K16.out; obtain ⟨n0, n1, n2, n3⟩ := ncells K17.out; obtain ⟨o0, o1, o2, o3⟩ := nfree K17.out; have hl16 := blk_lt K16.out; have hl17 := blk_lt K17.out; go_wp2)
       refine stepM1 rfl rfl (by kernel_rfl) fun K hK => ?_; go_wp2; (iterate 2 refine stepM0 rfl rfl fun K hK => ?_; go_simp; refine hK _ ?_; clear hK K)
       try refine stepMnil0 ?_
       clear HSD SS
       go_wp2_with fail
       go_meet
       exact ⟨w5.heap.size + 1, u0, u1, u2, u3, u4, u5a, u5n, u5c, u6a, u6n, u6c, 0, rfl, rfl, rfl, (by omega), mid_fin (.int .u64 y0) (.int .u32 y1) (.bool y2) (.slice ya yn yc) HBC.out HB5.out HB6.out HIN.out (.inr (by omega)) (.inr (by omega)) (by omega) K16.out⟩
     ·
      refine stepM1S rfl rfl fun K hK => ?_; go_wp2
      refine ⟨by rw [HSD.out]; exact ((by first | exact HBW5.out.alloc hz5 _ | exact (HBW5.out.alloc hz5 _).alloc (Nat.le_trans hz5 (by simp)) _ | exact belVlVolLasts)), ?_⟩
      refine stepMtwo ?_ ?_ (by kernel_rfl) (by kernel_rfl)
      ·
       refine stepM1 rfl rfl (by kernel_rfl) fun K hK => ?_
       (go_wp2_with fail; refine (HDO.out _ belVlVolLasts).mono ?_; rintro e w5 ⟨val, nv, kv, yy, rfl, hin, hb5, hnv, -, -, -⟩; obtain ⟨u0, u1, u2, u3, u4, u5a, u5n, u5c, u6a, u6n, u6c, rfl⟩ := RvIn.agg hin; obtain ⟨y0, y1, y2, ya, yn, yc, hy⟩ := ndOV_agg yy; rw [hy] at hnv; subst hnv; have HIN := Lib.hid hin; have HBC := Lib.hid (show Below wr.heap.size wr (wr.drew.alloc (.cells #[.int .i64 0, .int .i64 0, .int .i64 0, .int .i64 0, .bool false, .slice none 0 0, .slice none 0 0] 30)) from belVlVolLasts); have HB5 := Lib.hid hb5; have HBW5 := Lib.hid (HBC.out.trans (hb5.mono HBC.out.size)); have hz5 := HBW5.out.size; have K5 := Lib.hid (show w5.heap[wr.heap.size]? = some (.cells #[.int .i64 0, .int .i64 0, .int .i64 0, .int .i64 0, .bool false, .slice none 0 0, .slice none 0 0] 30 (0, 0)) from blk_below' (show (wr.drew.alloc (.cells #[.int .i64 0, .int .i64 0, .int .i64 0, .int .i64 0, .bool false, .slice none 0 0, .slice none 0 0] 30)).heap[wr.heap.size]? = _ from heap_new _ _) hb5); clear hb5 hin hy; go_wp2)
       (iterate 5 refine stepM0 rfl rfl fun K hK => ?_; go_simp; refine hK _ ?_; clear hK K); refine stepM1S rfl rfl fun K hK => ?_; go_wp2
       refine ⟨by rw [HSD.out]; exact ((by first | exact HBW5.out.alloc hz5 _ | exact (HBW5.out.alloc hz5 _).alloc (Nat.le_trans hz5 (by simp)) _ | exact belVlVolLasts)), ?_⟩
       refine stepM1 rfl rfl (by kernel_rfl) fun K hK => ?_
       (have hh5 := (show w5.heap.size = w5.heap.size from rfl); (try have hl5 := blk_lt K5.out); (try have hl5' := blk_lt K5'.out); obtain ⟨w6, hw6⟩ : ∃ w6 : World, w6 = (w5.alloc (.cells #[.int .u64 0, .int .u32 0, .bool false, .slice none 0 0] 82)) := ⟨_, rfl⟩; have HB6 := Lib.hid (show Below w5.heap.size w5 w6 by rw [hw6]; exact belVlVolLasts); have K16 := Lib.hid (show w6.heap[wr.heap.size]? = some (.cells #[.int .i64 0, .int .i64 0, .int .i64 0, .int .i64 0, .bool false, .slice none 0 0, .slice none 0 0] 30 (0, 0)) by rw [hw6]; exact blk_alloc K5.out _); have K17 := Lib.hid (show w6.heap[w5.heap.size]? = some (.cells #[.int .u64 0, .int .u32 0, .bool false, .slice none 0 0] 82 (0, 0)) by rw [hw6]; exact heap_new w5 _); rw [← hw6]; clear hw6; obtain ⟨p0, p1, p2, p3, p4, p5, p6⟩ := cells7' K16.out; obtain ⟨f0, f1, f2, f3, f4, f5, f6⟩ := free7 K16.out; obtain ⟨n0, n1, n2, n3⟩ := ncells K17.out; obtain ⟨o0, o1, o2, o3⟩ := nfree K17.out; have hl16 := blk_lt K16.out; have hl17 := blk_lt K17.out; go_wp2)
       refine stepM1 rfl rfl (by kernel_rfl) fun K hK => ?_; go_wp2; (iterate 2 refine stepM0 rfl rfl fun K hK => ?_; go_simp; refine hK _ ?_; clear hK K)
       try refine stepMnil0 ?_
       clear HSD SS
       go_wp2_with fail
       go_meet
       exact ⟨wr.heap.size, u0, u1, u2, u3, u4, u5a, u5n, u5c, u6a, u6n, u6c, 0, rfl, rfl, rfl, (by omega), mid_fin (.int .u64 y0) (.int .u32 y1) (.bool y2) (.slice ya yn yc) HBC.out HB5.out HB6.out HIN.out (.inl ⟨by omega, by simp only [World.size_alloc, World.size_drew]; omega⟩) (.inr (by omega)) (by omega) K16.out⟩
      ·
       refine stepM1S rfl rfl fun K hK => ?_; go_wp2
       refine ⟨by rw [HSD.out]; exact ((by first | exact HBW5.out.alloc hz5 _ | exact (HBW5.out.alloc hz5 _).alloc (Nat.le_trans hz5 (by simp)) _ | exact belVlVolLasts)), ?_⟩
       refine stepM1 rfl rfl (by kernel_rfl) fun K hK => ?_
       (go_wp2_with fail; refine (HDO.out _ belVlVolLasts).mono ?_; rintro e w5 ⟨val, nv, kv, yy, rfl, hin, hb5, hnv, -, -, -⟩; obtain ⟨u0, u1, u2, u3, u4, u5a, u5n, u5c, u6a, u6n, u6c, rfl⟩ := RvIn.agg hin; obtain ⟨y0, y1, y2, ya, yn, yc, hy⟩ := ndOV_agg yy; rw [hy] at hnv; subst hnv; have HIN := Lib.hid hin; have HBC := Lib.hid (show Below wr.heap.size wr ((wr.drew.alloc (.cells #[.int .i64 0, .int .i64 0, .int .i64 0, .int .i64 0, .bool false, .slice none 0 0, .slice none 0 0] 30)).alloc (.cells #[.int .u64 0, .int .u32 0, .bool false, .slice none 0 0] 82)) from belVlVolLasts); have HB5 := Lib.hid hb5; have HBW5 := Lib.hid (HBC.out.trans (hb5.mono HBC.out.size)); have hz5 := HBW5.out.size; have K5 := Lib.hid (show w5.heap[wr.heap.size]? = some (.cells #[.int .i64 0, .int .i64 0, .int .i64 0, .int .i64 0, .bool false, .slice none 0 0, .slice none 0 0] 30 (0, 0)) from blk_below' (show ((wr.drew.alloc (.cells #[.int .i64 0, .int .i64 0, .int .i64 0, .int .i64 0, .bool false, .slice none 0 0, .slice none 0 0] 30)).alloc (.cells #[.int .u64 0, .int .u32 0, .bool false, .slice none 0 0] 82)).heap[wr.heap.size]? = _ from blk_alloc (heap_new _ _) _) hb5); have K5' := Lib.hid (show w5.heap[wr.heap.size + 1]? = some (.cells #[.int .u64 0, .int .u32 0, .bool false, .slice none 0 0] 82 (0, 0)) from blk_below' (show ((wr.drew.alloc (.cells #[.int .i64 0, .int .i64 0, .int .i64 0, .int .i64 0, .bool false, .slice none 0 0, .slice none 0 0] 30)).alloc (.cells #[.int .u64 0, .int .u32 0, .bool false, .slice none 0 0] 82)).heap[wr.heap.size + 1]? = _ from blk_new _ (by simp)) hb5); clear hb5 hin hy; go_wp2)
       (iterate 5 refine stepM0 rfl rfl fun K hK => ?_; go_simp; refine hK _ ?_; clear hK K); refine stepM1 rfl rfl (by kernel_rfl) fun K hK => ?_
       (have hh5 := (show w5.heap.size = w5.heap.size from rfl); (try have hl5 := blk_lt K5.out); (try have hl5' := blk_lt K5'.out); obtain ⟨w6, hw6⟩ : ∃ w6 : World, w6 = w5 := ⟨_, rfl⟩; have HB6 := Lib.hid (show Below w5.heap.size w5 w6 by rw [hw6]; exact belVlVolLasts); have K16 := Lib.hid (show w6.heap[wr.heap.size]? = some (.cells #[.int .i64 0, .int .i64 0, .int .i64 0, .int .i64 0, .bool false, .slice none 0 0, .slice none 0 0] 30 (0, 0)) by rw [hw6]; exact K5.out); have K17 := Lib.hid (show w6.heap[wr.heap.size + 1]? = some (.cells #[.int .u64 0, .int .u32 0, .bool false, .slice none 0 0] 82 (0, 0)) by rw [hw6]; exact K5'.out); rw [← hw6]; clear hw6; obtain ⟨p0, p1, p2, p3, p4, p5, p6⟩ := cells7' K16.out; obtain ⟨f0, f1, f2, f3, f4, f5, f6⟩ := free7 K16.out; obtain ⟨n0, n1, n2, n3⟩ := ncells K17.out; obtain ⟨o0, o1, o2, o3⟩ := nfree K17.out; have hl16 := blk_lt K16.out; have hl17 := blk_lt K17.out; go_wp2)
       refine stepM1 rfl rfl (by kernel_rfl) fun K hK => ?_; go_wp2; (iterate 2 refine stepM0 rfl rfl fun K hK => ?_; go_simp; refine hK _ ?_; clear hK K)
       try refine stepMnil0 ?_
       clear HSD SS
       go_wp2_with fail
       go_meet
       exact ⟨wr.heap.size, u0, u1, u2, u3, u4, u5a, u5n, u5c, u6a, u6n, u6c, 0, rfl, rfl, rfl, (by omega), mid_fin (.int .u64 y0) (.int .u32 y1) (.bool y2) (.slice ya yn yc) HBC.out HB5.out HB6.out HIN.out (.inl ⟨by omega, by simp only [World.size_alloc, World.size_drew]; omega⟩) (.inl ⟨by omega, by simp only [World.size_alloc, World.size_drew]; omega⟩) (by omega) K16.out⟩
     ·
      refine stepM1S rfl rfl fun K hK => ?_; go_wp2
      refine ⟨by rw [HSD.out]; exact ((by first | exact HBW5.out.alloc hz5 _ | exact (HBW5.out.alloc hz5 _).alloc (Nat.le_trans hz5 (by simp)) _ | exact belVlVolLasts)), ?_⟩
      refine stepMtwo ?_ ?_ (by kernel_rfl) (by kernel_rfl)
      ·
       refine stepM1 rfl rfl (by kernel_rfl) fun K hK => ?_
       (go_wp2_with fail; refine (HDO.out _ belVlVolLasts).mono ?_; rintro e w5 ⟨val, nv, kv, yy, rfl, hin, hb5, hnv, -, -, -⟩; obtain ⟨u0, u1, u2, u3, u4, u5a, u5n, u5c, u6a, u6n, u6c, rfl⟩ := RvIn.agg hin; obtain ⟨y0, y1, y2, ya, yn, yc, hy⟩ := ndOV_agg yy; rw [hy] at hnv; subst hnv; have HIN := Lib.hid hin; have HBC := Lib.hid (show Below wr.heap.size wr (wr.drew.alloc (.cells #[.int .u64 0, .int .u32 0, .bool false, .slice none 0 0] 82)) from belVlVolLasts); have HB5 := Lib.hid hb5; have HBW5 := Lib.hid (HBC.out.trans (hb5.mono HBC.out.size)); have hz5 := HBW5.out.size; have K5' := Lib.hid (show w5.heap[wr.heap.size]? = some (.cells #[.int .u64 0, .int .u32 0, .bool false, .slice none 0 0] 82 (0, 0)) from blk_below' (show (wr.drew.alloc (.cells #[.int .u64 0, .int .u32 0, .bool false, .slice none 0 0] 82)).heap[wr.heap.size]? = _ from heap_new _ _) hb5); clear hb5 hin hy; go_wp2)
       (iterate 5 refine stepM0 rfl rfl fun K hK => ?_; go_simp; refine hK _ ?_; clear hK K); refine stepM1S rfl rfl fun K hK => ?_; go_wp2
       refine ⟨by rw [HSD.out]; exact ((by first | exact HBW5.out.alloc hz5 _ | exact (HBW5.out.alloc hz5 _).alloc (Nat.le_trans hz5 (by simp)) _ | exact belVlVolLasts)), ?_⟩
       refine stepM1 rfl rfl (by kernel_rfl) fun K hK => ?_
       (have hh5 := (show w5.heap.size = w5.heap.size from rfl); (try have hl5 := blk_lt K5.out); (try have hl5' := blk_lt K5'.out); obtain ⟨w6, hw6⟩ : ∃ w6 : World, w6 = (w5.alloc (.cells #[.int .i64 0, .int .i64 0, .int .i64 0, .int .i64 0, .bool false, .slice none 0 0, .slice none 0 0] 30)) := ⟨_, rfl⟩; have HB6 := Lib.hid (show Below w5.heap.size w5 w6 by rw [hw6]; exact belVlVolLasts); have K16 := Lib.hid (show w6.heap[w5.heap.size]? = some (.cells #[.int .i64 0, .int .i64 0, .int .i64 0, .int .i64 0, .bool false, .slice none 0 0, .slice none 0 0] 30 (0, 0)) by rw [hw6]; exact heap_new w5 _); have K17 := Lib.hid (show w6.heap[wr.heap.size]? = some (.cells #[.int .u64 0, .int .u32 0, .bool false, .slice none 0 0] 82 (0, 0)) by rw [hw6]; exact blk_alloc K5'.out _); rw [← hw6]; clear hw6; obtain ⟨p0, p1, p2, p3, p4, p5, p6⟩ := cells7' K16.out; obtain ⟨f0, f1, f2, f3, f4, f5, f6⟩ := free7 K16.out; obtain ⟨n0, n1, n2, n3⟩ := ncells K17.out; obtain ⟨o0, o1, o2, o3⟩ := nfree K17.out; have hl16 := blk_lt K16.out; have hl17 := blk_lt K17.out; go_wp2)
       refine stepM1 rfl rfl (by kernel_rfl) fun K hK => ?_; go_wp2; (iterate 2 refine stepM0 rfl rfl fun K hK => ?_; go_simp; refine hK _ ?_; clear hK K)
       try refine stepMnil0 ?_
       clear HSD SS
       go_wp2_with fail
       go_meet
       exact ⟨w5.heap.size, u0, u1, u2, u3, u4, u5a, u5n, u5c, u6a, u6n, u6c, 0, rfl, rfl, rfl, hz5, mid_fin (.int .u64 y0) (.int .u32 y1) (.bool y2) (.slice ya yn yc) HBC.out HB5.out HB6.out HIN.out (.inr (by omega)) (.inl ⟨by omega, by simp only [World.size_alloc, World.size_drew]; omega⟩) (by omega) K16.out⟩
      ·
       refine stepM1S rfl rfl fun K hK => ?_; go_wp2
       refine ⟨by rw [HSD.out]; exact ((by first | exact HBW5.out.alloc hz5 _ | exact (HBW5.out.alloc hz5 _).alloc (Nat.le_trans hz5 (by simp)) _ | exact belVlVolLasts)), ?_⟩
       refine stepM1 rfl rfl (by kernel_rfl) fun K hK => ?_
       (go_wp2_with fail; refine (HDO.out _ belVlVolLasts).mono ?_; rintro e w5 ⟨val, nv, kv, yy, rfl, hin, hb5, hnv, -, -, -⟩; obtain ⟨u0, u1, u2, u3, u4, u5a, u5n, u5c, u6a, u6n, u6c, rfl⟩ := RvIn.agg hin; obtain ⟨y0, y1, y2, ya, yn, yc, hy⟩ := ndOV_agg yy; rw [hy] at hnv; subst hnv; have HIN := Lib.hid hin; have HBC := Lib.hid (show Below wr.heap.size wr ((wr.drew.alloc (.cells #[.int .u64 0, .int .u32 0, .bool false, .slice none 0 0] 82)).alloc (.cells #[.int .i64 0, .int .i64 0, .int .i64 0, .int .i64 0, .bool false, .slice none 0 0, .slice none 0 0] 30)) from belVlVolLasts); have HB5 := Lib.hid hb5; have HBW5 := Lib.hid (HBC.out.trans (hb5.mono HBC.out.size)); have hz5 := HBW5.out.size; have K5' := Lib.hid (show w5.heap[wr.heap.size]? = some (.cells #[.int .u64 0, .int .u32 0, .bool false, .slice none 0 0] 82 (0, 0)) from blk_below' (show ((wr.drew.alloc (.cells #[.int .u64 0, .int .u32 0, .bool false, .slice none 0 0] 82)).alloc (.cells #[.int .i64 0, .int .i64 0, .int .i64 0, .int .i64 0, .bool false, .slice none 0 0, .slice none 0 0] 30)).heap[wr.heap.size]? = _ from blk_alloc (heap_new _ _) _) hb5); have K5 := Lib.hid (show w5.heap[wr.heap.size + 1]? = some (.cells #[.int .i64 0, .int .i64 0, .int .i64 0, .int .i64 0, .bool false, .slice none 0 0, .slice none 0 0] 30 (0, 0)) from blk_below' (show ((wr.drew.alloc (.cells #[.int .u64 0, .int .u32 0, .bool false, .slice none 0 0] 82)).alloc (.cells #[.int .i64 0, .int .i64 0, .int .i64 0, .int .i64 0, .bool false, .slice none 0 0, .slice none 0 0] 30)).heap[wr.heap.size + 1]? = _ from blk_new _ (by simp)) hb5); clear hb5 hin hy; go_wp2)
       (iterate 5 refine stepM0 rfl rfl fun K hK => ?_; go_simp; refine hK _ ?_; clear hK K); refine stepM1 rfl rfl (by kernel_rfl) fun K hK => ?_
       (have hh5 := (show w5.heap.size = w5.heap.size from rfl); (try have hl5 := blk_lt K5.out); (try have hl5' := blk_lt K5'.out); obtain ⟨w6, hw6⟩ : ∃ w6 : World, w6 = w5 := ⟨_, rfl⟩; have HB6 := Lib.hid (show Below w5.heap.size w5 w6 by rw [hw6]; exact belVlVolLasts); have K16 := Lib.hid (show w6.heap[wr.heap.size + 1]? = some (.cells #[.int .i64 0, .int .i64 0, .int .i64 0, .int .i64 0, .bool false, .slice none 0 0, .slice none 0 0] 30 (0, 0)) by rw [hw6]; exact K5.out); have K17 := Lib.hid (show w6.heap[wr.heap.size]? = some (.cells #[.int .u64 0, .int .u32 0, .bool false, .slice none 0 0] 82 (0, 0)) by rw [hw6]; exact K5'.out); rw [← hw6]; clear hw6; obtain ⟨p0, p1, p2, p3, p4, p5, p6⟩ := cells7' K16.out; obtain ⟨f0, f1, f2, f3, f4, f5, f6⟩ := free7 K16.out; obtain ⟨n0, n1, n2, n3⟩ := ncells K17.out; obtain ⟨o0, o1, o2, o3⟩ := nfree K17.out; have hl16 := blk_lt K16.out; have hl17 := blk_lt K17.out; go_wp2)
       refine stepM1 rfl rfl (by kernel_rfl) fun K hK => ?_; go_wp2; (iterate 2 refine stepM0 rfl rfl fun K hK => ?_; go_simp; refine hK _ ?_; clear hK K)
       try refine stepMnil0 ?_
       clear HSD SS
       go_wp2_with fail
       go_meet
       exact ⟨wr.heap.size + 1, u0, u1, u2, u3, u4, u5a, u5n, u5c, u6a, u6n, u6c, 0, rfl, rfl, rfl, (by omega), mid_fin (.int .u64 y0) (.int .u32 y1) (.bool y2) (.slice ya yn yc) HBC.out HB5.out HB6.out HIN.out (.inl ⟨by omega, by simp only [World.size_alloc, World.size_drew]; omega⟩) (.inl ⟨by omega, by simp only [World.size_alloc, World.size_drew]; omega⟩) (by omega) K16.out⟩

   case rest =>
    obtain ⟨bx, u0, u1, u2, u3, u4, u5a, u5n, u5c, u6a, u6n, u6c, k17, rfl, rfl, -, hbx, hbc, kbx, hrv2⟩ := hcut
    have HBC := Lib.hid hbc
    have KBX := Lib.hid kbx
    have HRV2 := Lib.hid hrv2
    have hzc := hbc.size
    have hlbx := blk_lt kbx
    have KMC := Lib.hid (blk_below' KMR.out hbc)
    have KPC := Lib.hid (blk_below' KPR.out hbc)
    have q0 := ((bcell hbc).1 b (o + k * 6) hblt).trans r0
    have q1 := ((bcell hbc).1 b (o + k * 6 + 1) hblt).trans r1
    have q2 := ((bcell hbc).1 b (o + k * 6 + 2) hblt).trans r2
    have q3 := ((bcell hbc).1 b (o + k * 6 + 3) hblt).trans r3
    have q4 := ((bcell hbc).1 b (o + k * 6 + 4) hblt).trans r4
    have q5 := ((bcell hbc).1 b (o + k * 6 + 5) hblt).trans r5
    clear hbc kbx hrv2 r0 r1 r2 r3 r4 r5
    have hFlt := HVF.out.lt
    have HVC := Lib.hid (show VF wc vp dp F (5 + 4 * k) (x9.arms kk) v from HVF.out.keeps (R := fun k => wr.heap.size ≤ k) (Keeps.of_below HBC.out fun k _ hk => by omega) (fun k hf e => by have := hFlt k hf; omega))
    obtain ⟨OC, hOC⟩ : ∃ OC, OC = v.act (x9.arms kk) (ActE.act ⟨kd, xm, ⟨⟨key, cookie, gone, data⟩, xa, xc⟩⟩) := ⟨_, rfl⟩
    have HS0 := Lib.hid (show Stops v ns (ndSize data.length) OC (RC, RW) by rw [hOC]; exact HST.out)
    have HLD := Lib.hid (show Calls Tryz.prog 40 #[(.pointer (some ⟨vp, 0, none⟩)), .agg #[.int .i64 kd, .int .i64 xm, .int .u64 key, .int .u32 cookie, .bool gone, .slice xa data.length xc]] wc (LDoTo wc vp dp (fun k => ¬ F k ∧ k < wc.heap.size) (5 + 4 * k + 4) OC.1 OC.2.1 OC.2.2 (v.gotN (x9.arms kk) (ActE.act ⟨kd, xm, ⟨⟨key, cookie, gone, data⟩, xa, xc⟩⟩)) (v.gotK (ActE.act ⟨kd, xm, ⟨⟨key, cookie, gone, data⟩, xa, xc⟩⟩))) by
     have h9 := ldo_any (P := fun k => ¬ F k ∧ k < wc.heap.size) ⟨kd, xm, ⟨⟨key, cookie, gone, data⟩, xa, xc⟩⟩ wc (HVC.out.vs fun k hf e => e.1 hf) (fun k hk => hk.2) (by omega) ((HXA.out.nd.below HBR.out).below HBC.out) (by have := HX3.out; simp only at this ⊢; omega) (fun p hp => by have h1 := HVD.out.vi.len_le hp; have := HSZ.out; exact ⟨h1.1, by omega⟩) (get_told HVD.out kk _ _ (fun _ _ => HVD.out.vi.told _ _)) (by rw [← hOC]; exact HS0.out.code h17)
     rw [← hOC] at h9
     exact h9)
    obtain ⟨NN, hNN⟩ : ∃ NN, NN = v.gotN (x9.arms kk) (ActE.act ⟨kd, xm, ⟨⟨key, cookie, gone, data⟩, xa, xc⟩⟩) := ⟨_, rfl⟩
    obtain ⟨KK, hKK⟩ : ∃ KK, KK = v.gotK (ActE.act ⟨kd, xm, ⟨⟨key, cookie, gone, data⟩, xa, xc⟩⟩) := ⟨_, rfl⟩
    rw [← hNN, ← hKK] at HLD
    clear hNN hKK hOC HST
    obtain ⟨OC1, OD, OV⟩ := OC
    simp only at HLD
    go_wp2_with fail
    refine HLD.out.mono ?_
    rintro e w7 ⟨vd, kv2, rfl, hvt, hrd, hrk⟩
    obtain ⟨da, dc, rfl⟩ := reads_slice hrd
    obtain ⟨ka, kc, rfl⟩ := reads_slice hrk
    obtain ⟨dn, hdn⟩ : ∃ dn, dn = NN.data.length := ⟨_, rfl⟩
    obtain ⟨kn, hkn⟩ : ∃ kn, kn = KK.length := ⟨_, rfl⟩
    rw [← hdn, ← hkn]
    clear hdn hkn hrd hrk
    have hz7 := hvt.2.size
    have KBX7 := hvt.2.blk KBX.out ⟨fun e => by have := hFlt _ e; omega, hlbx⟩
    have KM7 := hvt.2.blk KMC.out ⟨fun e => (HFB.out _ e).2.2 rfl, by omega⟩
    have KP7 := hvt.2.blk KPC.out ⟨fun e => (HFB.out _ e).2.1 rfl, by omega⟩
    have HVT := Lib.hid hvt
    have HRV7 := Lib.hid (show RvIn w7 (fun k => (¬ F k ∧ k ≠ MB ∧ k ≠ PB) ∧ k < wc.heap.size) (.agg #[.int .i64 u0, .int .i64 u1, .int .i64 u2, .int .i64 u3, .bool u4, .slice u5a u5n u5c, .slice u6a u6n u6c]) RW from (HRV2.out.wide (Q := fun k => (¬ F k ∧ k ≠ MB ∧ k ≠ PB) ∧ k < wc.heap.size) (fun j hj hlt => by
     rcases hj with hj | hj
     ·exact ⟨hj, hlt⟩
     ·exact ⟨⟨fun e => by have := hFlt _ e; omega, by omega, by omega⟩, hlt⟩)).kp (KP.mono hvt.2 (fun j _ hj => ⟨hj.1.1, hj.2⟩)))
    have HRM7 := Lib.hid (show RvIn w7 (fun k => (¬ F k ∧ k ≠ MB ∧ k ≠ PB) ∧ k < wc.heap.size) (.agg #[.int .i64 c0, .int .i64 c1, .int .i64 c2, .int .i64 c3, .bool c4, .slice c5a c5n c5c, .slice c6a c6n c6c]) (Rv.of v ns) from ((HRV.out.wide (Q := fun k => (¬ F k ∧ k ≠ MB ∧ k ≠ PB) ∧ k < wr.heap.size) (fun j hj hlt => ⟨hj, hlt⟩)).kp (KP.of HBC.out)).wide (Q := fun k => (¬ F k ∧ k ≠ MB ∧ k ≠ PB) ∧ k < wc.heap.size) (fun j hj hlt => ⟨hj.1, hlt⟩) |>.kp (KP.mono hvt.2 (fun j _ hj => ⟨hj.1.1, hj.2⟩)))
    have HB7 := Lib.hid ((HBR.out.trans (HBC.out.mono hzr)).trans (hvt.2.below (B := w0.heap.size) (by omega) (fun j hj => ⟨fun e => by have := (HFB.out j e).1; omega, by omega⟩)))
    clear hvt q0 q1 q2 q3 q4 q5
    obtain ⟨w8, hw8⟩ : ∃ w8 : World, w8 = w7.alloc (.cells #[.int .u64 NN.key, .int .u32 NN.cookie, .bool NN.gone, .slice da dn dc] 93) := ⟨_, rfl⟩
    have HB8 := Lib.hid (show Below w7.heap.size w7 w8 by rw [hw8]; exact belVlVolLasts)
    have KBX8 := Lib.hid (blk_below' KBX7 HB8.out)
    have KM8 := Lib.hid (blk_below' KM7 HB8.out)
    have KP8 := Lib.hid (blk_below' KP7 HB8.out)
    have hz8 := HB8.out.size
    clear KBX7 KM7 KP7
    go_upto_region 17 with fail
    rw [← hw8]
    clear hw8
    obtain ⟨p0, p1, p2, p3, p4, p5, p6⟩ := cells7' KBX8.out
    obtain ⟨m0, m1, m2, m3, m4, m5, m6⟩ := cells7' KM8.out
    obtain ⟨f0, f1, f2, f3, f4, f5, f6⟩ := free7 KM8.out
    obtain ⟨g0, g1, g2, g3, g4, g5, g6⟩ := cells7' KP8.out
    obtain ⟨h0, h1, h2, h3, h4, h5, h6⟩ := free7 KP8.out
    have hlm8 := blk_lt KM8.out
    have hlx8 := blk_lt KBX8.out
    have hlp8 := blk_lt KP8.out
    rcases HS0.out with ⟨kk', x', v', ns', e1, e2, e3, e4, e5, e6⟩ | ⟨d', v', e1, e2⟩
    ·cases e1
     have t12 : ((RC : Int) == 12) = false := by simp; omega
     have ecc : ((RC : Int) != (RC : Int)) = false := by simp
     go_upto_region 22 with fail
     obtain ⟨w9, hw9⟩ : ∃ w9, w9 = set7i w8 MB (.int .i64 u0) (.int .i64 u1) (.int .i64 u2) (.int .i64 u3) (.bool u4) (.slice u5a u5n u5c) (.slice u6a u6n u6c) := ⟨_, rfl⟩
     have hk9 := set7i_keeps w8 MB (.int .i64 u0) (.int .i64 u1) (.int .i64 u2) (.int .i64 u3) (.bool u4) (.slice u5a u5n u5c) (.slice u6a u6n u6c)
     have k9 := store7i KM8.out (.int .i64 u0) (.int .i64 u1) (.int .i64 u2) (.int .i64 u3) (.bool u4) (.slice u5a u5n u5c) (.slice u6a u6n u6c)
     rw [← hw9] at hk9 k9
     unfold set7i at hw9
     rw [← hw9]
     clear hw9 p0 p1 p2 p3 p4 p5 p6 m0 m1 m2 m3 m4 m5 m6 f0 f1 f2 f3 f4 f5 f6 g0 g1 g2 g3 g4 g5 g6 h0 h1 h2 h3 h4 h5 h6
     have KP9 := (hk9.block PB hlp8 (fun e => hMP e.symm)).trans KP8.out
     obtain ⟨m0, m1, m2, m3, m4, m5, m6⟩ := cells7' k9
     obtain ⟨g0, g1, g2, g3, g4, g5, g6⟩ := cells7' KP9
     obtain ⟨h0, h1, h2, h3, h4, h5, h6⟩ := free7 KP9
     have hlm9 := blk_lt k9
     have hlp9 := blk_lt KP9
     have K9 := Lib.hid k9
     have KP9h := Lib.hid KP9
     have HK9 := Lib.hid hk9
     clear k9 KP9 hk9
     go_wp2_with fail
     obtain ⟨w10, hw10⟩ : ∃ w10, w10 = set7i w9 PB (.int .i64 u0) (.int .i64 u1) (.int .i64 u2) (.int .i64 u3) (.bool u4) (.slice u5a u5n u5c) (.slice u6a u6n u6c) := ⟨_, rfl⟩
     have hk10 := set7i_keeps w9 PB (.int .i64 u0) (.int .i64 u1) (.int .i64 u2) (.int .i64 u3) (.bool u4) (.slice u5a u5n u5c) (.slice u6a u6n u6c)
     have k10 := store7i KP9h.out (.int .i64 u0) (.int .i64 u1) (.int .i64 u2) (.int .i64 u3) (.bool u4) (.slice u5a u5n u5c) (.slice u6a u6n u6c)
     rw [← hw10] at hk10 k10
     unfold set7i at hw10
     rw [← hw10]
     clear hw10 m0 m1 m2 m3 m4 m5 m6 g0 g1 g2 g3 g4 g5 g6 h0 h1 h2 h3 h4 h5 h6
     have KM10 := (hk10.block MB hlm9 hMP).trans K9.out
     have HK710 := Lib.hid (show Keeps (fun j => j = MB ∨ j = PB) w7 w10 from ((Keeps.of_below HB8.out fun k hk _ => hk).trans HK9.out (fun _ _ e => .inl e)).trans hk10 (fun _ _ e => .inr e))
     have K10 := Lib.hid k10
     have KM10h := Lib.hid KM10
     clear hk10 k10 KM10
     go_roundw
     case rel =>
      obtain ⟨F2, hf2, hf2n⟩ := HVT.out.1.foot
      have hf2lt := hf2.lt
      have hf2b : ∀ j, F2 j → w0.heap.size ≤ j ∧ j ≠ PB ∧ j ≠ MB := fun j hj => by
       by_cases hF : F j
       ·exact HFB.out j hF
       ·have h1 := hf2n j hj
        have h2 : ¬ j < wc.heap.size := fun e => h1 ⟨hF, e⟩
        omega
      refine ⟨k + 1, kk', F2, x', _, ns', u0, u1, u2, u3, u4, u5a, u5n, u5c, u6a, u6n, u6c, by omega, by go_num, ?_, hf2b, e2, ?_, e6.trans HNUM.out, ?_, ?_, ?_, KM10h.out, K10.out, ?_⟩
      ·exact hf2.keeps HK710.out fun j hj e => by have := hf2b j hj; omega
      ·rw [e3]
       refine ((HRV7.out.kp (Keeps.mono HK710.out fun j _ e f => by have := f.1.2; omega)).wide (fun j hj _ => ⟨fun e => ?_, hj.1.2⟩))
       exact hf2n j e ⟨hj.1.1, hj.2⟩
      ·have h1 := congrArg Rv.most e3
       have h2 := HRVE.out
       have h3 : RW = ((Rv.of v ns).act (ActE.act ⟨kd, xm, ⟨⟨key, cookie, gone, data⟩, xa, xc⟩⟩)).2 := congrArg Prod.snd h2
       rw [show (RC, RW).2 = RW from rfl, h3, (Rv.act_len _ _).2.2] at h1
       exact h1.trans HMOST.out
      ·have := HSZ.out
       have h9 : ndSize data.length ≤ 336 := h336
       omega
      ·have := HNS.out
       omega
      ·refine HB7.out.trans (HK710.out.below (by omega) fun j e => by omega)
     case measure => simp [intOf]; omega
    ·cases e1
     go_upto_region 23 with fail
     obtain ⟨w9, hw9⟩ : ∃ w9, w9 = set7i w8 PB (.int .i64 u0) (.int .i64 u1) (.int .i64 u2) (.int .i64 u3) (.bool u4) (.slice u5a u5n u5c) (.slice u6a u6n u6c) := ⟨_, rfl⟩
     have hk9 := set7i_keeps w8 PB (.int .i64 u0) (.int .i64 u1) (.int .i64 u2) (.int .i64 u3) (.bool u4) (.slice u5a u5n u5c) (.slice u6a u6n u6c)
     have k9 := store7i KP8.out (.int .i64 u0) (.int .i64 u1) (.int .i64 u2) (.int .i64 u3) (.bool u4) (.slice u5a u5n u5c) (.slice u6a u6n u6c)
     rw [← hw9] at hk9 k9
     unfold set7i at hw9
     rw [← hw9]
     clear hw9 p0 p1 p2 p3 p4 p5 p6 m0 m1 m2 m3 m4 m5 m6 f0 f1 f2 f3 f4 f5 f6 g0 g1 g2 g3 g4 g5 g6 h0 h1 h2 h3 h4 h5 h6
     have KM9 := (hk9.block MB hlm8 hMP).trans KM8.out
     have HK79 := Lib.hid (show Keeps (fun j => j = MB ∨ j = PB) w7 w9 from (Keeps.of_below HB8.out fun k hk _ => hk).trans hk9 (fun _ _ e => .inr e))
     have K9 := Lib.hid k9
     have KM9h := Lib.hid KM9
     clear hk9 k9 KM9
     have HLA := Lib.hid (show LastAt w0 vp dp MB PB w9 by
      obtain ⟨F2, hf2, hf2n⟩ := HVT.out.1.foot
      have hf2b : ∀ j, F2 j → w0.heap.size ≤ j ∧ j ≠ PB ∧ j ≠ MB := fun j hj => by
       by_cases hF : F j
       ·exact HFB.out j hF
       ·have h1 := hf2n j hj
        have h2 : ¬ j < wc.heap.size := fun e => h1 ⟨hF, e⟩
        have := hf2.lt j hj
        omega
      have hrw : RW = ((Rv.of v ns).act (ActE.act ⟨kd, xm, ⟨⟨key, cookie, gone, data⟩, xa, xc⟩⟩)).2 := congrArg Prod.snd HRVE.out
      have hal := Rv.act_len (Rv.of v ns) (ActE.act ⟨kd, xm, ⟨⟨key, cookie, gone, data⟩, xa, xc⟩⟩)
      have hil : v.idx.length ≤ 60 := by have h1 := HVD.out.vi.len; have h2 := HNS.out; omega
      refine ⟨F2, _, _, Rv.of v ns, RW, c0, c1, c2, c3, c4, c5a, c5n, c5c, c6a, c6n, c6c, u0, u1, u2, u3, u4, u5a, u5n, u5c, u6a, u6n, u6c, (hf2.keeps HK79.out fun j hj e => by have := hf2b j hj; omega).more (by omega), hf2b, e2, ?_, ?_, by rw [hrw]; exact Rv.act_diff _ _, ⟨HNUM.out, HMOST.out, HVD.out.vi.most, by show v.idx.length ≤ _; omega⟩, ⟨by rw [hrw, hal.2.1]; exact HNUM.out, by rw [hrw, hal.2.2]; exact HMOST.out, by rw [hrw]; exact Rv.act_room HVD.out.vi.most _, by rw [hrw]; have h1 := hal.1; have h2 : (Rv.of v ns).l.length = v.idx.length := rfl; omega⟩, KM9h.out, K9.out, ?_⟩
      ·refine ((HRM7.out.kp (Keeps.mono HK79.out fun j _ e f => by have := f.1.2; omega)).wide (fun j hj _ => ⟨fun e => ?_, hj.1.2⟩))
       exact hf2n j e ⟨hj.1.1, hj.2⟩
      ·refine ((HRV7.out.kp (Keeps.mono HK79.out fun j _ e f => by have := f.1.2; omega)).wide (fun j hj _ => ⟨fun e => ?_, hj.1.2⟩))
       exact hf2n j e ⟨hj.1.1, hj.2⟩
      ·refine HB7.out.trans (HK79.out.below (by omega) fun j e => by omega))
     obtain ⟨FF, dc, vv, RM, RP, y0, y1, y2, y3, y4, y5a, y5n, y5c, y6a, y6n, y6c, z0, z1, z2, z3, z4, z5a, z5n, z5c, z6a, z6n, z6c, tvf, tfb, tend, tm, tp, tdiff, tmn, tpn, tkm, tkp, tb⟩ := HLA.out
     have TVF := Lib.hid tvf
     have TFB := Lib.hid tfb
     have TM := Lib.hid tm
     have TP := Lib.hid tp
     have TKM := Lib.hid tkm
     have TKP := Lib.hid tkp
     have TB := Lib.hid tb
     have TDF := Lib.hid tdiff
     have TMN := Lib.hid tmn
     have TPN := Lib.hid tpn
     obtain ⟨vX, nsX, tX, hE, hRR⟩ := tend p
     have HE := Lib.hid hE
     have HRR := Lib.hid hRR
     have KXW := Lib.hid ((tb.block XB hxb).trans KX0.out)
     have hztb := tb.size
     have htlm := blk_lt tkm
     have htlp := blk_lt tkp
     have hFlt := tvf.lt
     clear tvf tfb tend tm tp tdiff tmn tpn tkm tkp tb hE hRR HLA
     obtain ⟨x0, x1⟩ := scells KXW.out
     have hxlt := blk_lt KXW.out
     go_upto_region 23 with fail
     go_wp2_with fail
     refine (picks_any PN p.files af PL cf w9 HPL.out.symm (by omega) (HRP.out.below (HB0.out.trans (TB.out.mono hz0)))).mono ?_
     rintro e wb ⟨pv, rfl, hov, hbb⟩
     obtain ⟨av, cv, rfl⟩ := ownsRow_len hov
     have HOV := Lib.hid hov
     have HBB := Lib.hid hbb
     have hzb := hbb.size
     clear hov hbb x0 x1
     obtain ⟨Q, hQ⟩ : ∃ Q : Nat → Prop, Q = fun k => ¬ FF k ∧ k < wb.heap.size := ⟨_, rfl⟩
     have HQ := Lib.hid hQ
     have HTV := Lib.hid (show VF wb vp dp FF 300 dc vv from TVF.out.kp (KP.of HBB.out) (P := FF) (fun k hk => hk))
     have HDB := Lib.hid (show DS wb dp Q 300 dc by
      obtain ⟨ix, vx, -, hd, -, -⟩ := HTV.out.vs (P := Q) (fun k hk e => by rw [hQ] at e; exact e.1 hk)
      exact hd.less (fun k hk => .inl hk))
     have HQL := Lib.hid (show ∀ k, Q k → k < wb.heap.size from fun k hk => by rw [hQ] at hk; exact hk.2)
     have HQM := Lib.hid (show Q MB by rw [hQ]; exact ⟨fun e => (TFB.out MB e).2.2 rfl, by omega⟩)
     have HQP := Lib.hid (show Q PB by rw [hQ]; exact ⟨fun e => (TFB.out PB e).2.1 rfl, by omega⟩)
     have HTM := Lib.hid (show RvIn wb Q (.agg #[.int .i64 y0, .int .i64 y1, .int .i64 y2, .int .i64 y3, .bool y4, .slice y5a y5n y5c, .slice y6a y6n y6c]) RM from (TM.out.kp (KP.of HBB.out)).wide (fun k hk hs => by rw [hQ]; exact ⟨hk.1, hs⟩))
     have HTP := Lib.hid (show RvIn wb Q (.agg #[.int .i64 z0, .int .i64 z1, .int .i64 z2, .int .i64 z3, .bool z4, .slice z5a z5n z5c, .slice z6a z6n z6c]) RP from (TP.out.kp (KP.of HBB.out)).wide (fun k hk hs => by rw [hQ]; exact ⟨hk.1, hs⟩))
     have hcr := crash_ds HDB.out HQL.out (by omega) p av cv (by rw [← HPL.out]; exact reads_of_owns HOV.out) (fun g e => by
      subst e
      rcases row_addr9 HOV.out with e | ⟨g', e⟩
      ·cases e
      ·cases e
       have h9 := HOV.out.lt g' rfl
       exact ⟨rfl, by rw [hQ]; exact ⟨fun e => by have h8 : g' < w9.heap.size := hFlt g' e; omega, h9.2⟩, h9.2⟩) HP1.out.1 HP1.out.2 HPK.out
     rw [← HPN.out, ← HPL.out] at hcr
     have HCR := Lib.hid hcr
     clear hcr hQ
     go_wp2_with fail
     refine HCR.out.mono ?_
     rintro e wc2 ⟨rfl, hdc, hkc⟩
     have HDC := Lib.hid hdc
     have HKC := Lib.hid hkc
     have hzc2 := hkc.size
     clear hdc hkc HCR
     have hfin : vX.num = 3 ∧ vX.most = 1048576 ∧ vX.size ≤ vX.most ∧ (ixOf nsX).length ≤ 100 := by
      rcases HRR.out with h | h
      ·have g1 := TMN.out
       rw [← h] at g1
       exact g1
      ·have g1 := TPN.out
       rw [← h] at g1
       exact g1
     obtain ⟨hf1, hf2, hf3, hf4⟩ := hfin
     have hgn := HE.out.gen
     have HOKX := Lib.hid (show VOk vX from ⟨by rw [hf1, hgn]; exact HN3.out, by
      have g1 := HE.out.opens.num
      have g2 := HE.out.opens.gen
      have g3 := HE.out.opens.epoch
      unfold rightV
      simp
      omega, hf3, by omega, by
      have g1 := long_names (num := 3) (by omega)
      unfold Vl.file
      rw [hf1, hgn]
      exact g1⟩)
     obtain ⟨c', hc2, hop⟩ := reopen_ends HDC.out (fun k hk => by have := HQL.out k hk; omega) (by omega) HE.out HOKX.out (by rw [hf1]; exact HN3.out) (by omega)
     obtain ⟨vY, hvY⟩ : ∃ vY, vY = ({ vX with idx := ixOf nsX } : Vl) := ⟨_, rfl⟩
     rw [← hvY, hf1, hf2] at hop
     have HOP := Lib.hid hop
     have HVY := Lib.hid hvY
     have HRY := Lib.hid (show Rv.of vY nsX = RM ∨ Rv.of vY nsX = RP by rw [hvY]; exact HRR.out)
     have hy1 : vY.num = 3 := by rw [hvY]; exact hf1
     have HY1 := Lib.hid hy1
     have HYL := Lib.hid (show vY.idx.length ≤ 100 by rw [hvY]; exact hf4)
     have HC2 := Lib.hid hc2
     clear hop hvY hf1 hf2 hf3 hf4 hgn hy1 hc2
     go_wp2_with fail
     refine (show Calls Tryz.prog 39 #[(.pointer (some ⟨dp, 0, none⟩)), .int .i64 3, .int .i64 1048576] wc2 (OpenTo wc2 dp Q (300 + 64) c' vY) from HOP.out).mono ?_
     rintro e wd ⟨vp2, rfl, hvd, -, hkd⟩
     have HVD2 := Lib.hid hvd
     have HKD := Lib.hid (HKC.out.trans hkd)
     have hzd := hkd.size
     clear hvd hkd HOP
     obtain ⟨ix2, vx2, hva2, hds2, -, -⟩ := HVD2.out
     have HVA2 := Lib.hid hva2
     have hnm2 := names_ds hds2
     rw [HC2.out] at hnm2
     have HNM2 := Lib.hid hnm2
     have TKM2 := Lib.hid (HKD.out.blk (blk_below' TKM.out HBB.out) HQM.out)
     have TKP2 := Lib.hid (HKD.out.blk (blk_below' TKP.out HBB.out) HQP.out)
     have HTM2 := Lib.hid (HTM.out.kp HKD.out)
     have HTP2 := Lib.hid (HTP.out.kp HKD.out)
     have HBD := Lib.hid (show Below w.heap.size w wd from by
      have h1 : Below w.heap.size w wb := HB0.out.trans ((TB.out.trans (HBB.out.mono hztb)).mono hz0)
      exact h1.trans (HKD.out.below h1.size (fun k hk => by rw [HQ.out]; exact ⟨fun e => by have := (TFB.out k e).1; omega, by have := h1.size; omega⟩)))
     clear hva2 hds2 hnm2
     have HSAME := Lib.hid (fun (wd9 : World) (hb8 : Below wd.heap.size wd wd9) => show ∃ B : Bool, (Calls Tryz.prog 19 #[(.pointer (some ⟨vp2, 0, none⟩)), .agg #[.int .i64 y0, .int .i64 y1, .int .i64 y2, .int .i64 y3, .bool y4, .slice y5a y5n y5c, .slice y6a y6n y6c]] wd9 fun e w' => e = .returned (.bool B) ∧ Below wd9.heap.size wd9 w') ∧ (B = false → ∀ w9 : World, Below wd9.heap.size wd9 w9 → Calls Tryz.prog 19 #[(.pointer (some ⟨vp2, 0, none⟩)), .agg #[.int .i64 z0, .int .i64 z1, .int .i64 z2, .int .i64 z3, .bool z4, .slice z5a z5n z5c, .slice z6a z6n z6c]] w9 fun e w' => e = .returned (.bool true) ∧ Below w9.heap.size w9 w') by
      obtain ⟨al, cl, ad, cd, xs, hval, hat⟩ := HTM2.out.kp (KP.of hb8)
      obtain ⟨al2, cl2, ad2, cd2, xs2, hval2, hat2⟩ := HTP2.out.kp (KP.of hb8)
      have hva9 := HVA2.out.below hb8
      have hy := HYL.out
      have hyes : Rv.of vY nsX = RM → Calls Tryz.prog 19 #[(.pointer (some ⟨vp2, 0, none⟩)), .agg #[.int .i64 y0, .int .i64 y1, .int .i64 y2, .int .i64 y3, .bool y4, .slice y5a y5n y5c, .slice y6a y6n y6c]] wd9 fun e w' => e = .returned (.bool true) ∧ Below wd9.heap.size wd9 w' := fun h => by
       rw [hval, ← h]
       have hl : Reads wd9 5 (.slice al vY.idx.length cl) vY.idx.length (vY.idx.flatMap psC) := by
        have := hat.rl
        rw [← h] at this
        exact this
       exact same09_any (ns := nsX) hva9 al cl ad cd hl (by omega)
      have hpend : Rv.of vY nsX = RP → ∀ w9 : World, Below wd9.heap.size wd9 w9 → Calls Tryz.prog 19 #[(.pointer (some ⟨vp2, 0, none⟩)), .agg #[.int .i64 z0, .int .i64 z1, .int .i64 z2, .int .i64 z3, .bool z4, .slice z5a z5n z5c, .slice z6a z6n z6c]] w9 fun e w' => e = .returned (.bool true) ∧ Below w9.heap.size w9 w' := fun h w9 hb9 => by
       rw [hval2, ← h]
       have hl : Reads w9 5 (.slice al2 vY.idx.length cl2) vY.idx.length (vY.idx.flatMap psC) := by
        have := hat2.rl.below hb9
        rw [← h] at this
        exact this
       exact same09_any (ns := nsX) (hva9.below hb9) al2 cl2 ad2 cd2 hl (by omega)
      rcases HRY.out with h | h
      ·exact ⟨true, hyes h, fun e => by cases e⟩
      ·have hnum : vY.num = RM.num := HY1.out.trans TMN.out.1.symm
       have hml : RM.l.length ≤ 4096 := by have := TMN.out.2.2.2; omega
       rcases TDF.out with g | g | ⟨g1, g2⟩ | ⟨g1, g2, g3⟩
       ·exact ⟨true, hyes (h.trans g), fun e => by cases e⟩
       ·refine ⟨false, ?_, fun _ => hpend h⟩
        rw [hval]
        exact same09_noE hva9 RM al cl ad cd hat.rl hml hnum (fun e => g (by rw [← e, ← h]; rfl))
       ·refine ⟨false, ?_, fun _ => hpend h⟩
        rw [hval]
        exact same09_noS hva9 RM al cl ad cd hat.rl hml hnum (by rw [← g1, ← h]; rfl) (fun e => g2 (by rw [← e, ← h]; rfl))
       ·refine ⟨false, ?_, fun _ => hpend h⟩
        rw [hval]
        exact same09_noB hva9 RM al cl ad cd hat.rl hml hnum (by rw [← g1, ← h]; rfl) (by rw [← g2, ← h]; rfl) (fun e => g3 (by rw [← e, ← h]; rfl)))
     go_wp2_with fail
     refine (code0 _).mono ?_
     rintro e wx ⟨rfl, rfl⟩
     go_wp2_with fail
     refine HNM2.out.mono ?_
     rintro e we ⟨nv, rfl, hon, hbe⟩
     obtain ⟨an, cn, rfl, -⟩ := slice_of hon
     have HBE := Lib.hid hbe
     have TKM3 := Lib.hid (blk_below' TKM2.out hbe)
     have TKP3 := Lib.hid (blk_below' TKP2.out hbe)
     have hze := hbe.size
     clear hon hbe
     have HSE := Lib.hid (show ∃ B : Bool, (Calls Tryz.prog 19 #[(.pointer (some ⟨vp2, 0, none⟩)), .agg #[.int .i64 y0, .int .i64 y1, .int .i64 y2, .int .i64 y3, .bool y4, .slice y5a y5n y5c, .slice y6a y6n y6c]] we fun e w' => e = .returned (.bool B) ∧ Below we.heap.size we w') ∧ (B = false → ∀ w9 : World, Below we.heap.size we w9 → Calls Tryz.prog 19 #[(.pointer (some ⟨vp2, 0, none⟩)), .agg #[.int .i64 z0, .int .i64 z1, .int .i64 z2, .int .i64 z3, .bool z4, .slice z5a z5n z5c, .slice z6a z6n z6c]] w9 fun e w' => e = .returned (.bool true) ∧ Below w9.heap.size w9 w') from HSAME.out we HBE.out)
     obtain ⟨BB, hB1, hB2⟩ := HSE.out
     have HB1S := Lib.hid hB1
     have HB2S := Lib.hid hB2
     clear hB1 hB2
     obtain ⟨m0, m1, m2, m3, m4, m5, m6⟩ := cells7' TKM3.out
     have htm3 := blk_lt TKM3.out
     go_wp2_with fail
     refine HB1S.out.mono ?_
     rintro e wf ⟨rfl, hbf⟩
     have HBF := Lib.hid hbf
     have TKP4 := Lib.hid (blk_below' TKP3.out hbf)
     obtain ⟨g0, g1, g2, g3, g4, g5, g6⟩ := cells7' TKP4.out
     have htp4 := blk_lt TKP4.out
     clear m0 m1 m2 m3 m4 m5 m6 hbf
     cases BB with
     | true =>
      go_wp2_with fail
      go_ret
      exact ⟨rfl, (HBD.out.trans (HBE.out.mono HBD.out.size)).trans (HBF.out.mono (Nat.le_trans HBD.out.size hze))⟩
     | false =>
      go_wp2_with fail
      refine (HB2S.out (by first | trivial | rfl) wf HBF.out).mono ?_
      rintro e wg ⟨rfl, hbg⟩
      have HBG := Lib.hid (((HBD.out.trans (HBE.out.mono HBD.out.size)).trans (HBF.out.mono (Nat.le_trans HBD.out.size hze))).trans (hbg.mono (Nat.le_trans (Nat.le_trans HBD.out.size hze) HBF.out.size)))
      clear hbg
      go_wp2_with fail
      go_ret
      exact ⟨rfl, HBG.out⟩
  ·have hj1 : ¬ (k : Int) < (n : Int) := by omega
   have hj2 : decide ((k : Int) < (n : Int)) = false := by simp; omega
   have hj3 : decide (k < n) = false := by simp; omega
   have HLA := Lib.hid (show LastAt w0 vp dp MB PB wr from
    ⟨F, _, _, Rv.of v ns, Rv.of v ns, c0, c1, c2, c3, c4, c5a, c5n, c5c, c6a, c6n, c6c, c0, c1, c2, c3, c4, c5a, c5n, c5c, c6a, c6n, c6c, HVF.out.more (by omega), HFB.out, fun p => ⟨v, ns, [], by rw [crash_arms, HVD.out.crash]; exact Ends.rest HVD.out, .inl (Rv.of_idx HVD.out.vi)⟩, HRV.out, HRV.out, .inl rfl, ⟨HNUM.out, HMOST.out, HVD.out.vi.most, by have h1 := HVD.out.vi.len; have h2 := HNS.out; show v.idx.length ≤ _; omega⟩, ⟨HNUM.out, HMOST.out, HVD.out.vi.most, by have h1 := HVD.out.vi.len; have h2 := HNS.out; show v.idx.length ≤ _; omega⟩, KMR.out, KPR.out, HBR.out⟩)
   obtain ⟨FF, dc, vv, RM, RP, y0, y1, y2, y3, y4, y5a, y5n, y5c, y6a, y6n, y6c, z0, z1, z2, z3, z4, z5a, z5n, z5c, z6a, z6n, z6c, tvf, tfb, tend, tm, tp, tdiff, tmn, tpn, tkm, tkp, tb⟩ := HLA.out
   have TVF := Lib.hid tvf
   have TFB := Lib.hid tfb
   have TM := Lib.hid tm
   have TP := Lib.hid tp
   have TKM := Lib.hid tkm
   have TKP := Lib.hid tkp
   have TB := Lib.hid tb
   have TDF := Lib.hid tdiff
   have TMN := Lib.hid tmn
   have TPN := Lib.hid tpn
   obtain ⟨vX, nsX, tX, hE, hRR⟩ := tend p
   have HE := Lib.hid hE
   have HRR := Lib.hid hRR
   have KXW := Lib.hid ((tb.block XB hxb).trans KX0.out)
   have hztb := tb.size
   have htlm := blk_lt tkm
   have htlp := blk_lt tkp
   have hFlt := tvf.lt
   clear tvf tfb tend tm tp tdiff tmn tpn tkm tkp tb hE hRR HLA
   obtain ⟨x0, x1⟩ := scells KXW.out
   have hxlt := blk_lt KXW.out
   go_upto_region 23 with fail
   go_wp2_with fail
   refine (picks_any PN p.files af PL cf wr HPL.out.symm (by omega) (HRP.out.below (HB0.out.trans (TB.out.mono hz0)))).mono ?_
   rintro e wb ⟨pv, rfl, hov, hbb⟩
   obtain ⟨av, cv, rfl⟩ := ownsRow_len hov
   have HOV := Lib.hid hov
   have HBB := Lib.hid hbb
   have hzb := hbb.size
   clear hov hbb x0 x1
   obtain ⟨Q, hQ⟩ : ∃ Q : Nat → Prop, Q = fun k => ¬ FF k ∧ k < wb.heap.size := ⟨_, rfl⟩
   have HQ := Lib.hid hQ
   have HTV := Lib.hid (show VF wb vp dp FF 300 dc vv from TVF.out.kp (KP.of HBB.out) (P := FF) (fun k hk => hk))
   have HDB := Lib.hid (show DS wb dp Q 300 dc by
    obtain ⟨ix, vx, -, hd, -, -⟩ := HTV.out.vs (P := Q) (fun k hk e => by rw [hQ] at e; exact e.1 hk)
    exact hd.less (fun k hk => .inl hk))
   have HQL := Lib.hid (show ∀ k, Q k → k < wb.heap.size from fun k hk => by rw [hQ] at hk; exact hk.2)
   have HQM := Lib.hid (show Q MB by rw [hQ]; exact ⟨fun e => (TFB.out MB e).2.2 rfl, by omega⟩)
   have HQP := Lib.hid (show Q PB by rw [hQ]; exact ⟨fun e => (TFB.out PB e).2.1 rfl, by omega⟩)
   have HTM := Lib.hid (show RvIn wb Q (.agg #[.int .i64 y0, .int .i64 y1, .int .i64 y2, .int .i64 y3, .bool y4, .slice y5a y5n y5c, .slice y6a y6n y6c]) RM from (TM.out.kp (KP.of HBB.out)).wide (fun k hk hs => by rw [hQ]; exact ⟨hk.1, hs⟩))
   have HTP := Lib.hid (show RvIn wb Q (.agg #[.int .i64 z0, .int .i64 z1, .int .i64 z2, .int .i64 z3, .bool z4, .slice z5a z5n z5c, .slice z6a z6n z6c]) RP from (TP.out.kp (KP.of HBB.out)).wide (fun k hk hs => by rw [hQ]; exact ⟨hk.1, hs⟩))
   have hcr := crash_ds HDB.out HQL.out (by omega) p av cv (by rw [← HPL.out]; exact reads_of_owns HOV.out) (fun g e => by
    subst e
    rcases row_addr9 HOV.out with e | ⟨g', e⟩
    ·cases e
    ·cases e
     have h9 := HOV.out.lt g' rfl
     exact ⟨rfl, by rw [hQ]; exact ⟨fun e => by have h8 : g' < wr.heap.size := hFlt g' e; omega, h9.2⟩, h9.2⟩) HP1.out.1 HP1.out.2 HPK.out
   rw [← HPN.out, ← HPL.out] at hcr
   have HCR := Lib.hid hcr
   clear hcr hQ
   go_wp2_with fail
   refine HCR.out.mono ?_
   rintro e wc2 ⟨rfl, hdc, hkc⟩
   have HDC := Lib.hid hdc
   have HKC := Lib.hid hkc
   have hzc2 := hkc.size
   clear hdc hkc HCR
   have hfin : vX.num = 3 ∧ vX.most = 1048576 ∧ vX.size ≤ vX.most ∧ (ixOf nsX).length ≤ 100 := by
    rcases HRR.out with h | h
    ·have g1 := TMN.out
     rw [← h] at g1
     exact g1
    ·have g1 := TPN.out
     rw [← h] at g1
     exact g1
   obtain ⟨hf1, hf2, hf3, hf4⟩ := hfin
   have hgn := HE.out.gen
   have HOKX := Lib.hid (show VOk vX from ⟨by rw [hf1, hgn]; exact HN3.out, by
    have g1 := HE.out.opens.num
    have g2 := HE.out.opens.gen
    have g3 := HE.out.opens.epoch
    unfold rightV
    simp
    omega, hf3, by omega, by
    have g1 := long_names (num := 3) (by omega)
    unfold Vl.file
    rw [hf1, hgn]
    exact g1⟩)
   obtain ⟨c', hc2, hop⟩ := reopen_ends HDC.out (fun k hk => by have := HQL.out k hk; omega) (by omega) HE.out HOKX.out (by rw [hf1]; exact HN3.out) (by omega)
   obtain ⟨vY, hvY⟩ : ∃ vY, vY = ({ vX with idx := ixOf nsX } : Vl) := ⟨_, rfl⟩
   rw [← hvY, hf1, hf2] at hop
   have HOP := Lib.hid hop
   have HVY := Lib.hid hvY
   have HRY := Lib.hid (show Rv.of vY nsX = RM ∨ Rv.of vY nsX = RP by rw [hvY]; exact HRR.out)
   have hy1 : vY.num = 3 := by rw [hvY]; exact hf1
   have HY1 := Lib.hid hy1
   have HYL := Lib.hid (show vY.idx.length ≤ 100 by rw [hvY]; exact hf4)
   have HC2 := Lib.hid hc2
   clear hop hvY hf1 hf2 hf3 hf4 hgn hy1 hc2
   go_wp2_with fail
   refine (show Calls Tryz.prog 39 #[(.pointer (some ⟨dp, 0, none⟩)), .int .i64 3, .int .i64 1048576] wc2 (OpenTo wc2 dp Q (300 + 64) c' vY) from HOP.out).mono ?_
   rintro e wd ⟨vp2, rfl, hvd, -, hkd⟩
   have HVD2 := Lib.hid hvd
   have HKD := Lib.hid (HKC.out.trans hkd)
   have hzd := hkd.size
   clear hvd hkd HOP
   obtain ⟨ix2, vx2, hva2, hds2, -, -⟩ := HVD2.out
   have HVA2 := Lib.hid hva2
   have hnm2 := names_ds hds2
   rw [HC2.out] at hnm2
   have HNM2 := Lib.hid hnm2
   have TKM2 := Lib.hid (HKD.out.blk (blk_below' TKM.out HBB.out) HQM.out)
   have TKP2 := Lib.hid (HKD.out.blk (blk_below' TKP.out HBB.out) HQP.out)
   have HTM2 := Lib.hid (HTM.out.kp HKD.out)
   have HTP2 := Lib.hid (HTP.out.kp HKD.out)
   have HBD := Lib.hid (show Below w.heap.size w wd from by
    have h1 : Below w.heap.size w wb := HB0.out.trans ((TB.out.trans (HBB.out.mono hztb)).mono hz0)
    exact h1.trans (HKD.out.below h1.size (fun k hk => by rw [HQ.out]; exact ⟨fun e => by have := (TFB.out k e).1; omega, by have := h1.size; omega⟩)))
   clear hva2 hds2 hnm2
   have HSAME := Lib.hid (fun (wd9 : World) (hb8 : Below wd.heap.size wd wd9) => show ∃ B : Bool, (Calls Tryz.prog 19 #[(.pointer (some ⟨vp2, 0, none⟩)), .agg #[.int .i64 y0, .int .i64 y1, .int .i64 y2, .int .i64 y3, .bool y4, .slice y5a y5n y5c, .slice y6a y6n y6c]] wd9 fun e w' => e = .returned (.bool B) ∧ Below wd9.heap.size wd9 w') ∧ (B = false → ∀ w9 : World, Below wd9.heap.size wd9 w9 → Calls Tryz.prog 19 #[(.pointer (some ⟨vp2, 0, none⟩)), .agg #[.int .i64 z0, .int .i64 z1, .int .i64 z2, .int .i64 z3, .bool z4, .slice z5a z5n z5c, .slice z6a z6n z6c]] w9 fun e w' => e = .returned (.bool true) ∧ Below w9.heap.size w9 w') by
    obtain ⟨al, cl, ad, cd, xs, hval, hat⟩ := HTM2.out.kp (KP.of hb8)
    obtain ⟨al2, cl2, ad2, cd2, xs2, hval2, hat2⟩ := HTP2.out.kp (KP.of hb8)
    have hva9 := HVA2.out.below hb8
    have hy := HYL.out
    have hyes : Rv.of vY nsX = RM → Calls Tryz.prog 19 #[(.pointer (some ⟨vp2, 0, none⟩)), .agg #[.int .i64 y0, .int .i64 y1, .int .i64 y2, .int .i64 y3, .bool y4, .slice y5a y5n y5c, .slice y6a y6n y6c]] wd9 fun e w' => e = .returned (.bool true) ∧ Below wd9.heap.size wd9 w' := fun h => by
     rw [hval, ← h]
     have hl : Reads wd9 5 (.slice al vY.idx.length cl) vY.idx.length (vY.idx.flatMap psC) := by
      have := hat.rl
      rw [← h] at this
      exact this
     exact same09_any (ns := nsX) hva9 al cl ad cd hl (by omega)
    have hpend : Rv.of vY nsX = RP → ∀ w9 : World, Below wd9.heap.size wd9 w9 → Calls Tryz.prog 19 #[(.pointer (some ⟨vp2, 0, none⟩)), .agg #[.int .i64 z0, .int .i64 z1, .int .i64 z2, .int .i64 z3, .bool z4, .slice z5a z5n z5c, .slice z6a z6n z6c]] w9 fun e w' => e = .returned (.bool true) ∧ Below w9.heap.size w9 w' := fun h w9 hb9 => by
     rw [hval2, ← h]
     have hl : Reads w9 5 (.slice al2 vY.idx.length cl2) vY.idx.length (vY.idx.flatMap psC) := by
      have := hat2.rl.below hb9
      rw [← h] at this
      exact this
     exact same09_any (ns := nsX) (hva9.below hb9) al2 cl2 ad2 cd2 hl (by omega)
    rcases HRY.out with h | h
    ·exact ⟨true, hyes h, fun e => by cases e⟩
    ·have hnum : vY.num = RM.num := HY1.out.trans TMN.out.1.symm
     have hml : RM.l.length ≤ 4096 := by have := TMN.out.2.2.2; omega
     rcases TDF.out with g | g | ⟨g1, g2⟩ | ⟨g1, g2, g3⟩
     ·exact ⟨true, hyes (h.trans g), fun e => by cases e⟩
     ·refine ⟨false, ?_, fun _ => hpend h⟩
      rw [hval]
      exact same09_noE hva9 RM al cl ad cd hat.rl hml hnum (fun e => g (by rw [← e, ← h]; rfl))
     ·refine ⟨false, ?_, fun _ => hpend h⟩
      rw [hval]
      exact same09_noS hva9 RM al cl ad cd hat.rl hml hnum (by rw [← g1, ← h]; rfl) (fun e => g2 (by rw [← e, ← h]; rfl))
     ·refine ⟨false, ?_, fun _ => hpend h⟩
      rw [hval]
      exact same09_noB hva9 RM al cl ad cd hat.rl hml hnum (by rw [← g1, ← h]; rfl) (by rw [← g2, ← h]; rfl) (fun e => g3 (by rw [← e, ← h]; rfl)))
   go_wp2_with fail
   refine (code0 _).mono ?_
   rintro e wx ⟨rfl, rfl⟩
   go_wp2_with fail
   refine HNM2.out.mono ?_
   rintro e we ⟨nv, rfl, hon, hbe⟩
   obtain ⟨an, cn, rfl, -⟩ := slice_of hon
   have HBE := Lib.hid hbe
   have TKM3 := Lib.hid (blk_below' TKM2.out hbe)
   have TKP3 := Lib.hid (blk_below' TKP2.out hbe)
   have hze := hbe.size
   clear hon hbe
   have HSE := Lib.hid (show ∃ B : Bool, (Calls Tryz.prog 19 #[(.pointer (some ⟨vp2, 0, none⟩)), .agg #[.int .i64 y0, .int .i64 y1, .int .i64 y2, .int .i64 y3, .bool y4, .slice y5a y5n y5c, .slice y6a y6n y6c]] we fun e w' => e = .returned (.bool B) ∧ Below we.heap.size we w') ∧ (B = false → ∀ w9 : World, Below we.heap.size we w9 → Calls Tryz.prog 19 #[(.pointer (some ⟨vp2, 0, none⟩)), .agg #[.int .i64 z0, .int .i64 z1, .int .i64 z2, .int .i64 z3, .bool z4, .slice z5a z5n z5c, .slice z6a z6n z6c]] w9 fun e w' => e = .returned (.bool true) ∧ Below w9.heap.size w9 w') from HSAME.out we HBE.out)
   obtain ⟨BB, hB1, hB2⟩ := HSE.out
   have HB1S := Lib.hid hB1
   have HB2S := Lib.hid hB2
   clear hB1 hB2
   obtain ⟨m0, m1, m2, m3, m4, m5, m6⟩ := cells7' TKM3.out
   have htm3 := blk_lt TKM3.out
   go_wp2_with fail
   refine HB1S.out.mono ?_
   rintro e wf ⟨rfl, hbf⟩
   have HBF := Lib.hid hbf
   have TKP4 := Lib.hid (blk_below' TKP3.out hbf)
   obtain ⟨g0, g1, g2, g3, g4, g5, g6⟩ := cells7' TKP4.out
   have htp4 := blk_lt TKP4.out
   clear m0 m1 m2 m3 m4 m5 m6 hbf
   cases BB with
   | true =>
    go_wp2_with fail
    go_ret
    exact ⟨rfl, (HBD.out.trans (HBE.out.mono HBD.out.size)).trans (HBF.out.mono (Nat.le_trans HBD.out.size hze))⟩
   | false =>
    go_wp2_with fail
    refine (HB2S.out (by first | trivial | rfl) wf HBF.out).mono ?_
    rintro e wg ⟨rfl, hbg⟩
    have HBG := Lib.hid (((HBD.out.trans (HBE.out.mono HBD.out.size)).trans (HBF.out.mono (Nat.le_trans HBD.out.size hze))).trans (hbg.mono (Nat.le_trans (Nat.le_trans HBD.out.size hze) HBF.out.size)))
    clear hbg
    go_wp2_with fail
    go_ret
    exact ⟨rfl, HBG.out⟩
end Go.Proofs.YtmkhacgdejkimaaGreatDoor
