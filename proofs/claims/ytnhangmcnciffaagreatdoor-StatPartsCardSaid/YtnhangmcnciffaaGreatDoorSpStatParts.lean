/- Law StatParts: the walk. -/
import Derived.Test.YtnhangmcnciffaaGreatDoorSp19
import Derived.Test.YtnhangmcnciffaaGreatDoorSpStatAlive
import Derived.Test.YtnhangmcnciffaaGreatDoorSp21
import Derived.Test.YtnhangmcnciffaaGreatDoorSp20
import Derived.Test.YtnhangmcnciffaaGreatDoorSpStatOf
namespace Go.Proofs.YtnhangmcnciffaaGreatDoor
set_option maxRecDepth 100000
set_option maxHeartbeats 8000000
open Go.RowKit
structure MadeP (w : World) (num vp dp : Nat) (F : Nat → Prop) (d : Dk) (v : Vl) (ns : List Nd) : Prop where
  vf : VF w vp dp F 245 d v
  vi : VI d v ns
  nm : v.num = num
  most : v.most = 1048576
  size : v.size ≤ 30000
  len : ns.length ≤ 60
theorem MadeP.of {w : World} {num : Nat} {l : List ActE} {vp dp : Nat} {F : Nat → Prop} {d : Dk} {v : Vl} {ns : List Nd} (hvf : VF w vp dp F 245 d v) (hvi : VI d v ns) (hac : Rv.of v ns = (rv0 num 1048576).acts (l.map ActE.act)) (hsz : v.size ≤ 16 + 336 * l.length) (hns : ns.length ≤ l.length) (h60 : l.length ≤ 60) : MadeP w num vp dp F d v ns := by
  refine ⟨hvf, hvi, ?_, ?_, by omega, by omega⟩
  · have h3 := congrArg Rv.num hac
    rw [Rv.acts_num] at h3
    exact h3
  · have h3 := congrArg Rv.most hac
    rw [Rv.acts_most] at h3
    exact h3
theorem MadeP.below {w w' : World} {num vp dp : Nat} {F : Nat → Prop} {d : Dk} {v : Vl} {ns : List Nd} (h : MadeP w num vp dp F d v ns) (hb : Below w.heap.size w w') : MadeP w' num vp dp F d v ns := by
  obtain ⟨h1, h2, h3, h4, h5, h6⟩ := h
  exact ⟨h1.kp (KP.of hb) (fun k hk => h1.lt k hk), h2, h3, h4, h5, h6⟩
theorem MadeP.st {w : World} {num vp dp : Nat} {F : Nat → Prop} {d : Dk} {v : Vl} {ns : List Nd} (h : MadeP w num vp dp F d v ns) : StAt w (vp, v) := by
  obtain ⟨ix, vx, P, g1, g2, g4⟩ := h.vf.at'
  have h1 := h.vi.len
  have h2 := leastN_le (l := v.idx) fun p hp => (h.vi.len_le hp).1
  have h3 := h.len
  have h4 := h.size
  have h5 := h.vi.size
  refine ⟨⟨dp, ix, vx, g1⟩, fun p hp => (h.vi.len_le hp).1, ⟨by show 1 ≤ v.size; omega, by show v.size ≤ _; omega⟩, by show leastN v.idx ≤ _; omega, by show v.idx.length ≤ _; omega⟩
theorem cells4' {w : World} {b : Nat} {T : TypeId} {v0 v1 v2 v3 : Value} (h : w.heap[b]? = some (.cells #[v0, v1, v2, v3] T (0, 0))) : w.cell? ⟨b, 0, none⟩ = some v0 ∧ w.cell? ⟨b, 1, none⟩ = some v1 ∧ w.cell? ⟨b, 2, none⟩ = some v2 ∧ w.cell? ⟨b, 3, none⟩ = some v3 := by
  have e := fun j => cell_of_row w b j _ _ _ h
  exact ⟨e 0, e 1, e 2, e 3⟩
theorem StAt.stof {w : World} {vp : Nat} {v : Vl} (h : StAt w (vp, v)) : Calls Tryz.prog 12 #[(.pointer (some ⟨vp, 0, none⟩))] w fun e w' => e = .returned (.tuple #[oneV v, .nilIface]) ∧ Below w.heap.size w w' := by
  obtain ⟨⟨dp, ix, vx, h0⟩, h1, h2, h3, h4⟩ := h
  exact stof_any h0 h1 h2 h3
theorem statParts_walk (a ab ad : Option Addr) (len cap lenb capb dn dc : Nat) (la lb : List ActE) (xs : List UInt8) (w : World) (hl : la.length = len) (hr : Reads w 6 (.slice a len cap) len (la.flatMap ActE.cs)) (ho : ∀ x ∈ la, ActArg w x) (hlb : lb.length = lenb) (hrb : Reads w 6 (.slice ab lenb capb) lenb (lb.flatMap ActE.cs)) (hob : ∀ x ∈ lb, ActArg w x) (hxl : xs.length = dn) (hrx : Reads w 1 (.slice ad dn dc) dn (xs.map bv)) :
    Calls Tryz.prog 4 #[.slice a len cap, .slice ab lenb capb, .slice ad dn dc] w fun e w' => e = .returned (.bool true) ∧ Below w.heap.size w w' := by
  have HL := Lib.hid hl
  have HR := Lib.hid hr
  have HO := Lib.hid ho
  have HLB := Lib.hid hlb
  have HRB := Lib.hid hrb
  have HOB := Lib.hid hob
  have HRX := Lib.hid hrx
  clear hl hr ho hlb hrb hob hrx
  subst hxl
  go_enter Tryz.func4, Tryz.ntmps4
  go_wp2_with fail
  refine (alive26 w).mono ?_
  rintro e w1 ⟨rfl, hb⟩
  have HB1 := Lib.hid hb
  have hz1 := hb.size
  clear hb
  go_wp2_with fail
  refine (far9_any a len cap la w1 HL.out (HR.out.below HB1.out)).mono ?_
  rintro e wx ⟨rfl, rfl⟩
  cases hfa : far9 la
  case true =>
    go_wp2_with fail
    go_ret
    exact ⟨rfl, HB1.out⟩
  have HFA := Lib.hid (far9_no hfa)
  clear hfa
  go_wp2_with fail
  refine (far9_any ab lenb capb lb w1 HLB.out (HRB.out.below HB1.out)).mono ?_
  rintro e wx ⟨rfl, rfl⟩
  cases hfb : far9 lb
  case true =>
    go_wp2_with fail
    go_ret
    exact ⟨rfl, HB1.out⟩
  have HFB := Lib.hid (far9_no hfb)
  clear hfb
  by_cases hdl : (300 : Int) < (xs.length : Int)
  · have hd1 : decide ((300 : Int) < (xs.length : Int)) = true := by simp; omega
    have hd2 : decide (300 < xs.length) = true := by simp; omega
    go_wp2_with fail
    go_ret
    exact ⟨rfl, HB1.out⟩
  have hd1 : decide ((300 : Int) < (xs.length : Int)) = false := by simp; omega
  have hd2 : decide (300 < xs.length) = false := by simp; omega
  have h60 : len ≤ 60 := by rw [← HL.out]; exact HFA.out.1
  have h60b : lenb ≤ 60 := by rw [← HLB.out]; exact HFB.out.1
  have HMA := Lib.hid (show Calls Tryz.prog 11 #[.int .i64 1, .slice a len cap] w1 (MadeD w1 1 la) from made26_any 1 (.inl rfl) a len cap la w1 HL.out (HR.out.below HB1.out) (fun x hx => (HO.out x hx).below HB1.out) h60 HFA.out.2)
  have HMB := Lib.hid (fun (w0 : World) (hb : Below w1.heap.size w1 w0) => show Calls Tryz.prog 11 #[.int .i64 2, .slice ab lenb capb] w0 (MadeD w0 2 lb) from made26_any 2 (.inr (.inl rfl)) ab lenb capb lb w0 HLB.out ((HRB.out.below HB1.out).below hb) (fun x hx => ((HOB.out x hx).below HB1.out).below hb) h60b HFB.out.2)
  unfold MadeD at HMA HMB
  go_wp2_with fail
  refine HMA.out.mono ?_
  rintro e w2 ⟨vp, dp, F, val, d, v, ns, rfl, hvf, hfb, hvi, hrv, hac, hsz, hns, hb⟩
  have HM2 := Lib.hid (MadeP.of hvf hvi hac hsz hns (by rw [HL.out]; exact h60))
  have HF := Lib.hid hfb
  obtain ⟨u0, u1, u2, u3, u4, u5a, u5n, u5c, u6a, u6n, u6c, rfl⟩ := RvIn.agg hrv
  have HB2 := Lib.hid (HB1.out.trans (hb.mono hz1))
  have HB12 := Lib.hid hb
  have hz2 := hb.size
  clear hvf hfb hvi hrv hac hsz hns hb
  go_upto_region 6 with fail
  obtain ⟨w3, hw3⟩ : ∃ w3 : World, w3 = w2.alloc (.cells #[.int .i64 u0, .int .i64 u1, .int .i64 u2, .int .i64 u3, .bool u4, .slice u5a u5n u5c, .slice u6a u6n u6c] 30) := ⟨_, rfl⟩
  have HB23 := Lib.hid (show Below w2.heap.size w2 w3 by rw [hw3]; exact (by repeat (first | (with_reducible first | exact .refl _ _ | refine .setCell ?_ ?_ _ | refine .alloc ?_ ?_ _ | refine .drewN ?_ _ | refine .drew ?_ | exact Nat.le_refl _) | (focus (simp only [World.size_alloc, World.size_setCell, World.size_drew, World.size_drewN]; omega)) | omega | exact Nat.le_refl _ | (focus (simp; done)) | (focus (simp; omega)))))
  have HM3 := Lib.hid (HM2.out.below HB23.out)
  have HB3 := Lib.hid (HB2.out.trans (HB23.out.mono HB2.out.size))
  rw [← hw3]
  clear hw3
  obtain ⟨MA, hMA⟩ : ∃ MA, MA = w2.heap.size := ⟨_, rfl⟩
  rw [← hMA]
  clear hMA
  go_wp2_with fail
  refine (HMB.out w3 (HB12.out.trans (HB23.out.mono HB12.out.size))).mono ?_
  rintro e w4 ⟨vq, dq, Fq, valq, dd, vv, nsq, rfl, hvf, hfb, hvi, hrv, hac, hsz, hns, hb⟩
  have HN4 := Lib.hid (MadeP.of hvf hvi hac hsz hns (by rw [HLB.out]; exact h60b))
  obtain ⟨y0, y1, y2, y3, y4, y5a, y5n, y5c, y6a, y6n, y6c, rfl⟩ := RvIn.agg hrv
  have HM4 := Lib.hid (HM3.out.below hb)
  have HB4 := Lib.hid (HB3.out.trans (hb.mono HB3.out.size))
  have HB14 := Lib.hid ((HB12.out.trans (HB23.out.mono HB12.out.size)).trans (hb.mono (HB12.out.trans (HB23.out.mono HB12.out.size)).size))
  clear hvf hfb hvi hrv hac hsz hns hb
  go_upto_region 7 with fail
  obtain ⟨w5, hw5⟩ : ∃ w5 : World, w5 = w4.alloc (.cells #[.int .i64 y0, .int .i64 y1, .int .i64 y2, .int .i64 y3, .bool y4, .slice y5a y5n y5c, .slice y6a y6n y6c] 30) := ⟨_, rfl⟩
  have hb5 : Below w4.heap.size w4 w5 := by rw [hw5]; exact (by repeat (first | (with_reducible first | exact .refl _ _ | refine .setCell ?_ ?_ _ | refine .alloc ?_ ?_ _ | refine .drewN ?_ _ | refine .drew ?_ | exact Nat.le_refl _) | (focus (simp only [World.size_alloc, World.size_setCell, World.size_drew, World.size_drewN]; omega)) | omega | exact Nat.le_refl _ | (focus (simp; done)) | (focus (simp; omega))))
  have HM5 := Lib.hid (HM4.out.below hb5)
  have HN5 := Lib.hid (HN4.out.below hb5)
  have HB5 := Lib.hid (HB4.out.trans (hb5.mono HB4.out.size))
  have HB15 := Lib.hid (HB14.out.trans (hb5.mono HB14.out.size))
  rw [← hw5]
  clear hw5 hb5
  obtain ⟨MB, hMB⟩ : ∃ MB, MB = w4.heap.size := ⟨_, rfl⟩
  rw [← hMB]
  clear hMB
  obtain ⟨s1, hs1⟩ : ∃ x, x = v.size := ⟨_, rfl⟩
  obtain ⟨L1, hL1⟩ : ∃ x, x = leastN v.idx := ⟨_, rfl⟩
  obtain ⟨G1, hG1⟩ : ∃ x, x = goneN v.idx := ⟨_, rfl⟩
  obtain ⟨M1, hM1⟩ : ∃ x, x = v.idx.length - goneN v.idx := ⟨_, rfl⟩
  obtain ⟨s2, hs2⟩ : ∃ x, x = vv.size := ⟨_, rfl⟩
  obtain ⟨L2, hL2⟩ : ∃ x, x = leastN vv.idx := ⟨_, rfl⟩
  obtain ⟨G2, hG2⟩ : ∃ x, x = goneN vv.idx := ⟨_, rfl⟩
  obtain ⟨M2, hM2⟩ : ∃ x, x = vv.idx.length - goneN vv.idx := ⟨_, rfl⟩
  have HTL := Lib.hid (fun (l : List (Option (Nat × Vl))) (n : Nat) (hn : l.length = n) (h8 : n ≤ 8) (hl : ∀ p, some p ∈ l → p = (vp, v) ∨ p = (vq, vv)) (w0 : World) (hb : Below w5.heap.size w5 w0) (b : Nat) (t : TypeId) (hk : w0.heap[b]? = some (.cells (l.map ptrO).toArray t (0, 0))) => tog_any (some ⟨b, 0, none⟩) n n l w0 hn h8 (by have := reads_cells hk (n := n) (by simp [hn]) (by unfold maxLen; omega); simpa using this) (fun p hp => by
    rcases hl p hp with rfl | rfl
    · exact HM5.out.st.below hb
    · exact HN5.out.st.below hb))
  obtain ⟨SH1, HT1⟩ : ∃ SH1 : Int, Hid (∀ (w0 : World), Below w5.heap.size w5 w0 → ∀ (b : Nat) (t : TypeId), w0.heap[b]? = some (.cells #[(.pointer (some ⟨vp, 0, none⟩))] t (0, 0)) → Calls Tryz.prog 14 #[.slice (some ⟨b, 0, none⟩) 1 1] w0 fun e w' => e = .returned (.agg #[.int .i64 1, .int .i64 s1, .int .i64 L1, .int .i64 ((s1 : Int) - (L1 : Int)), .int .i64 SH1, .int .i64 M1, .int .i64 G1]) ∧ Below w0.heap.size w0 w') := ⟨_, Lib.hid fun w0 hb b t hk => by
    have h := HTL.out [some (vp, v)] 1 rfl (by omega) (by simp) w0 hb b t hk
    rw [show sumL [some (vp, v)] = ⟨1, s1, L1, (s1 : Int) - L1, M1, G1⟩ by simp [sumL, Sm.put, Sm.add, hs1, hL1, hG1, hM1]] at h
    exact h⟩
  obtain ⟨SH2, HT2⟩ : ∃ SH2 : Int, Hid (∀ (w0 : World), Below w5.heap.size w5 w0 → ∀ (b : Nat) (t : TypeId), w0.heap[b]? = some (.cells #[(.pointer (some ⟨vq, 0, none⟩))] t (0, 0)) → Calls Tryz.prog 14 #[.slice (some ⟨b, 0, none⟩) 1 1] w0 fun e w' => e = .returned (.agg #[.int .i64 1, .int .i64 s2, .int .i64 L2, .int .i64 ((s2 : Int) - (L2 : Int)), .int .i64 SH2, .int .i64 M2, .int .i64 G2]) ∧ Below w0.heap.size w0 w') := ⟨_, Lib.hid fun w0 hb b t hk => by
    have h := HTL.out [some (vq, vv)] 1 rfl (by omega) (by simp) w0 hb b t hk
    rw [show sumL [some (vq, vv)] = ⟨1, s2, L2, (s2 : Int) - L2, M2, G2⟩ by simp [sumL, Sm.put, Sm.add, hs2, hL2, hG2, hM2]] at h
    exact h⟩
  obtain ⟨SH3, HT3⟩ : ∃ SH3 : Int, Hid (∀ (w0 : World), Below w5.heap.size w5 w0 → ∀ (b : Nat) (t : TypeId), w0.heap[b]? = some (.cells #[(.pointer (some ⟨vq, 0, none⟩)), (.pointer (some ⟨vp, 0, none⟩))] t (0, 0)) → Calls Tryz.prog 14 #[.slice (some ⟨b, 0, none⟩) 2 2] w0 fun e w' => e = .returned (.agg #[.int .i64 2, .int .i64 ((s1 : Int) + (s2 : Int)), .int .i64 ((L1 : Int) + (L2 : Int)), .int .i64 (((s1 : Int) - (L1 : Int)) + ((s2 : Int) - (L2 : Int))), .int .i64 SH3, .int .i64 ((M1 : Int) + (M2 : Int)), .int .i64 ((G1 : Int) + (G2 : Int))]) ∧ Below w0.heap.size w0 w') := ⟨_, Lib.hid fun w0 hb b t hk => by
    have h := HTL.out [some (vq, vv), some (vp, v)] 2 rfl (by omega) (by simp) w0 hb b t hk
    rw [show sumL [some (vq, vv), some (vp, v)] = ⟨2, (s1 : Int) + s2, (L1 : Int) + L2, ((s1 : Int) - L1) + ((s2 : Int) - L2), (M1 : Int) + M2, (G1 : Int) + G2⟩ by
      simp only [sumL, List.foldl, Sm.put, Sm.add, hs2, hL2, hG2, hM2, hs1, hL1, hG1, hM1, Sm.mk.injEq]
      refine ⟨?_, ?_, ?_, ?_, ?_, ?_⟩ <;> omega] at h
    exact h⟩
  have hA := HM5.out.st.2
  have hB := HN5.out.st.2
  have hg1 : goneN v.idx ≤ v.idx.length := List.countP_le_length
  have hg2 : goneN vv.idx ≤ vv.idx.length := List.countP_le_length
  obtain ⟨-, a2, a3, a4⟩ := hA
  obtain ⟨-, b2, b3, b4⟩ := hB
  simp only at a2 a3 a4 b2 b3 b4
  have hm1 : M1 ≤ 4096 := by omega
  have hm2 : M2 ≤ 4096 := by omega
  have hg1' : G1 ≤ 4096 := by omega
  have hg2' : G2 ≤ 4096 := by omega
  rw [← hs1] at a2
  rw [← hL1] at a3
  rw [← hs2] at b2
  rw [← hL2] at b3
  have HS1 := Lib.hid hs1
  have HL1 := Lib.hid hL1
  clear a4 b4 hg1 hg2 HTL hs1 hL1 hG1 hM1 hs2 hL2 hG2 hM2
  go_wp2_with fail
  refine (HT1.out _ (Below.alloc (Below.refl _ _) (Nat.le_refl _) _) _ _ (heap_new _ _)).mono ?_
  rintro e w6 ⟨rfl, hb⟩
  have HB56 := Lib.hid (show Below w5.heap.size w5 w6 from ((Below.refl _ _).alloc (Nat.le_refl _) _).trans (hb.mono (by simp)))
  clear hb
  go_wp2_with fail
  refine (HT2.out _ (HB56.out.alloc HB56.out.size _) _ _ (heap_new _ _)).mono ?_
  rintro e w7 ⟨rfl, hb⟩
  have HB57 := Lib.hid (show Below w5.heap.size w5 w7 from HB56.out.trans ((((Below.refl _ _).alloc (Nat.le_refl _) _).trans (hb.mono (by simp))).mono HB56.out.size))
  clear hb
  go_wp2_with fail
  refine (HT3.out _ (HB57.out.alloc HB57.out.size _) _ _ (heap_new _ _)).mono ?_
  rintro e w8 ⟨rfl, hb⟩
  have HB58 := Lib.hid (show Below w5.heap.size w5 w8 from HB57.out.trans ((((Below.refl _ _).alloc (Nat.le_refl _) _).trans (hb.mono (by simp))).mono HB57.out.size))
  clear hb
  go_upto_region 8 with fail
  obtain ⟨w9, hw9⟩ : ∃ w9 : World, w9 = ((w8.alloc (.cells #[.int .i64 1, .int .i64 s1, .int .i64 L1, .int .i64 ((s1 : Int) - (L1 : Int)), .int .i64 SH1, .int .i64 M1, .int .i64 G1] 42)).alloc (.cells #[.int .i64 1, .int .i64 s2, .int .i64 L2, .int .i64 ((s2 : Int) - (L2 : Int)), .int .i64 SH2, .int .i64 M2, .int .i64 G2] 42)).alloc (.cells #[.int .i64 2, .int .i64 ((s1 : Int) + (s2 : Int)), .int .i64 ((L1 : Int) + (L2 : Int)), .int .i64 (((s1 : Int) - (L1 : Int)) + ((s2 : Int) - (L2 : Int))), .int .i64 SH3, .int .i64 ((M1 : Int) + (M2 : Int)), .int .i64 ((G1 : Int) + (G2 : Int))] 42) := ⟨_, rfl⟩
  have hb9 : Below w8.heap.size w8 w9 := by rw [hw9]; exact (by repeat (first | (with_reducible first | exact .refl _ _ | refine .setCell ?_ ?_ _ | refine .alloc ?_ ?_ _ | refine .drewN ?_ _ | refine .drew ?_ | exact Nat.le_refl _) | (focus (simp only [World.size_alloc, World.size_setCell, World.size_drew, World.size_drewN]; omega)) | omega | exact Nat.le_refl _ | (focus (simp; done)) | (focus (simp; omega))))
  have KPP := Lib.hid (show w9.heap[w8.heap.size]? = some (.cells #[.int .i64 1, .int .i64 s1, .int .i64 L1, .int .i64 ((s1 : Int) - (L1 : Int)), .int .i64 SH1, .int .i64 M1, .int .i64 G1] 42 (0, 0)) by rw [hw9]; exact (by repeat (first | (with_reducible refine blk_drew ?_) | (with_reducible refine blk_drewN _ ?_) | ((with_reducible refine blk_new _ ?_); (focus (simp; done))) | (with_reducible refine blk_alloc ?_ _))))
  have KQ := Lib.hid (show w9.heap[w8.heap.size + 1]? = some (.cells #[.int .i64 1, .int .i64 s2, .int .i64 L2, .int .i64 ((s2 : Int) - (L2 : Int)), .int .i64 SH2, .int .i64 M2, .int .i64 G2] 42 (0, 0)) by rw [hw9]; exact (by repeat (first | (with_reducible refine blk_drew ?_) | (with_reducible refine blk_drewN _ ?_) | ((with_reducible refine blk_new _ ?_); (focus (simp; done))) | (with_reducible refine blk_alloc ?_ _))))
  have KS := Lib.hid (show w9.heap[w8.heap.size + 1 + 1]? = some (.cells #[.int .i64 2, .int .i64 ((s1 : Int) + (s2 : Int)), .int .i64 ((L1 : Int) + (L2 : Int)), .int .i64 (((s1 : Int) - (L1 : Int)) + ((s2 : Int) - (L2 : Int))), .int .i64 SH3, .int .i64 ((M1 : Int) + (M2 : Int)), .int .i64 ((G1 : Int) + (G2 : Int))] 42 (0, 0)) by rw [hw9]; exact (by repeat (first | (with_reducible refine blk_drew ?_) | (with_reducible refine blk_drewN _ ?_) | ((with_reducible refine blk_new _ ?_); (focus (simp; done))) | (with_reducible refine blk_alloc ?_ _))))
  have HB59 := Lib.hid (HB58.out.trans (hb9.mono HB58.out.size))
  rw [← hw9]
  clear hw9 hb9
  have hw1 : IntKind.i64.wrap ((s1 : Int) + (s2 : Int)) = (s1 : Int) + (s2 : Int) := by rw [IntKind.wrap_i64]; omega
  have hw2 : IntKind.i64.wrap ((L1 : Int) + (L2 : Int)) = (L1 : Int) + (L2 : Int) := by rw [IntKind.wrap_i64]; omega
  have hw3 : IntKind.i64.wrap (((s1 : Int) - (L1 : Int)) + ((s2 : Int) - (L2 : Int))) = ((s1 : Int) - (L1 : Int)) + ((s2 : Int) - (L2 : Int)) := by rw [IntKind.wrap_i64]; omega
  have hw6 : IntKind.i64.wrap ((M1 : Int) + (M2 : Int)) = (M1 : Int) + (M2 : Int) := by rw [IntKind.wrap_i64]; omega
  have hw7 : IntKind.i64.wrap ((G1 : Int) + (G2 : Int)) = (G1 : Int) + (G2 : Int) := by rw [IntKind.wrap_i64]; omega
  obtain ⟨p0, p1, p2, p3, p4, p5, p6⟩ := cells7' KPP.out
  obtain ⟨q0, q1, q2, q3, q4, q5, q6⟩ := cells7' KQ.out
  obtain ⟨r0, r1, r2, r3, r4, r5, r6⟩ := cells7' KS.out
  have HM9 := Lib.hid (HM5.out.below HB59.out)
  obtain ⟨n1, hn1⟩ : ∃ x, x = v.num := ⟨_, rfl⟩
  obtain ⟨Q1, HOF⟩ : ∃ Q1 : Int, Hid (Calls Tryz.prog 12 #[(.pointer (some ⟨vp, 0, none⟩))] w9 fun e w' => e = .returned (.tuple #[.agg #[.int .i64 n1, .int .i64 s1, .int .i64 L1, .int .i64 ((s1 : Int) - (L1 : Int)), .int .i64 Q1], .nilIface]) ∧ Below w9.heap.size w9 w') := ⟨_, Lib.hid (by
    have h := HM9.out.st.stof
    unfold oneV at h
    rw [← HS1.out, ← HL1.out, ← hn1] at h
    exact h)⟩
  have HNU := Lib.hid hn1
  clear hn1
  go_wp2_with fail
  refine HOF.out.mono ?_
  rintro e w10 ⟨rfl, hb⟩
  have HM10 := Lib.hid (HM9.out.below hb)
  have HB10 := Lib.hid (HB5.out.trans ((HB59.out.trans (hb.mono HB59.out.size)).mono HB5.out.size))
  have HB110 := Lib.hid (HB15.out.trans ((HB59.out.trans (hb.mono HB59.out.size)).mono HB15.out.size))
  clear hb HOF p0 p1 p2 p3 p4 p5 p6 q0 q1 q2 q3 q4 q5 q6 r0 r1 r2 r3 r4 r5 r6
  go_upto_region 11 with fail
  obtain ⟨w11, hw11⟩ : ∃ w11 : World, w11 = w10.alloc (.cells #[.int .i64 n1, .int .i64 s1, .int .i64 L1, .int .i64 ((s1 : Int) - (L1 : Int)), .int .i64 Q1] 34) := ⟨_, rfl⟩
  have hb11 : Below w10.heap.size w10 w11 := by rw [hw11]; exact (by repeat (first | (with_reducible first | exact .refl _ _ | refine .setCell ?_ ?_ _ | refine .alloc ?_ ?_ _ | refine .drewN ?_ _ | refine .drew ?_ | exact Nat.le_refl _) | (focus (simp only [World.size_alloc, World.size_setCell, World.size_drew, World.size_drewN]; omega)) | omega | exact Nat.le_refl _ | (focus (simp; done)) | (focus (simp; omega))))
  have KX11 := Lib.hid (show w11.heap[w10.heap.size]? = some (.cells #[.int .i64 n1, .int .i64 s1, .int .i64 L1, .int .i64 ((s1 : Int) - (L1 : Int)), .int .i64 Q1] 34 (0, 0)) by rw [hw11]; exact heap_new w10 _)
  have HM11 := Lib.hid (HM10.out.below hb11)
  have HB11 := Lib.hid (HB10.out.trans (hb11.mono HB10.out.size))
  have HB111 := Lib.hid (HB110.out.trans (hb11.mono HB110.out.size))
  rw [← hw11]
  clear hw11 hb11
  obtain ⟨XB, hXB⟩ : ∃ XB, XB = w10.heap.size := ⟨_, rfl⟩
  rw [← hXB] at KX11 ⊢
  have hX1 : w1.heap.size ≤ XB := by rw [hXB]; exact HB110.out.size
  have hXF := Lib.hid (show ¬ F XB from fun e => by have := HM10.out.vf.lt XB e; omega)
  clear hXB
  go_upto_region 12 with fail
  obtain ⟨w12, hw12⟩ : ∃ w12 : World, w12 = w11.alloc (.cells #[.int .u64 9223372036854775813, .int .u32 3, .bool false, .slice ad xs.length dc] 54) := ⟨_, rfl⟩
  have hb12 : Below w11.heap.size w11 w12 := by rw [hw12]; exact (by repeat (first | (with_reducible first | exact .refl _ _ | refine .setCell ?_ ?_ _ | refine .alloc ?_ ?_ _ | refine .drewN ?_ _ | refine .drew ?_ | exact Nat.le_refl _) | (focus (simp only [World.size_alloc, World.size_setCell, World.size_drew, World.size_drewN]; omega)) | omega | exact Nat.le_refl _ | (focus (simp; done)) | (focus (simp; omega))))
  have KN12 := Lib.hid (show w12.heap[w11.heap.size]? = some (.cells #[.int .u64 9223372036854775813, .int .u32 3, .bool false, .slice ad xs.length dc] 54 (0, 0)) by rw [hw12]; exact heap_new w11 _)
  have KX12 := Lib.hid (blk_below' KX11.out hb12)
  have HM12 := Lib.hid (HM11.out.below hb12)
  have HB12' := Lib.hid (HB11.out.trans (hb12.mono HB11.out.size))
  have HB112 := Lib.hid (HB111.out.trans (hb12.mono HB111.out.size))
  rw [← hw12]
  clear hw12 hb12
  obtain ⟨NB, hNB⟩ : ∃ NB, NB = w11.heap.size := ⟨_, rfl⟩
  rw [← hNB] at KN12 ⊢
  have hNX : XB < NB := by rw [hNB]; exact blk_lt KX11.out
  have hNF := Lib.hid (show ¬ F NB from fun e => by have := HM11.out.vf.lt NB e; omega)
  clear hNB
  have hF1 : ∀ k, F k → w1.heap.size ≤ k := fun k hk => HF.out k hk
  have hdl' : xs.length ≤ 300 := by omega
  have hcap : v.size + 1000 ≤ 1048576 := by have := HM12.out.size; omega
  have HPT := Lib.hid (put_vs (HM12.out.vf.vs (P := fun k => k < w12.heap.size ∧ ¬ F k) (fun k hk e => e.2 hk)) (fun k hk => hk.1) ⟨9223372036854775813, 3, false, xs⟩ ad dc (show 9223372036854775813 < 18446744073709551616 by decide) (show 3 < 4294967296 by decide) (show xs.length ≤ 1000000000 by omega) (HRX.out.below HB12'.out))
  have HC17 := Lib.hid (put_code17 HM12.out.vi 9223372036854775813 (by decide) xs hdl' hcap)
  have HTO := Lib.hid (fun h0 => parts_to HM12.out.vi 9223372036854775813 (by decide) xs hdl' hcap HM12.out.most h0)
  unfold ndV at HPT
  simp only at HPT
  obtain ⟨kc, hkc⟩ : ∃ kc, kc = (v.put d ⟨9223372036854775813, 3, false, xs⟩).1 := ⟨_, rfl⟩
  obtain ⟨d1, hd1'⟩ : ∃ d1, d1 = (v.put d ⟨9223372036854775813, 3, false, xs⟩).2.1 := ⟨_, rfl⟩
  obtain ⟨v1, hv1⟩ : ∃ v1, v1 = (v.put d ⟨9223372036854775813, 3, false, xs⟩).2.2 := ⟨_, rfl⟩
  rw [← hkc, ← hd1', ← hv1] at HPT
  rw [← hkc] at HC17
  have HKC := Lib.hid hkc
  have HD1 := Lib.hid hd1'
  have HV1 := Lib.hid hv1
  clear hkc hd1' hv1 hF1 hcap
  obtain ⟨c0, c1, c2, c3⟩ := cells4' KN12.out
  have hln := blk_lt KN12.out
  go_wp2_with fail
  refine HPT.out.mono ?_
  rintro e w13 ⟨rfl, ht⟩
  have HT13 := Lib.hid ht
  have HB13 := Lib.hid (HB12'.out.trans (ht.2.below (B := w.heap.size) HB12'.out.size (fun k hk => ⟨by have := HB12'.out.size; omega, fun e => by have := HF.out k e; omega⟩)))
  clear ht c0 c1 c2 c3 hln
  go_wp2_with fail
  refine (code_any kc (by omega) (by have := HC17.out; omega) w13).mono ?_
  rintro e wx ⟨rfl, rfl⟩
  by_cases hk0 : kc = 0
  case neg =>
    have hk1 : ((kc : Int) != 0) = true := by simp; omega
    have hk2 : (kc != 0) = true := by simp; omega
    go_wp2_with fail
    go_ret
    exact ⟨rfl, HB13.out⟩
  subst hk0
  obtain ⟨t1, t2, t3, t4, t5, t6, t7, t8, t9⟩ := HTO.out HKC.out.symm
  rw [← HV1.out] at t1 t2 t3 t4
  rw [← HV1.out, ← HD1.out] at t5 t6 t7 t8 t9
  have hpu : ndSize xs.length ≤ 400 := by unfold ndSize padN; omega
  have hde : ndSize 0 ≤ 32 := Nat.le_refl _
  obtain ⟨PU, hPU⟩ : ∃ PU, PU = ndSize xs.length := ⟨_, rfl⟩
  obtain ⟨DE, hDE⟩ : ∃ DE, DE = ndSize 0 := ⟨_, rfl⟩
  rw [← hPU] at t1 t3 t6 hpu
  rw [← hDE] at t6 t8 hde
  have HPU := Lib.hid hPU
  have HDE := Lib.hid hDE
  clear hPU hDE
  have b5 := HM12.out.size
  have b6 := HM12.out.len
  have b7 := HM12.out.vi.len
  have b8 := leastN_le (l := v1.idx) t4.2
  have b9 := leastN_le (l := (v1.del d1 9223372036854775813 3).2.2.idx) t9.2
  have b10 := HM12.out.vi.size
  have b11 := t4.1
  have b12 := t9.1
  have HST13 := Lib.hid (show StAt w13 (vp, v1) by
    obtain ⟨ix, vx, g1, -⟩ := HT13.out.1
    exact ⟨⟨dp, ix, vx, g1⟩, t4.2, ⟨by show 1 ≤ v1.size; omega, by show v1.size ≤ _; omega⟩, by show leastN v1.idx ≤ _; omega, by show v1.idx.length ≤ _; omega⟩)
  obtain ⟨Q2, HO1⟩ : ∃ Q2 : Int, Hid (Calls Tryz.prog 12 #[(.pointer (some ⟨vp, 0, none⟩))] w13 fun e w' => e = .returned (.tuple #[.agg #[.int .i64 n1, .int .i64 ((s1 : Int) + (PU : Int)), .int .i64 ((L1 : Int) + (PU : Int)), .int .i64 ((s1 : Int) - (L1 : Int)), .int .i64 Q2], .nilIface]) ∧ Below w13.heap.size w13 w') := ⟨_, Lib.hid (by
    have h := HST13.out.stof
    unfold oneV at h
    rw [t2, ← HNU.out, show ((v1.size : Nat) : Int) = (s1 : Int) + (PU : Int) by have := HS1.out; omega, show ((leastN v1.idx : Nat) : Int) = (L1 : Int) + (PU : Int) by have := HL1.out; omega, show ((s1 : Int) + (PU : Int)) - ((L1 : Int) + (PU : Int)) = (s1 : Int) - (L1 : Int) by omega] at h
    exact h)⟩
  have KX13 := Lib.hid (KP.blk HT13.out.2 KX12.out ⟨blk_lt KX12.out, hXF.out⟩)
  have KN13 := Lib.hid (KP.blk HT13.out.2 KN12.out ⟨blk_lt KN12.out, hNF.out⟩)
  have HT2 := Lib.hid t2
  have HT5 := Lib.hid t5
  have HT6 := Lib.hid t6
  have HT7 := Lib.hid t7
  have HT8 := Lib.hid t8
  have HT9 := Lib.hid t9
  clear t1 t2 t3 t4 t5 t6 t7 t8 t9 b5 b6 b7 b8 b10 b11
  have hcast : (((0 : Nat) : Int) != (0 : Int)) = false := rfl
  go_wp2_with fail
  refine HO1.out.mono ?_
  rintro e w14 ⟨rfl, hb⟩
  have HB1314 := Lib.hid hb
  clear hb HO1
  go_upto_region 15 with fail
  obtain ⟨w15, hw15⟩ : ∃ w15 : World, w15 = w14.alloc (.cells #[.int .i64 n1, .int .i64 ((s1 : Int) + (PU : Int)), .int .i64 ((L1 : Int) + (PU : Int)), .int .i64 ((s1 : Int) - (L1 : Int)), .int .i64 Q2] 34) := ⟨_, rfl⟩
  have hb15 : Below w14.heap.size w14 w15 := by rw [hw15]; exact (by repeat (first | (with_reducible first | exact .refl _ _ | refine .setCell ?_ ?_ _ | refine .alloc ?_ ?_ _ | refine .drewN ?_ _ | refine .drew ?_ | exact Nat.le_refl _) | (focus (simp only [World.size_alloc, World.size_setCell, World.size_drew, World.size_drewN]; omega)) | omega | exact Nat.le_refl _ | (focus (simp; done)) | (focus (simp; omega))))
  have KY15 := Lib.hid (show w15.heap[w14.heap.size]? = some (.cells #[.int .i64 n1, .int .i64 ((s1 : Int) + (PU : Int)), .int .i64 ((L1 : Int) + (PU : Int)), .int .i64 ((s1 : Int) - (L1 : Int)), .int .i64 Q2] 34 (0, 0)) by rw [hw15]; exact heap_new w14 _)
  have HB1315 := Lib.hid (HB1314.out.trans (hb15.mono HB1314.out.size))
  have KX15 := Lib.hid (blk_below' KX13.out HB1315.out)
  have KN15 := Lib.hid (blk_below' KN13.out HB1315.out)
  have HB15' := Lib.hid (HB13.out.trans (HB1315.out.mono HB13.out.size))
  rw [← hw15]
  clear hw15 hb15
  have hyw := HB1314.out.size
  have hxw := blk_lt KX13.out
  have hnw := blk_lt KN13.out
  obtain ⟨YB, hYB⟩ : ∃ YB, YB = w14.heap.size := ⟨_, rfl⟩
  rw [← hYB] at KY15 hyw ⊢
  have hYX : XB < YB := by omega
  have hYN : NB < YB := by omega
  clear hYB
  have HVS15 := Lib.hid (HT13.out.1.later (R := fun k => k < w15.heap.size ∧ ((k < w12.heap.size ∧ ¬ F k) ∨ w13.heap.size ≤ k)) HB1315.out (fun k hk => hk.2))
  have HDL := Lib.hid (del_vs HVS15.out (fun k hk => hk.1) 9223372036854775813 3 (by decide) (by decide))
  rw [HT5.out, show errV ((0 : Nat) : Int) = .nilIface from rfl] at HDL
  obtain ⟨v2, hv2⟩ : ∃ v2, v2 = (v1.del d1 9223372036854775813 3).2.2 := ⟨_, rfl⟩
  rw [← hv2] at HDL HT6 HT7 HT8 HT9 b9 b12
  clear hv2
  obtain ⟨c0, c1, c2, c3⟩ := cells4' KN15.out
  have hln := blk_lt KN15.out
  go_wp2_with fail
  refine HDL.out.mono ?_
  rintro e w16 ⟨rfl, ht⟩
  have HT16 := Lib.hid ht
  have hPX : XB < w15.heap.size ∧ ((XB < w12.heap.size ∧ ¬ F XB) ∨ w13.heap.size ≤ XB) := ⟨blk_lt KX15.out, .inl ⟨blk_lt KX12.out, hXF.out⟩⟩
  have hPY : YB < w15.heap.size ∧ ((YB < w12.heap.size ∧ ¬ F YB) ∨ w13.heap.size ≤ YB) := ⟨blk_lt KY15.out, .inr hyw⟩
  have KX16 := Lib.hid (KP.blk ht.2 KX15.out hPX)
  have KY16 := Lib.hid (KP.blk ht.2 KY15.out hPY)
  have HB16 := Lib.hid (HB15'.out.trans (ht.2.below (B := w.heap.size) HB15'.out.size (fun k hk => ⟨by have := HB15'.out.size; omega, .inl ⟨by have := HB12'.out.size; omega, fun e => by have := HF.out k e; omega⟩⟩)))
  clear ht c0 c1 c2 c3 hln hPX hPY
  have HST16 := Lib.hid (show StAt w16 (vp, v2) by
    obtain ⟨ix, vx, g1, -⟩ := HT16.out.1
    have e1 := HT6.out
    have e2 := HM12.out.size
    have e3 := HM12.out.len
    have e4 := HM12.out.vi.size
    exact ⟨⟨dp, ix, vx, g1⟩, HT9.out.2, ⟨by show 1 ≤ v2.size; omega, by show v2.size ≤ _; omega⟩, by show leastN v2.idx ≤ _; omega, by show v2.idx.length ≤ _; omega⟩)
  obtain ⟨Q3, HO2⟩ : ∃ Q3 : Int, Hid (Calls Tryz.prog 12 #[(.pointer (some ⟨vp, 0, none⟩))] w16 fun e w' => e = .returned (.tuple #[.agg #[.int .i64 n1, .int .i64 ((s1 : Int) + (PU : Int) + (DE : Int)), .int .i64 ((L1 : Int) + (DE : Int)), .int .i64 (((s1 : Int) - (L1 : Int)) + (PU : Int)), .int .i64 Q3], .nilIface]) ∧ Below w16.heap.size w16 w') := ⟨_, Lib.hid (by
    have h := HST16.out.stof
    have e1 := HT6.out
    have e2 := HT8.out
    have e3 := HS1.out
    have e4 := HL1.out
    unfold oneV at h
    rw [HT7.out, ← HNU.out, show ((v2.size : Nat) : Int) = (s1 : Int) + (PU : Int) + (DE : Int) by omega, show ((leastN v2.idx : Nat) : Int) = (L1 : Int) + (DE : Int) by omega, show ((s1 : Int) + (PU : Int) + (DE : Int)) - ((L1 : Int) + (DE : Int)) = ((s1 : Int) - (L1 : Int)) + (PU : Int) by omega] at h
    exact h)⟩
  clear b9 b12
  go_wp2_with fail
  refine HO2.out.mono ?_
  rintro e w17 ⟨rfl, hb⟩
  have KX17 := Lib.hid (blk_below' KX16.out hb)
  have KY17 := Lib.hid (blk_below' KY16.out hb)
  have HB17 := Lib.hid (HB16.out.trans (hb.mono HB16.out.size))
  clear hb HO2
  go_upto_region 17 with fail
  obtain ⟨w18, hw18⟩ : ∃ w18 : World, w18 = w17.alloc (.cells #[.int .i64 n1, .int .i64 ((s1 : Int) + (PU : Int) + (DE : Int)), .int .i64 ((L1 : Int) + (DE : Int)), .int .i64 (((s1 : Int) - (L1 : Int)) + (PU : Int)), .int .i64 Q3] 34) := ⟨_, rfl⟩
  have hb18 : Below w17.heap.size w17 w18 := by rw [hw18]; exact (by repeat (first | (with_reducible first | exact .refl _ _ | refine .setCell ?_ ?_ _ | refine .alloc ?_ ?_ _ | refine .drewN ?_ _ | refine .drew ?_ | exact Nat.le_refl _) | (focus (simp only [World.size_alloc, World.size_setCell, World.size_drew, World.size_drewN]; omega)) | omega | exact Nat.le_refl _ | (focus (simp; done)) | (focus (simp; omega))))
  have KZ18 := Lib.hid (show w18.heap[w17.heap.size]? = some (.cells #[.int .i64 n1, .int .i64 ((s1 : Int) + (PU : Int) + (DE : Int)), .int .i64 ((L1 : Int) + (DE : Int)), .int .i64 (((s1 : Int) - (L1 : Int)) + (PU : Int)), .int .i64 Q3] 34 (0, 0)) by rw [hw18]; exact heap_new w17 _)
  have KX18 := Lib.hid (blk_below' KX17.out hb18)
  have KY18 := Lib.hid (blk_below' KY17.out hb18)
  have HB18 := Lib.hid (HB17.out.trans (hb18.mono HB17.out.size))
  rw [← hw18]
  clear hw18 hb18
  obtain ⟨ZB, hZB⟩ : ∃ ZB, ZB = w17.heap.size := ⟨_, rfl⟩
  rw [← hZB] at KZ18 ⊢
  clear hZB
  go_wp2_with fail
  refine (show Calls Tryz.prog 19 #[.int .i64 xs.length] w18 fun e w' => e = .returned (.int .i64 PU) ∧ w18 = w' by rw [HPU.out]; exact nsize_any xs.length (by omega) w18).mono ?_
  rintro e wx ⟨rfl, rfl⟩
  go_wp2_with fail
  refine (show Calls Tryz.prog 19 #[.int .i64 0] w18 fun e w' => e = .returned (.int .i64 DE) ∧ w18 = w' by rw [HDE.out]; exact nsize_any 0 (by omega) w18).mono ?_
  rintro e wx ⟨rfl, rfl⟩
  go_wp2_with fail
  refine (code0 _).mono ?_
  rintro e wx ⟨rfl, rfl⟩
  obtain ⟨p0, p1, p2, p3, p4⟩ := cells5t KX18.out
  obtain ⟨q0, q1, q2, q3, q4⟩ := cells5t KY18.out
  obtain ⟨r0, r1, r2, r3, r4⟩ := cells5t KZ18.out
  have hx1 : IntKind.i64.wrap ((s1 : Int) + (PU : Int)) = (s1 : Int) + (PU : Int) := by rw [IntKind.wrap_i64]; omega
  have hx2 : IntKind.i64.wrap ((L1 : Int) + (PU : Int)) = (L1 : Int) + (PU : Int) := by rw [IntKind.wrap_i64]; omega
  have hx3 : IntKind.i64.wrap ((s1 : Int) + (PU : Int) + (DE : Int)) = (s1 : Int) + (PU : Int) + (DE : Int) := by rw [IntKind.wrap_i64]; omega
  have hx4 : IntKind.i64.wrap ((L1 : Int) + (DE : Int)) = (L1 : Int) + (DE : Int) := by rw [IntKind.wrap_i64]; omega
  have hx5 : IntKind.i64.wrap (((s1 : Int) - (L1 : Int)) + (PU : Int)) = ((s1 : Int) - (L1 : Int)) + (PU : Int) := by rw [IntKind.wrap_i64]; omega
  go_wp2_with fail
  go_ret
  exact ⟨rfl, HB18.out⟩
end Go.Proofs.YtnhangmcnciffaaGreatDoor
