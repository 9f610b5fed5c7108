/- Law StatOf: the walk. (Written by wip/genstatof.py.) -/
import Derived.Test.YtnhangmcnciffaaGreatDoorSoStatAlive
import Derived.Test.YtnhangmcnciffaaGreatDoorSoStat3
import Derived.Test.YtnhangmcnciffaaGreatDoorSo21
import Derived.Test.YtnhangmcnciffaaGreatDoorSo20
import Derived.Test.YtnhangmcnciffaaGreatDoorSo19
import Derived.Test.YtnhangmcnciffaaGreatDoorSo2
import Derived.Test.YtnhangmcnciffaaGreatDoorSoInvKit
namespace Go.Proofs.YtnhangmcnciffaaGreatDoor
set_option maxRecDepth 100000
set_option maxHeartbeats 8000000
open Go.RowKit
theorem reads_cells {w : World} {b n : Nat} {xs : Array Value} {t : TypeId} (h : w.heap[b]? = some (.cells xs t (0, 0))) (hn : xs.size = n) (hm : n ≤ maxLen) : Reads w 1 (.slice (some ⟨b, 0, none⟩) n n) n xs.toList := by
  refine ⟨by simp [hn], .inr ⟨_, _, rfl, hm, fun j u hu => ?_⟩⟩
  have := cell_of_row w b j _ _ _ h
  rw [show (⟨b, 0, none⟩ : Addr).add j = ⟨b, j, none⟩ by simp [Addr.add]; intro e; exact e.symm, this]
  simpa using hu
structure MadeSt (w : World) (num : Nat) (vp : Nat) (v : Vl) (val : Value) : Prop where
  st : StAt w (vp, v)
  nm : v.num = num
  rf : ∃ P, ∃ ns, RvIn w P val (Rv.of v ns)
theorem MadeSt.below {w w' : World} {num vp : Nat} {v : Vl} {val : Value} (h : MadeSt w num vp v val) (hb : Below w.heap.size w w') : MadeSt w' num vp v val := by
  obtain ⟨h1, h2, P, ns, h3⟩ := h
  exact ⟨h1.below hb, h2, P, ns, h3.kp (KP.of hb)⟩
theorem MadeSt.of {w' : World} {num : Nat} {l : List ActE} {vp dp : Nat} {F : Nat → Prop} {val : Value} {d : Dk} {v : Vl} {ns : List Nd} (hvf : VF w' vp dp F 245 d v) (hvi : VI d v ns) (hrv : RvIn w' (fun k => ¬ F k) val (Rv.of v ns)) (hac : Rv.of v ns = (rv0 num 1048576).acts (l.map ActE.act)) (hsz : v.size ≤ 16 + 336 * l.length) (hns : ns.length ≤ l.length) (h60 : l.length ≤ 60) : MadeSt w' num vp v val := by
  obtain ⟨ix, vx, P, g1, g2, g4⟩ := hvf.at'
  have h1 := hvi.len
  have h2 := leastN_le (l := v.idx) fun p hp => (hvi.len_le hp).1
  refine ⟨⟨⟨dp, ix, vx, g1⟩, fun p hp => (hvi.len_le hp).1, ⟨by show 1 ≤ v.size; have := hvi.size; omega, by show v.size ≤ _; omega⟩, by show leastN v.idx ≤ _; omega, by show v.idx.length ≤ _; omega⟩, ?_, _, ns, hrv⟩
  have h3 := congrArg Rv.num hac
  rw [Rv.acts_num] at h3
  exact h3
theorem MadeSt.ref {w : World} {num vp : Nat} {v : Vl} {val : Value} (h : MadeSt w num vp v val) (w0 : World) (hb : Below w.heap.size w w0) : Calls Tryz.prog 13 #[val] w0 fun e w' => e = .returned (oneI v.num v.size (leastN v.idx)) ∧ Below w0.heap.size w0 w' := by
  obtain ⟨⟨_, h1, h2, h3, h4⟩, _, P, ns, al, cl, ad, cd, xs, e, hat⟩ := h
  rw [e]
  exact rof26_any P (Rv.of v ns) al cl ad cd xs w0 (hat.kp (KP.of hb)) h1 h4 h2 h3
theorem MadeSt.stof {w : World} {num vp : Nat} {v : Vl} {val : Value} (h : MadeSt w num vp v val) (w0 : World) (hb : Below w.heap.size w w0) : Calls Tryz.prog 12 #[(.pointer (some ⟨vp, 0, none⟩))] w0 fun e w' => e = .returned (.tuple #[oneI v.num v.size (leastN v.idx), .nilIface]) ∧ Below w0.heap.size w0 w' := by
  obtain ⟨⟨⟨dp, ix, vx, h0⟩, h1, h2, h3, h4⟩, _⟩ := h
  exact stof_any (h0.below hb) h1 h2 h3
theorem MadeSt.info {w : World} {num vp : Nat} {v : Vl} {val : Value} (h : MadeSt w num vp v val) (w0 : World) (hb : Below w.heap.size w w0) : Calls Tryz.prog 15 #[(.pointer (some ⟨vp, 0, none⟩))] w0 fun e w' => e = .returned (infoV v) ∧ Below w0.heap.size w0 w' := by
  obtain ⟨⟨⟨dp, ix, vx, h0⟩, -⟩, -⟩ := h
  exact info_any (h0.below hb)
theorem statOf_walk (a ab : Option Addr) (len cap lenb capb : Nat) (la lb : List ActE) (w : World) (hl : la.length = len) (hr : Reads w 6 (.slice a len cap) len (la.flatMap ActE.cs)) (ho : ∀ x ∈ la, ActArg w x) (hlb : lb.length = lenb) (hrb : Reads w 6 (.slice ab lenb capb) lenb (lb.flatMap ActE.cs)) (hob : ∀ x ∈ lb, ActArg w x) :
    Calls Tryz.prog 3 #[.slice a len cap, .slice ab lenb capb] w fun e w' => e = .returned (.bool true) ∧ Below w.heap.size w w' := by
  have HL := Lib.hid hl
  have HR := Lib.hid hr
  have HO := Lib.hid ho
  have HLB := Lib.hid hlb
  have HRB := Lib.hid hrb
  have HOB := Lib.hid hob
  clear hl hr ho hlb hrb hob
  go_enter Tryz.func3, Tryz.ntmps3
  go_wp2_with fail
  refine (alive26 w).mono ?_
  rintro e w1 ⟨rfl, hb⟩
  have HB1 := Lib.hid hb
  have hz1 := hb.size
  clear hb
  go_wp2_with fail
  refine (far9_any a len cap la w1 HL.out (HR.out.below HB1.out)).mono ?_
  rintro e wx ⟨rfl, rfl⟩
  cases hfa : far9 la
  case true =>
    go_wp2_with fail
    go_ret
    exact ⟨rfl, HB1.out⟩
  have HFA := Lib.hid (far9_no hfa)
  clear hfa
  go_wp2_with fail
  refine (far9_any ab lenb capb lb w1 HLB.out (HRB.out.below HB1.out)).mono ?_
  rintro e wx ⟨rfl, rfl⟩
  cases hfb : far9 lb
  case true =>
    go_wp2_with fail
    go_ret
    exact ⟨rfl, HB1.out⟩
  have HFB := Lib.hid (far9_no hfb)
  clear hfb
  have h60 : len ≤ 60 := by rw [← HL.out]; exact HFA.out.1
  have h60b : lenb ≤ 60 := by rw [← HLB.out]; exact HFB.out.1
  have HMA := Lib.hid (show Calls Tryz.prog 11 #[.int .i64 1, .slice a len cap] w1 (MadeD w1 1 la) from made26_any 1 (.inl rfl) a len cap la w1 HL.out (HR.out.below HB1.out) (fun x hx => (HO.out x hx).below HB1.out) h60 HFA.out.2)
  have HMB := Lib.hid (fun (w0 : World) (hb : Below w1.heap.size w1 w0) => show Calls Tryz.prog 11 #[.int .i64 2, .slice ab lenb capb] w0 (MadeD w0 2 lb) from made26_any 2 (.inr (.inl rfl)) ab lenb capb lb w0 HLB.out ((HRB.out.below HB1.out).below hb) (fun x hx => ((HOB.out x hx).below HB1.out).below hb) h60b HFB.out.2)
  unfold MadeD at HMA HMB
  go_wp2_with fail
  refine HMA.out.mono ?_
  rintro e w2 ⟨vp, dp, F, val, d, v, ns, rfl, hvf, hfb, hvi, hrv, hac, hsz, hns, hb⟩
  have HM2 := Lib.hid (MadeSt.of hvf hvi hrv hac hsz hns (by rw [HL.out]; exact h60))
  obtain ⟨u0, u1, u2, u3, u4, u5a, u5n, u5c, u6a, u6n, u6c, rfl⟩ := RvIn.agg hrv
  have HB2 := Lib.hid (HB1.out.trans (hb.mono hz1))
  have HB12 := Lib.hid hb
  have hz2 := hb.size
  clear hvf hfb hvi hrv hac hsz hns hb
  go_upto_region 6 with fail
  obtain ⟨w3, hw3⟩ : ∃ w3 : World, w3 = w2.alloc (.cells #[.int .i64 u0, .int .i64 u1, .int .i64 u2, .int .i64 u3, .bool u4, .slice u5a u5n u5c, .slice u6a u6n u6c] 30) := ⟨_, rfl⟩
  have HB23 := Lib.hid (show Below w2.heap.size w2 w3 by rw [hw3]; exact (by repeat (first | (with_reducible first | exact .refl _ _ | refine .setCell ?_ ?_ _ | refine .alloc ?_ ?_ _ | refine .drewN ?_ _ | refine .drew ?_ | exact Nat.le_refl _) | (focus (simp only [World.size_alloc, World.size_setCell, World.size_drew, World.size_drewN]; omega)) | omega | exact Nat.le_refl _ | (focus (simp; done)) | (focus (simp; omega)))))
  have KM3 := Lib.hid (show w3.heap[w2.heap.size]? = some (.cells #[.int .i64 u0, .int .i64 u1, .int .i64 u2, .int .i64 u3, .bool u4, .slice u5a u5n u5c, .slice u6a u6n u6c] 30 (0, 0)) by rw [hw3]; exact heap_new w2 _)
  have HM3 := Lib.hid (HM2.out.below HB23.out)
  have HB3 := Lib.hid (HB2.out.trans (HB23.out.mono HB2.out.size))
  rw [← hw3]
  clear hw3
  obtain ⟨MA, hMA⟩ : ∃ MA, MA = w2.heap.size := ⟨_, rfl⟩
  rw [← hMA] at KM3 ⊢
  clear hMA
  go_wp2_with fail
  refine (HMB.out w3 (HB12.out.trans (HB23.out.mono HB12.out.size))).mono ?_
  rintro e w4 ⟨vq, dq, Fq, valq, dd, vv, nsq, rfl, hvf, hfb, hvi, hrv, hac, hsz, hns, hb⟩
  have HN4 := Lib.hid (MadeSt.of hvf hvi hrv hac hsz hns (by rw [HLB.out]; exact h60b))
  obtain ⟨y0, y1, y2, y3, y4, y5a, y5n, y5c, y6a, y6n, y6c, rfl⟩ := RvIn.agg hrv
  have HM4 := Lib.hid (HM3.out.below hb)
  have KM4 := Lib.hid (blk_below' KM3.out hb)
  have HB4 := Lib.hid (HB3.out.trans (hb.mono HB3.out.size))
  clear hvf hfb hvi hrv hac hsz hns hb
  go_upto_region 7 with fail
  obtain ⟨w5, hw5⟩ : ∃ w5 : World, w5 = w4.alloc (.cells #[.int .i64 y0, .int .i64 y1, .int .i64 y2, .int .i64 y3, .bool y4, .slice y5a y5n y5c, .slice y6a y6n y6c] 30) := ⟨_, rfl⟩
  have hb5 : Below w4.heap.size w4 w5 := by rw [hw5]; exact (by repeat (first | (with_reducible first | exact .refl _ _ | refine .setCell ?_ ?_ _ | refine .alloc ?_ ?_ _ | refine .drewN ?_ _ | refine .drew ?_ | exact Nat.le_refl _) | (focus (simp only [World.size_alloc, World.size_setCell, World.size_drew, World.size_drewN]; omega)) | omega | exact Nat.le_refl _ | (focus (simp; done)) | (focus (simp; omega))))
  have KN5 := Lib.hid (show w5.heap[w4.heap.size]? = some (.cells #[.int .i64 y0, .int .i64 y1, .int .i64 y2, .int .i64 y3, .bool y4, .slice y5a y5n y5c, .slice y6a y6n y6c] 30 (0, 0)) by rw [hw5]; exact heap_new w4 _)
  have HM5 := Lib.hid (HM4.out.below hb5)
  have HN5 := Lib.hid (HN4.out.below hb5)
  have KM5 := Lib.hid (blk_below' KM4.out hb5)
  have HB5 := Lib.hid (HB4.out.trans (hb5.mono HB4.out.size))
  rw [← hw5]
  clear hw5 hb5
  obtain ⟨MB, hMB⟩ : ∃ MB, MB = w4.heap.size := ⟨_, rfl⟩
  rw [← hMB] at KN5 ⊢
  clear hMB
  have HPA := Lib.hid HM5.out.ref
  have HPB := Lib.hid HN5.out.ref
  have HSA := Lib.hid (HM5.out.stof w5 (Below.refl _ _))
  have HIA := Lib.hid HM5.out.info
  have HIB := Lib.hid HN5.out.info
  have HTG := Lib.hid (fun (w0 : World) (hb : Below w5.heap.size w5 w0) (b : Nat) (t : TypeId) (hk : w0.heap[b]? = some (.cells #[(.pointer (some ⟨vp, 0, none⟩)), .pointer none, (.pointer (some ⟨vq, 0, none⟩))] t (0, 0))) => tog_any (some ⟨b, 0, none⟩) 3 3 [some (vp, v), none, some (vq, vv)] w0 rfl (by omega) (reads_cells hk rfl (by unfold maxLen; omega)) (fun p hp => by
    simp only [List.mem_cons, Option.some.injEq, List.not_mem_nil, or_false] at hp
    rcases hp with rfl | hp | rfl
    · exact HM5.out.st.below hb
    · cases hp
    · exact HN5.out.st.below hb))
  have HT0 := Lib.hid (fun w0 : World => tog_any none 0 0 [] w0 rfl (by omega) (reads_none _ _) (fun p hp => absurd hp List.not_mem_nil))
  have hA := HM5.out.st.2
  have hB := HN5.out.st.2
  have hS : sumL [some (vp, v), none, some (vq, vv)] = ⟨2, (v.size : Int) + vv.size, (leastN v.idx : Int) + leastN vv.idx, ((v.size : Int) - leastN v.idx) + ((vv.size : Int) - leastN vv.idx), ((v.idx.length - goneN v.idx : Nat) : Int) + ((vv.idx.length - goneN vv.idx : Nat) : Int), (goneN v.idx : Int) + goneN vv.idx⟩ := by
    simp [sumL, Sm.put, Sm.add]
  rw [hS] at HTG
  have hg1 : goneN v.idx ≤ v.idx.length := List.countP_le_length
  have hg2 : goneN vv.idx ≤ vv.idx.length := List.countP_le_length
  unfold infoV at HIA HIB
  unfold oneI at HPA HPB HSA
  unfold Sm.val at HTG HT0
  obtain ⟨L1, hL1⟩ : ∃ x, x = leastN v.idx := ⟨_, rfl⟩
  obtain ⟨G1, hG1⟩ : ∃ x, x = goneN v.idx := ⟨_, rfl⟩
  obtain ⟨M1, hM1⟩ : ∃ x, x = v.idx.length - G1 := ⟨_, rfl⟩
  obtain ⟨L2, hL2⟩ : ∃ x, x = leastN vv.idx := ⟨_, rfl⟩
  obtain ⟨G2, hG2⟩ : ∃ x, x = goneN vv.idx := ⟨_, rfl⟩
  obtain ⟨M2, hM2⟩ : ∃ x, x = vv.idx.length - G2 := ⟨_, rfl⟩
  rw [← hL1, ← hL2, ← hG1, ← hG2, ← hM1, ← hM2] at HTG
  rw [← hL1] at HPA HSA
  rw [← hL2] at HPB
  rw [← hG1, ← hM1] at HIA
  rw [← hG2, ← hM2] at HIB
  obtain ⟨-, a2, a3, a4⟩ := hA
  obtain ⟨-, b2, b3, b4⟩ := hB
  simp only at a2 a3 a4 b2 b3 b4
  rw [← hL1] at a3
  rw [← hL2] at b3
  rw [← hG1] at hg1
  rw [← hG2] at hg2
  have hm1 : M1 ≤ 4096 := by omega
  have hm2 : M2 ≤ 4096 := by omega
  have hg1' : G1 ≤ 4096 := by omega
  have hg2' : G2 ≤ 4096 := by omega
  clear hS hL1 hG1 hM1 hL2 hG2 hM2 a4 b4 hg1 hg2 HM5 HN5 HM2 HM3 HM4 HN4
  obtain ⟨n1, gen1, ep1, sh1, mo1, s1, ix1⟩ := v
  obtain ⟨n2, gen2, ep2, sh2, mo2, s2, ix2⟩ := vv
  simp only at HPA HPB HSA HIA HIB HTG HT0 a2 b2
  obtain ⟨Q1, hQ1⟩ : ∃ x, x = shareI ((s1 : Int) - (L1 : Int)) s1 := ⟨_, rfl⟩
  obtain ⟨Q2, hQ2⟩ : ∃ x, x = shareI ((s2 : Int) - (L2 : Int)) s2 := ⟨_, rfl⟩
  rw [← hQ1] at HPA HSA
  rw [← hQ2] at HPB
  have HE := Lib.hid (show shareI (((s1 : Int) - L1) + ((s2 : Int) - L2)) ((s1 : Int) + s2) = ((((s1 : Int) - L1) + ((s2 : Int) - L2)) * 1000).tdiv ((s1 : Int) + s2) from if_neg (by omega))
  rw [HE.out] at HTG
  clear hQ1 hQ2
  go_wp2_with fail
  refine HSA.out.mono ?_
  rintro e w6 ⟨rfl, hb⟩
  have HB56 := Lib.hid hb
  clear hb
  go_upto_region 8 with fail
  obtain ⟨wr, hwr⟩ : ∃ wr : World, wr = w6.alloc (.cells #[.int .i64 n1, .int .i64 s1, .int .i64 L1, .int .i64 ((s1 : Int) - (L1 : Int)), .int .i64 Q1] 34) := ⟨_, rfl⟩
  have hb6 : Below w6.heap.size w6 wr := by rw [hwr]; exact (by repeat (first | (with_reducible first | exact .refl _ _ | refine .setCell ?_ ?_ _ | refine .alloc ?_ ?_ _ | refine .drewN ?_ _ | refine .drew ?_ | exact Nat.le_refl _) | (focus (simp only [World.size_alloc, World.size_setCell, World.size_drew, World.size_drewN]; omega)) | omega | exact Nat.le_refl _ | (focus (simp; done)) | (focus (simp; omega))))
  have KX := Lib.hid (show wr.heap[w6.heap.size]? = some (.cells #[.int .i64 n1, .int .i64 s1, .int .i64 L1, .int .i64 ((s1 : Int) - (L1 : Int)), .int .i64 Q1] 34 (0, 0)) by rw [hwr]; exact heap_new w6 _)
  have HB5R := Lib.hid (HB56.out.trans (hb6.mono HB56.out.size))
  have HBR := Lib.hid (HB5.out.trans (HB5R.out.mono HB5.out.size))
  have KMR := Lib.hid (blk_below' KM5.out HB5R.out)
  have KNR := Lib.hid (blk_below' KN5.out HB5R.out)
  rw [← hwr]
  clear hwr hb6
  obtain ⟨XB, hXB⟩ : ∃ XB, XB = w6.heap.size := ⟨_, rfl⟩
  rw [← hXB] at KX ⊢
  clear hXB
  obtain ⟨SS, HSD⟩ : ∃ SS : World → Prop, Hid (SS = fun w' => Below wr.heap.size wr w') := ⟨_, Lib.hid rfl⟩
  refine wp_region_inv SS [0, 2] [0, 1, 0, 7, 0, 0, 63, 127] [(0, 2), (2, 2)] [0, 1, 2, 3, 4, 5, 6, 7] [1, 3, 4, 5, 6, 7] (by kernel_rfl) (by kernel_rfl) (by kernel_rfl) (by kernel_rfl) (by kernel_rfl) (by kernel_rfl) ?_ ?_
  (focus (rw [HSD.out]; exact Below.drew (Below.refl _ _)))
  refine stepI'2 rfl rfl ?_ (fun w1 hS => ?_) (fun K hK => ?_)
  rotate_left; (focus (rw [HSD.out] at hS; obtain ⟨m0, m1, m2, m3, m4, m5, m6⟩ := cells7' (blk_below' KMR.out hS); obtain ⟨k0, k1, k2, k3, k4, k5, k6⟩ := cells7' (blk_below' KNR.out hS); have hlm := blk_lt (blk_below' KMR.out hS); have hlk := blk_lt (blk_below' KNR.out hS); go_simp; rfl)); go_simp; refine hK _ ?_; clear hK K
  refine stepI'2 rfl rfl ?_ (fun w1 hS => ?_) (fun K hK => ?_)
  rotate_left; (focus (rw [HSD.out] at hS; obtain ⟨m0, m1, m2, m3, m4, m5, m6⟩ := cells7' (blk_below' KMR.out hS); obtain ⟨k0, k1, k2, k3, k4, k5, k6⟩ := cells7' (blk_below' KNR.out hS); have hlm := blk_lt (blk_below' KMR.out hS); have hlk := blk_lt (blk_below' KNR.out hS); go_simp; rfl)); go_simp; refine hK _ ?_; clear hK K
  refine inv_at (fun a0 L a w => ∃ (x49 x51 x15 x16 : Value) (b4 : Nat) (b5 : Nat) (k4 : Array Value) (k5 : Array Value), a = ((((a0.put (some 49) x49).put (some 51) x51).put (some 15) x15).put (some 16) x16) ∧ (Below wr.heap.size wr w) ∧ (L 1 → x49 = .agg #[.int .i64 n1, .int .i64 s1, .int .i64 L1, .int .i64 ((s1 : Int) - (L1 : Int)), .int .i64 Q1]) ∧ (L 3 → x51 = .agg #[.int .i64 n2, .int .i64 s2, .int .i64 L2, .int .i64 ((s2 : Int) - (L2 : Int)), .int .i64 Q2]) ∧ (L 4 → BlkF w wr.heap.size x15 (.pointer (some ⟨b4, 0, none⟩)) b4 (.cells k4 39 (0, 0))) ∧ (L 4 → ¬ L 6 → k4 = #[.int .i64 0, .int .i64 0, .int .i64 0, .int .i64 0, .int .i64 0]) ∧ (L 6 → k4 = #[.int .i64 n1, .int .i64 s1, .int .i64 L1, .int .i64 ((s1 : Int) - (L1 : Int)), .int .i64 Q1]) ∧ (L 5 → BlkF w wr.heap.size x16 (.pointer (some ⟨b5, 0, none⟩)) b5 (.cells k5 39 (0, 0))) ∧ (L 5 → ¬ L 7 → k5 = #[.int .i64 0, .int .i64 0, .int .i64 0, .int .i64 0, .int .i64 0]) ∧ (L 7 → k5 = #[.int .i64 n2, .int .i64 s2, .int .i64 L2, .int .i64 ((s2 : Int) - (L2 : Int)), .int .i64 Q2]) ∧ (L 4 → L 5 → b4 ≠ b5)) ?_ ?_ ?_
  · clear HSD
    refine ⟨_, _, _, _, 0, 0, #[], #[], rfl, ?_, ?_, ?_, ?_, ?_, ?_, ?_, ?_, ?_, ?_⟩
    · exact Below.drew (Below.refl _ _)
    · exact fun h => absurd h (by decide)
    · exact fun h => absurd h (by decide)
    · exact fun h => absurd h (by decide)
    · exact fun h => absurd h (by decide)
    · exact fun h => absurd h (by decide)
    · exact fun h => absurd h (by decide)
    · exact fun h => absurd h (by decide)
    · exact fun h => absurd h (by decide)
    · exact fun h => absurd h (by decide)
  · refine ⟨?_, ?_, ?_, ?_, ?_, ?_, trivial⟩
    · intro L a w hn hd hc hJ
      have n3 : ¬ L 3 := fun h => hn (hc 3 1 rfl (by decide) h)
      have n6 : ¬ L 6 := fun h => hn (hc 6 1 rfl (by decide) h)
      have n7 : ¬ L 7 := fun h => hn (hc 7 1 rfl (by decide) h)
      have n1 := hn
      clear hn hd hc
      obtain ⟨x49, x51, x15, x16, b4, b5, k4, k5, rfl, HB, c1, c3, c4, z4, v4, c5, z5, v5, e4_5⟩ := hJ
      simp only [Act.put, List.setIfInBounds_toArray, List.set_cons_succ, List.set_cons_zero]
      refine inv_eff rfl rfl (fun J HJ K hK => ?_)
      go_wp2_with fail
      refine (HPA.out _ (HB5R.out.trans (HB.mono HB5R.out.size))).mono ?_
      rintro e w' ⟨rfl, hb⟩
      go_wp2
      refine HJ.out _ _ ⟨fun _ hS => by rw [HSD.out] at hS ⊢; exact (hS.trans (hb.mono hS.size)), ?_⟩
      refine ⟨_, x51, x15, x16, b4, b5, k4, k5, rfl, HB.trans (hb.mono HB.size), fun _ => rfl, fun h => c3 (lof h (by decide)), fun h => (c4 (lof h (by decide))).below hb, fun h n => z4 (lof h (by decide)) (fun hh => n (.inr hh)), fun h => v4 (lof h (by decide)), fun h => (c5 (lof h (by decide))).below hb, fun h n => z5 (lof h (by decide)) (fun hh => n (.inr hh)), fun h => v5 (lof h (by decide)), fun h h' => e4_5 (lof h (by decide)) (lof h' (by decide))⟩
    · intro L a w hn hd hc hJ
      have d1 : L 1 := hd 1 rfl
      have n6 : ¬ L 6 := fun h => hn (hc 6 3 rfl (by decide) h)
      have n7 : ¬ L 7 := fun h => hn (hc 7 3 rfl (by decide) h)
      have n3 := hn
      clear hn hd hc
      obtain ⟨x49, x51, x15, x16, b4, b5, k4, k5, rfl, HB, c1, c3, c4, z4, v4, c5, z5, v5, e4_5⟩ := hJ
      simp only [Act.put, List.setIfInBounds_toArray, List.set_cons_succ, List.set_cons_zero]
      refine inv_eff0 rfl rfl (by kernel_rfl) (fun J HJ K hK => ?_)
      go_wp2_with fail
      refine (HPB.out _ (HB5R.out.trans (HB.mono HB5R.out.size))).mono ?_
      rintro e w' ⟨rfl, hb⟩
      go_wp2
      refine HJ.out _ _ ?_
      refine ⟨x49, _, x15, x16, b4, b5, k4, k5, rfl, HB.trans (hb.mono HB.size), fun h => c1 (lof h (by decide)), fun _ => rfl, fun h => (c4 (lof h (by decide))).below hb, fun h n => z4 (lof h (by decide)) (fun hh => n (.inr hh)), fun h => v4 (lof h (by decide)), fun h => (c5 (lof h (by decide))).below hb, fun h n => z5 (lof h (by decide)) (fun hh => n (.inr hh)), fun h => v5 (lof h (by decide)), fun h h' => e4_5 (lof h (by decide)) (lof h' (by decide))⟩
    · intro L a w hn hd hc hJ
      have n6 : ¬ L 6 := fun h => hn (hc 6 4 rfl (by decide) h)
      have n7 : ¬ L 7 := fun h => hn (hc 7 4 rfl (by decide) h)
      have n4 := hn
      clear hn hd hc
      obtain ⟨x49, x51, x15, x16, b4, b5, k4, k5, rfl, HB, c1, c3, c4, z4, v4, c5, z5, v5, e4_5⟩ := hJ
      simp only [Act.put, List.setIfInBounds_toArray, List.set_cons_succ, List.set_cons_zero]
      refine inv_eff rfl rfl (fun J HJ K hK => ?_)
      go_wp2
      obtain ⟨w', hw⟩ : ∃ w' : World, w' = w.alloc (.cells #[.int .i64 0, .int .i64 0, .int .i64 0, .int .i64 0, .int .i64 0] 39) := ⟨_, rfl⟩
      have hb : Below w.heap.size w w' := (by rw [hw]; exact (Below.refl _ _).alloc (Nat.le_refl _) _)
      have hn : w'.heap[w.heap.size]? = some (.cells #[.int .i64 0, .int .i64 0, .int .i64 0, .int .i64 0, .int .i64 0] 39 (0, 0)) := by rw [hw]; exact heap_new w _
      rw [← hw]
      clear hw
      refine HJ.out _ _ ⟨fun _ hS => by rw [HSD.out] at hS ⊢; exact (hS.trans (hb.mono hS.size)), ?_⟩
      refine ⟨x49, x51, _, x16, w.heap.size, b5, _, k5, rfl, HB.trans (hb.mono HB.size), fun h => c1 (lof h (by decide)), fun h => c3 (lof h (by decide)), fun _ => ⟨rfl, HB.size, hn⟩, fun _ _ => rfl, fun h => absurd (lof h (by decide)) n6, fun h => (c5 (lof h (by decide))).below hb, fun h n => z5 (lof h (by decide)) (fun hh => n (.inr hh)), fun h => v5 (lof h (by decide)), fun _ h' => Nat.ne_of_gt (c5 (lof h' (by decide))).lt⟩
    · intro L a w hn hd hc hJ
      have n6 : ¬ L 6 := fun h => hn (hc 6 5 rfl (by decide) h)
      have n7 : ¬ L 7 := fun h => hn (hc 7 5 rfl (by decide) h)
      have n5 := hn
      clear hn hd hc
      obtain ⟨x49, x51, x15, x16, b4, b5, k4, k5, rfl, HB, c1, c3, c4, z4, v4, c5, z5, v5, e4_5⟩ := hJ
      simp only [Act.put, List.setIfInBounds_toArray, List.set_cons_succ, List.set_cons_zero]
      refine inv_eff rfl rfl (fun J HJ K hK => ?_)
      go_wp2
      obtain ⟨w', hw⟩ : ∃ w' : World, w' = w.alloc (.cells #[.int .i64 0, .int .i64 0, .int .i64 0, .int .i64 0, .int .i64 0] 39) := ⟨_, rfl⟩
      have hb : Below w.heap.size w w' := (by rw [hw]; exact (Below.refl _ _).alloc (Nat.le_refl _) _)
      have hn : w'.heap[w.heap.size]? = some (.cells #[.int .i64 0, .int .i64 0, .int .i64 0, .int .i64 0, .int .i64 0] 39 (0, 0)) := by rw [hw]; exact heap_new w _
      rw [← hw]
      clear hw
      refine HJ.out _ _ ⟨fun _ hS => by rw [HSD.out] at hS ⊢; exact (hS.trans (hb.mono hS.size)), ?_⟩
      refine ⟨x49, x51, x15, _, b4, w.heap.size, k4, _, rfl, HB.trans (hb.mono HB.size), fun h => c1 (lof h (by decide)), fun h => c3 (lof h (by decide)), fun h => (c4 (lof h (by decide))).below hb, fun h n => z4 (lof h (by decide)) (fun hh => n (.inr hh)), fun h => v4 (lof h (by decide)), fun _ => ⟨rfl, HB.size, hn⟩, fun _ _ => rfl, fun h => absurd (lof h (by decide)) n7, fun h _ => Nat.ne_of_lt (c4 (lof h (by decide))).lt⟩
    · intro L a w hn hd hc hJ
      have d1 : L 1 := hd 1 rfl
      have d3 : L 3 := hd 3 rfl
      have d4 : L 4 := hd 4 rfl
      have d5 : L 5 := hd 5 rfl
      have n7 : ¬ L 7 := fun h => hn (hc 7 6 rfl (by decide) h)
      have n6 := hn
      clear hn hd hc
      obtain ⟨x49, x51, x15, x16, b4, b5, k4, k5, rfl, HB, c1, c3, c4, z4, v4, c5, z5, v5, e4_5⟩ := hJ
      simp only [Act.put, List.setIfInBounds_toArray, List.set_cons_succ, List.set_cons_zero]
      refine inv_eff0 rfl rfl (by kernel_rfl) (fun J HJ K hK => ?_)
      obtain rfl := c1 d1
      obtain ⟨rfl, hle, hk⟩ := c4 d4
      obtain rfl := z4 d4 n6
      obtain ⟨y0, y1, y2, y3, y4⟩ := cells5t hk
      obtain ⟨f0, f1, f2, f3, f4⟩ := free5 hk
      have hlx := blk_lt hk
      go_wp2
      obtain ⟨w', hw⟩ : ∃ w' : World, w' = set5 w b4 (.int .i64 n1) (.int .i64 s1) (.int .i64 L1) (.int .i64 ((s1 : Int) - (L1 : Int))) (.int .i64 Q1) := ⟨_, rfl⟩
      have hb : Below wr.heap.size w w' := by rw [hw]; exact set5_below hle _ _ _ _ _
      have hk' : w'.heap[b4]? = some (.cells #[.int .i64 n1, .int .i64 s1, .int .i64 L1, .int .i64 ((s1 : Int) - (L1 : Int)), .int .i64 Q1] 39 (0, 0)) := by rw [hw]; exact store5 hk _ _ _ _ _
      have q5 : L 5 → BlkF w' wr.heap.size x16 (.pointer (some ⟨b5, 0, none⟩)) b5 (.cells k5 39 (0, 0)) := fun h => by rw [hw]; exact (c5 h).set5 (e4_5 d4 h).symm
      unfold set5 at hw
      rw [← hw]
      clear hw
      refine HJ.out _ _ ?_
      refine ⟨_, x51, _, x16, b4, b5, _, k5, rfl, HB.trans hb, fun _ => rfl, fun h => c3 (lof h (by decide)), fun _ => ⟨rfl, hle, hk'⟩, fun _ n => (n (by first | exact .inl rfl | exact .inl trivial)).elim, fun _ => rfl, fun h => q5 (lof h (by decide)), fun h n => z5 (lof h (by decide)) (fun hh => n (.inr hh)), fun h => v5 (lof h (by decide)), fun h h' => e4_5 (lof h (by decide)) (lof h' (by decide))⟩
    · intro L a w hn hd hc hJ
      have d1 : L 1 := hd 1 rfl
      have d3 : L 3 := hd 3 rfl
      have d4 : L 4 := hd 4 rfl
      have d5 : L 5 := hd 5 rfl
      have d6 : L 6 := hd 6 rfl
      have n7 := hn
      clear hn hd hc
      obtain ⟨x49, x51, x15, x16, b4, b5, k4, k5, rfl, HB, c1, c3, c4, z4, v4, c5, z5, v5, e4_5⟩ := hJ
      simp only [Act.put, List.setIfInBounds_toArray, List.set_cons_succ, List.set_cons_zero]
      refine inv_eff0 rfl rfl (by kernel_rfl) (fun J HJ K hK => ?_)
      obtain rfl := c3 d3
      obtain ⟨rfl, hle, hk⟩ := c5 d5
      obtain rfl := z5 d5 n7
      obtain ⟨y0, y1, y2, y3, y4⟩ := cells5t hk
      obtain ⟨f0, f1, f2, f3, f4⟩ := free5 hk
      have hlx := blk_lt hk
      go_wp2
      obtain ⟨w', hw⟩ : ∃ w' : World, w' = set5 w b5 (.int .i64 n2) (.int .i64 s2) (.int .i64 L2) (.int .i64 ((s2 : Int) - (L2 : Int))) (.int .i64 Q2) := ⟨_, rfl⟩
      have hb : Below wr.heap.size w w' := by rw [hw]; exact set5_below hle _ _ _ _ _
      have hk' : w'.heap[b5]? = some (.cells #[.int .i64 n2, .int .i64 s2, .int .i64 L2, .int .i64 ((s2 : Int) - (L2 : Int)), .int .i64 Q2] 39 (0, 0)) := by rw [hw]; exact store5 hk _ _ _ _ _
      have q4 : L 4 → BlkF w' wr.heap.size x15 (.pointer (some ⟨b4, 0, none⟩)) b4 (.cells k4 39 (0, 0)) := fun h => by rw [hw]; exact (c4 h).set5 (e4_5 h d5)
      unfold set5 at hw
      rw [← hw]
      clear hw
      refine HJ.out _ _ ?_
      refine ⟨x49, _, x15, _, b4, b5, k4, _, rfl, HB.trans hb, fun h => c1 (lof h (by decide)), fun _ => rfl, fun h => q4 (lof h (by decide)), fun h n => z4 (lof h (by decide)) (fun hh => n (.inr hh)), fun h => v4 (lof h (by decide)), fun _ => ⟨rfl, hle, hk'⟩, fun _ n => (n (by first | exact .inl rfl | exact .inl trivial)).elim, fun _ => rfl, fun h h' => e4_5 (lof h (by decide)) (lof h' (by decide))⟩
  · clear HSD SS
    intro L a w hL hJ
    have d1 : L 1 := hL 1 (by decide)
    have d3 : L 3 := hL 3 (by decide)
    have d4 : L 4 := hL 4 (by decide)
    have d5 : L 5 := hL 5 (by decide)
    have d6 : L 6 := hL 6 (by decide)
    have d7 : L 7 := hL 7 (by decide)
    clear hL
    obtain ⟨x49, x51, x15, x16, b4, b5, k4, k5, rfl, HB, c1, c3, c4, z4, v4, c5, z5, v5, e4_5⟩ := hJ
    simp only [Act.put, List.setIfInBounds_toArray, List.set_cons_succ, List.set_cons_zero]
    refine onlyN ?_
    obtain rfl := c1 d1
    obtain rfl := c3 d3
    obtain ⟨rfl, hle4, K4⟩ := c4 d4
    obtain rfl := v4 d6
    obtain ⟨rfl, hle5, K5⟩ := c5 d5
    obtain rfl := v5 d7
    have ne4_5 := e4_5 d4 d5
    clear c1 c3 c4 z4 v4 c5 z5 v5 e4_5 d1 d3 d4 d5 d6 d7
    skip
    have HBW := Lib.hid (HB5R.out.trans (HB.mono HB5R.out.size))
    have HBX0 := Lib.hid HB
    clear HB
    have HK4 := Lib.hid K4
    have HK5 := Lib.hid K5
    have HKX := Lib.hid (blk_below' KX.out HBX0.out)
    clear K4 K5
    go_wp2_with fail
    refine (HTG.out _ (HBW.out.alloc HBW.out.size _) _ _ (heap_new _ _)).mono ?_
    rintro e w7 ⟨rfl, hb⟩
    have hb7 : Below w.heap.size w w7 := ((Below.refl _ _).alloc (Nat.le_refl _) _).trans (hb.mono (by simp))
    have HB7 := Lib.hid (HBW.out.trans (hb7.mono HBW.out.size))
    have K47 := Lib.hid (blk_below' HK4.out hb7)
    have K57 := Lib.hid (blk_below' HK5.out hb7)
    have KX7 := Lib.hid (blk_below' HKX.out hb7)
    clear hb hb7
    go_upto_region 10 with fail
    obtain ⟨w8, hw8⟩ : ∃ w8 : World, w8 = w7.alloc (.cells #[.int .i64 2, .int .i64 ((s1 : Int) + (s2 : Int)), .int .i64 ((L1 : Int) + (L2 : Int)), .int .i64 (((s1 : Int) - (L1 : Int)) + ((s2 : Int) - (L2 : Int))), .int .i64 (((((s1 : Int) - (L1 : Int)) + ((s2 : Int) - (L2 : Int))) * 1000).tdiv ((s1 : Int) + (s2 : Int))), .int .i64 ((M1 : Int) + (M2 : Int)), .int .i64 ((G1 : Int) + (G2 : Int))] 42) := ⟨_, rfl⟩
    have hb8 : Below w7.heap.size w7 w8 := by rw [hw8]; exact (by repeat (first | (with_reducible first | exact .refl _ _ | refine .setCell ?_ ?_ _ | refine .alloc ?_ ?_ _ | refine .drewN ?_ _ | refine .drew ?_ | exact Nat.le_refl _) | (focus (simp only [World.size_alloc, World.size_setCell, World.size_drew, World.size_drewN]; omega)) | omega | exact Nat.le_refl _ | (focus (simp; done)) | (focus (simp; omega))))
    have KS8 := Lib.hid (show w8.heap[w7.heap.size]? = some (.cells #[.int .i64 2, .int .i64 ((s1 : Int) + (s2 : Int)), .int .i64 ((L1 : Int) + (L2 : Int)), .int .i64 (((s1 : Int) - (L1 : Int)) + ((s2 : Int) - (L2 : Int))), .int .i64 (((((s1 : Int) - (L1 : Int)) + ((s2 : Int) - (L2 : Int))) * 1000).tdiv ((s1 : Int) + (s2 : Int))), .int .i64 ((M1 : Int) + (M2 : Int)), .int .i64 ((G1 : Int) + (G2 : Int))] 42 (0, 0)) by rw [hw8]; exact heap_new w7 _)
    have HB8 := Lib.hid (HB7.out.trans (hb8.mono HB7.out.size))
    have K48 := Lib.hid (blk_below' K47.out hb8)
    have K58 := Lib.hid (blk_below' K57.out hb8)
    have KX8 := Lib.hid (blk_below' KX7.out hb8)
    rw [← hw8]
    clear hw8 hb8
    obtain ⟨SB, hSB⟩ : ∃ SB, SB = w7.heap.size := ⟨_, rfl⟩
    rw [← hSB] at KS8 ⊢
    clear hSB
    go_wp2_with fail
    refine (HIA.out w8 HB8.out).mono ?_
    rintro e w9 ⟨rfl, hb⟩
    have KS9 := Lib.hid (blk_below' KS8.out hb)
    have K49 := Lib.hid (blk_below' K48.out hb)
    have K59 := Lib.hid (blk_below' K58.out hb)
    have KX9 := Lib.hid (blk_below' KX8.out hb)
    have HB9 := Lib.hid (HB8.out.trans (hb.mono HB8.out.size))
    clear hb
    go_wp2_with fail
    refine (HIB.out w9 HB9.out).mono ?_
    rintro e w10 ⟨rfl, hb⟩
    have KS10 := Lib.hid (blk_below' KS9.out hb)
    have K410 := Lib.hid (blk_below' K49.out hb)
    have K510 := Lib.hid (blk_below' K59.out hb)
    have KX10 := Lib.hid (blk_below' KX9.out hb)
    have HB10 := Lib.hid (HB9.out.trans (hb.mono HB9.out.size))
    clear hb
    go_upto_region 11 with fail
    obtain ⟨w11, hw11⟩ : ∃ w11 : World, w11 = (w10.alloc (.cells #[.int .i64 n1, .int .i64 gen1, .int .i64 ep1, .int .i64 s1, .int .i64 M1, .int .i64 G1, .bool sh1] 46)).alloc (.cells #[.int .i64 n2, .int .i64 gen2, .int .i64 ep2, .int .i64 s2, .int .i64 M2, .int .i64 G2, .bool sh2] 46) := ⟨_, rfl⟩
    have hb11 : Below w10.heap.size w10 w11 := by rw [hw11]; exact (by repeat (first | (with_reducible first | exact .refl _ _ | refine .setCell ?_ ?_ _ | refine .alloc ?_ ?_ _ | refine .drewN ?_ _ | refine .drew ?_ | exact Nat.le_refl _) | (focus (simp only [World.size_alloc, World.size_setCell, World.size_drew, World.size_drewN]; omega)) | omega | exact Nat.le_refl _ | (focus (simp; done)) | (focus (simp; omega))))
    have KI := Lib.hid (show w11.heap[w10.heap.size]? = some (.cells #[.int .i64 n1, .int .i64 gen1, .int .i64 ep1, .int .i64 s1, .int .i64 M1, .int .i64 G1, .bool sh1] 46 (0, 0)) by rw [hw11]; exact (by repeat (first | (with_reducible refine blk_drew ?_) | (with_reducible refine blk_drewN _ ?_) | ((with_reducible refine blk_new _ ?_); (focus (simp; done))) | (with_reducible refine blk_alloc ?_ _))))
    have KJ := Lib.hid (show w11.heap[w10.heap.size + 1]? = some (.cells #[.int .i64 n2, .int .i64 gen2, .int .i64 ep2, .int .i64 s2, .int .i64 M2, .int .i64 G2, .bool sh2] 46 (0, 0)) by rw [hw11]; exact (by repeat (first | (with_reducible refine blk_drew ?_) | (with_reducible refine blk_drewN _ ?_) | ((with_reducible refine blk_new _ ?_); (focus (simp; done))) | (with_reducible refine blk_alloc ?_ _))))
    have KS11 := Lib.hid (blk_below' KS10.out hb11)
    have K411 := Lib.hid (blk_below' K410.out hb11)
    have K511 := Lib.hid (blk_below' K510.out hb11)
    have KX11 := Lib.hid (blk_below' KX10.out hb11)
    have HB11 := Lib.hid (HB10.out.trans (hb11.mono HB10.out.size))
    rw [← hw11]
    clear hw11 hb11
    obtain ⟨IB, hIB⟩ : ∃ IB, IB = w10.heap.size := ⟨_, rfl⟩
    rw [← hIB] at KI KJ ⊢
    clear hIB
    have hw1 : IntKind.i64.wrap ((s1 : Int) + (s2 : Int)) = (s1 : Int) + (s2 : Int) := by rw [IntKind.wrap_i64]; omega
    have hw2 : IntKind.i64.wrap ((L1 : Int) + (L2 : Int)) = (L1 : Int) + (L2 : Int) := by rw [IntKind.wrap_i64]; omega
    have hw3 : IntKind.i64.wrap (((s1 : Int) - (L1 : Int)) + ((s2 : Int) - (L2 : Int))) = ((s1 : Int) - (L1 : Int)) + ((s2 : Int) - (L2 : Int)) := by rw [IntKind.wrap_i64]; omega
    have hw4 : IntKind.i64.wrap ((((s1 : Int) - (L1 : Int)) + ((s2 : Int) - (L2 : Int))) * 1000) = (((s1 : Int) - (L1 : Int)) + ((s2 : Int) - (L2 : Int))) * 1000 := by rw [IntKind.wrap_i64]; omega
    have hw5 : IntKind.i64.wrap (((((s1 : Int) - (L1 : Int)) + ((s2 : Int) - (L2 : Int))) * 1000).tdiv ((s1 : Int) + (s2 : Int))) = ((((s1 : Int) - (L1 : Int)) + ((s2 : Int) - (L2 : Int))) * 1000).tdiv ((s1 : Int) + (s2 : Int)) := by
      have := tdiv_small (s := (s1 : Int) + (s2 : Int)) (a := (((s1 : Int) - (L1 : Int)) + ((s2 : Int) - (L2 : Int))) * 1000) (B := 1000000000000) (by omega)
      rw [IntKind.wrap_i64]; omega
    have hw6 : IntKind.i64.wrap ((M1 : Int) + (M2 : Int)) = (M1 : Int) + (M2 : Int) := by rw [IntKind.wrap_i64]; omega
    have hw7 : IntKind.i64.wrap ((G1 : Int) + (G2 : Int)) = (G1 : Int) + (G2 : Int) := by rw [IntKind.wrap_i64]; omega
    have hs0 : ¬ ((s1 : Int) + (s2 : Int) = 0) := by omega
    refine wp_region_order (fun w' => Below w11.heap.size w11 w') [1, 3, 6, 8, 11, 13, 16, 18, 22, 24, 28, 30, 33, 35] [(0, 0), (1, 2), (2, 0), (3, 2), (4, 0), (5, 0), (6, 2), (7, 0), (8, 2), (9, 0), (10, 0), (11, 2), (12, 0), (13, 2), (14, 0), (15, 0), (16, 2), (17, 0), (18, 2), (19, 0), (20, 0), (21, 0), (22, 2), (23, 0), (24, 2), (25, 0), (26, 0), (27, 0), (28, 2), (29, 0), (30, 2), (31, 0), (32, 0), (33, 2), (34, 0), (35, 2), (36, 0), (37, 0), (38, 1), (39, 1)] (by kernel_rfl) (by kernel_rfl) rfl (by kernel_rfl) (fun c a d v w h => by cases d <;> exact h) ?_ ?_
    (focus (exact Below.drew (Below.refl _ _))); refine stepE0 rfl rfl fun K hK => ?_; go_simp; refine hK _ ?_; clear hK K; refine stepE2 rfl rfl ?_ (fun w1 hS => ?_) fun K hK => ?_; rotate_left; (focus (obtain ⟨m0, m1, m2, m3, m4⟩ := cells5t (blk_below' K411.out hS); obtain ⟨k0, k1, k2, k3, k4⟩ := cells5t (blk_below' K511.out hS); obtain ⟨i0, i1, i2, i3, i4, i5, i6⟩ := cells7' (blk_below' KI.out hS); obtain ⟨j0, j1, j2, j3, j4, j5, j6⟩ := cells7' (blk_below' KJ.out hS); go_simp; rfl)); go_simp; refine hK _ ?_; clear hK K; refine stepE0 rfl rfl fun K hK => ?_; go_simp; refine hK _ ?_; clear hK K; refine stepE2 rfl rfl ?_ (fun w1 hS => ?_) fun K hK => ?_; rotate_left; (focus (obtain ⟨m0, m1, m2, m3, m4⟩ := cells5t (blk_below' K411.out hS); obtain ⟨k0, k1, k2, k3, k4⟩ := cells5t (blk_below' K511.out hS); obtain ⟨i0, i1, i2, i3, i4, i5, i6⟩ := cells7' (blk_below' KI.out hS); obtain ⟨j0, j1, j2, j3, j4, j5, j6⟩ := cells7' (blk_below' KJ.out hS); go_simp; rfl)); go_simp; refine hK _ ?_; clear hK K; refine stepE0 rfl rfl fun K hK => ?_; go_simp; refine hK _ ?_; clear hK K; refine stepE0 rfl rfl fun K hK => ?_; go_simp; refine hK _ ?_; clear hK K; refine stepE2 rfl rfl ?_ (fun w1 hS => ?_) fun K hK => ?_; rotate_left; (focus (obtain ⟨m0, m1, m2, m3, m4⟩ := cells5t (blk_below' K411.out hS); obtain ⟨k0, k1, k2, k3, k4⟩ := cells5t (blk_below' K511.out hS); obtain ⟨i0, i1, i2, i3, i4, i5, i6⟩ := cells7' (blk_below' KI.out hS); obtain ⟨j0, j1, j2, j3, j4, j5, j6⟩ := cells7' (blk_below' KJ.out hS); go_simp; rfl)); go_simp; refine hK _ ?_; clear hK K; refine stepE0 rfl rfl fun K hK => ?_; go_simp; refine hK _ ?_; clear hK K; refine stepE2 rfl rfl ?_ (fun w1 hS => ?_) fun K hK => ?_; rotate_left; (focus (obtain ⟨m0, m1, m2, m3, m4⟩ := cells5t (blk_below' K411.out hS); obtain ⟨k0, k1, k2, k3, k4⟩ := cells5t (blk_below' K511.out hS); obtain ⟨i0, i1, i2, i3, i4, i5, i6⟩ := cells7' (blk_below' KI.out hS); obtain ⟨j0, j1, j2, j3, j4, j5, j6⟩ := cells7' (blk_below' KJ.out hS); go_simp; rfl)); go_simp; refine hK _ ?_; clear hK K; refine stepE0 rfl rfl fun K hK => ?_; go_simp; refine hK _ ?_; clear hK K; refine stepE0 rfl rfl fun K hK => ?_; go_simp; refine hK _ ?_; clear hK K; refine stepE2 rfl rfl ?_ (fun w1 hS => ?_) fun K hK => ?_; rotate_left; (focus (obtain ⟨m0, m1, m2, m3, m4⟩ := cells5t (blk_below' K411.out hS); obtain ⟨k0, k1, k2, k3, k4⟩ := cells5t (blk_below' K511.out hS); obtain ⟨i0, i1, i2, i3, i4, i5, i6⟩ := cells7' (blk_below' KI.out hS); obtain ⟨j0, j1, j2, j3, j4, j5, j6⟩ := cells7' (blk_below' KJ.out hS); go_simp; rfl)); go_simp; refine hK _ ?_; clear hK K; refine stepE0 rfl rfl fun K hK => ?_; go_simp; refine hK _ ?_; clear hK K; refine stepE2 rfl rfl ?_ (fun w1 hS => ?_) fun K hK => ?_; rotate_left; (focus (obtain ⟨m0, m1, m2, m3, m4⟩ := cells5t (blk_below' K411.out hS); obtain ⟨k0, k1, k2, k3, k4⟩ := cells5t (blk_below' K511.out hS); obtain ⟨i0, i1, i2, i3, i4, i5, i6⟩ := cells7' (blk_below' KI.out hS); obtain ⟨j0, j1, j2, j3, j4, j5, j6⟩ := cells7' (blk_below' KJ.out hS); go_simp; rfl)); go_simp; refine hK _ ?_; clear hK K; refine stepE0 rfl rfl fun K hK => ?_; go_simp; refine hK _ ?_; clear hK K; refine stepE0 rfl rfl fun K hK => ?_; go_simp; refine hK _ ?_; clear hK K; refine stepE2 rfl rfl ?_ (fun w1 hS => ?_) fun K hK => ?_; rotate_left; (focus (obtain ⟨m0, m1, m2, m3, m4⟩ := cells5t (blk_below' K411.out hS); obtain ⟨k0, k1, k2, k3, k4⟩ := cells5t (blk_below' K511.out hS); obtain ⟨i0, i1, i2, i3, i4, i5, i6⟩ := cells7' (blk_below' KI.out hS); obtain ⟨j0, j1, j2, j3, j4, j5, j6⟩ := cells7' (blk_below' KJ.out hS); go_simp; rfl)); go_simp; refine hK _ ?_; clear hK K; refine stepE0 rfl rfl fun K hK => ?_; go_simp; refine hK _ ?_; clear hK K; refine stepE2 rfl rfl ?_ (fun w1 hS => ?_) fun K hK => ?_; rotate_left; (focus (obtain ⟨m0, m1, m2, m3, m4⟩ := cells5t (blk_below' K411.out hS); obtain ⟨k0, k1, k2, k3, k4⟩ := cells5t (blk_below' K511.out hS); obtain ⟨i0, i1, i2, i3, i4, i5, i6⟩ := cells7' (blk_below' KI.out hS); obtain ⟨j0, j1, j2, j3, j4, j5, j6⟩ := cells7' (blk_below' KJ.out hS); go_simp; rfl)); go_simp; refine hK _ ?_; clear hK K; refine stepE0 rfl rfl fun K hK => ?_; go_simp; refine hK _ ?_; clear hK K; refine stepE0 rfl rfl fun K hK => ?_; go_simp; refine hK _ ?_; clear hK K; refine stepE0 rfl rfl fun K hK => ?_; go_simp; refine hK _ ?_; clear hK K; refine stepE2 rfl rfl ?_ (fun w1 hS => ?_) fun K hK => ?_; rotate_left; (focus (obtain ⟨m0, m1, m2, m3, m4⟩ := cells5t (blk_below' K411.out hS); obtain ⟨k0, k1, k2, k3, k4⟩ := cells5t (blk_below' K511.out hS); obtain ⟨i0, i1, i2, i3, i4, i5, i6⟩ := cells7' (blk_below' KI.out hS); obtain ⟨j0, j1, j2, j3, j4, j5, j6⟩ := cells7' (blk_below' KJ.out hS); go_simp; rfl)); go_simp; refine hK _ ?_; clear hK K; refine stepE0 rfl rfl fun K hK => ?_; go_simp; refine hK _ ?_; clear hK K; refine stepE2 rfl rfl ?_ (fun w1 hS => ?_) fun K hK => ?_; rotate_left; (focus (obtain ⟨m0, m1, m2, m3, m4⟩ := cells5t (blk_below' K411.out hS); obtain ⟨k0, k1, k2, k3, k4⟩ := cells5t (blk_below' K511.out hS); obtain ⟨i0, i1, i2, i3, i4, i5, i6⟩ := cells7' (blk_below' KI.out hS); obtain ⟨j0, j1, j2, j3, j4, j5, j6⟩ := cells7' (blk_below' KJ.out hS); go_simp; rfl)); go_simp; refine hK _ ?_; clear hK K; refine stepE0 rfl rfl fun K hK => ?_; go_simp; refine hK _ ?_; clear hK K; refine stepE0 rfl rfl fun K hK => ?_; go_simp; refine hK _ ?_; clear hK K; refine stepE0 rfl rfl fun K hK => ?_; go_simp; refine hK _ ?_; clear hK K; refine stepE2 rfl rfl ?_ (fun w1 hS => ?_) fun K hK => ?_; rotate_left; (focus (obtain ⟨m0, m1, m2, m3, m4⟩ := cells5t (blk_below' K411.out hS); obtain ⟨k0, k1, k2, k3, k4⟩ := cells5t (blk_below' K511.out hS); obtain ⟨i0, i1, i2, i3, i4, i5, i6⟩ := cells7' (blk_below' KI.out hS); obtain ⟨j0, j1, j2, j3, j4, j5, j6⟩ := cells7' (blk_below' KJ.out hS); go_simp; rfl)); go_simp; refine hK _ ?_; clear hK K; refine stepE0 rfl rfl fun K hK => ?_; go_simp; refine hK _ ?_; clear hK K; refine stepE2 rfl rfl ?_ (fun w1 hS => ?_) fun K hK => ?_; rotate_left; (focus (obtain ⟨m0, m1, m2, m3, m4⟩ := cells5t (blk_below' K411.out hS); obtain ⟨k0, k1, k2, k3, k4⟩ := cells5t (blk_below' K511.out hS); obtain ⟨i0, i1, i2, i3, i4, i5, i6⟩ := cells7' (blk_below' KI.out hS); obtain ⟨j0, j1, j2, j3, j4, j5, j6⟩ := cells7' (blk_below' KJ.out hS); go_simp; rfl)); go_simp; refine hK _ ?_; clear hK K; refine stepE0 rfl rfl fun K hK => ?_; go_simp; refine hK _ ?_; clear hK K; refine stepE0 rfl rfl fun K hK => ?_; go_simp; refine hK _ ?_; clear hK K; refine stepE2 rfl rfl ?_ (fun w1 hS => ?_) fun K hK => ?_; rotate_left; (focus (obtain ⟨m0, m1, m2, m3, m4⟩ := cells5t (blk_below' K411.out hS); obtain ⟨k0, k1, k2, k3, k4⟩ := cells5t (blk_below' K511.out hS); obtain ⟨i0, i1, i2, i3, i4, i5, i6⟩ := cells7' (blk_below' KI.out hS); obtain ⟨j0, j1, j2, j3, j4, j5, j6⟩ := cells7' (blk_below' KJ.out hS); go_simp; rfl)); go_simp; refine hK _ ?_; clear hK K; refine stepE0 rfl rfl fun K hK => ?_; go_simp; refine hK _ ?_; clear hK K; refine stepE2 rfl rfl ?_ (fun w1 hS => ?_) fun K hK => ?_; rotate_left; (focus (obtain ⟨m0, m1, m2, m3, m4⟩ := cells5t (blk_below' K411.out hS); obtain ⟨k0, k1, k2, k3, k4⟩ := cells5t (blk_below' K511.out hS); obtain ⟨i0, i1, i2, i3, i4, i5, i6⟩ := cells7' (blk_below' KI.out hS); obtain ⟨j0, j1, j2, j3, j4, j5, j6⟩ := cells7' (blk_below' KJ.out hS); go_simp; rfl)); go_simp; refine hK _ ?_; clear hK K; refine stepE0 rfl rfl fun K hK => ?_; go_simp; refine hK _ ?_; clear hK K; refine stepE0 rfl rfl fun K hK => ?_; go_simp; refine hK _ ?_; clear hK K; refine stepE1S rfl rfl fun K hK => ?_; go_wp2
    refine ⟨(Below.drew (Below.refl _ _)).alloc (Nat.le_refl _) _, ?_⟩
    refine stepE1 rfl rfl (by kernel_rfl) fun K hK => ?_; go_wp2
    try refine stepEnil ?_
    go_wp2_with fail
    refine (code0 _).mono ?_
    rintro e wz ⟨rfl, hwz⟩
    have hbz : Below w11.heap.size w11 wz := by rw [← hwz]; exact (by repeat (first | (with_reducible first | exact .refl _ _ | refine .setCell ?_ ?_ _ | refine .alloc ?_ ?_ _ | refine .drewN ?_ _ | refine .drew ?_ | exact Nat.le_refl _) | (focus (simp only [World.size_alloc, World.size_setCell, World.size_drew, World.size_drewN]; omega)) | omega | exact Nat.le_refl _ | (focus (simp; done)) | (focus (simp; omega))))
    have hz := hbz.size
    have KWZ := Lib.hid (show wz.heap[w11.heap.size]? = some (.cells #[.int .i64 2, .int .i64 ((s1 : Int) + (s2 : Int)), .int .i64 ((L1 : Int) + (L2 : Int)), .int .i64 (((s1 : Int) - (L1 : Int)) + ((s2 : Int) - (L2 : Int))), .int .i64 (((((s1 : Int) - (L1 : Int)) + ((s2 : Int) - (L2 : Int))) * 1000).tdiv ((s1 : Int) + (s2 : Int))), .int .i64 ((M1 : Int) + (M2 : Int)), .int .i64 ((G1 : Int) + (G2 : Int))] 42 (0, 0)) by rw [← hwz]; first | exact heap_new w11 _ | simp)
    have K4Z := Lib.hid (blk_below' K411.out hbz)
    have K5Z := Lib.hid (blk_below' K511.out hbz)
    have KXZ := Lib.hid (blk_below' KX11.out hbz)
    have KSZ := Lib.hid (blk_below' KS11.out hbz)
    have HBZ := Lib.hid (HB11.out.trans (hbz.mono HB11.out.size))
    clear hwz hbz
    obtain ⟨WB, hWB⟩ : ∃ WB, WB = w11.heap.size := ⟨_, rfl⟩
    rw [← hWB] at KWZ ⊢
    clear hWB
    obtain ⟨m0, m1, m2, m3, m4⟩ := cells5t K4Z.out
    obtain ⟨x0, x1, x2, x3, x4⟩ := cells5t KXZ.out
    obtain ⟨i0, i1, i2, i3, i4, i5, i6⟩ := cells7' KSZ.out
    obtain ⟨j0, j1, j2, j3, j4, j5, j6⟩ := cells7' KWZ.out
    go_wp2_with fail
    refine (HT0.out wz).mono ?_
    rintro e wf ⟨rfl, hb⟩
    have HBF := Lib.hid (HBZ.out.trans (hb.mono HBZ.out.size))
    clear hb
    go_wp2_with fail
    go_ret
    exact ⟨rfl, HB5.out.trans (HBF.out.mono HB5.out.size)⟩
end Go.Proofs.YtnhangmcnciffaaGreatDoor
