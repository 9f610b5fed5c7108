/- Law ShipLays: the walk. -/
import Derived.Test.YtmaalbbclldnpaaGreatDoorLyShipLaysLaw
import Derived.Test.YtmaalbbclldnpaaGreatDoorLyShipPages
import Derived.Test.YtmaalbbclldnpaaGreatDoorLyRef13l
import Derived.Test.YtmaalbbclldnpaaGreatDoorLyLaw09s
namespace Go.Proofs.YtmaalbbclldnpaaGreatDoor
set_option maxRecDepth 100000
set_option maxHeartbeats 8000000
open Go.RowKit
theorem rlay13_in (P : Nat → Prop) (v : Rv) (val : Value) (x : NdE) (w : World) (h : RvIn w P val v) (hx : NdP w P x) (hdl : x.n.data.length ≤ 1000000000) (hs : IxS v.l) (hz : v.size ≤ 1000000000) (hm : v.most ≤ 1000000000) (hf : v.l.length ≤ 4096) (hdn : v.d.length ≤ 1000000) :
    Calls Tryz.prog 21 #[val, .agg x.cs.toArray] w (RWTo w P (v.layN x.n)) := by
  obtain ⟨al, cl, ad, cd, xs, rfl, h⟩ := h
  exact rlay13_any P v al cl ad cd xs x w h hx hdl hs hz hm hf hdn
theorem shipLays_walk (a : Option Addr) (len cap : Nat) (l : List ActE) (a2 : Option Addr) (len2 cap2 : Nat) (xs2 : List NdE) (m16 : Nat) (w : World) (hl : l.length = len) (hr : Reads w 6 (.slice a len cap) len (l.flatMap ActE.cs)) (ho : ∀ x ∈ l, ActArg w x) (hl2 : xs2.length = len2) (hr2 : Reads w 4 (.slice a2 len2 cap2) len2 (xs2.flatMap NdE.cs)) (ho2 : ∀ x ∈ xs2, NdArg w x) (h1 : m16 ≤ 65535) :
    Calls Tryz.prog 6 #[.slice a len cap, .slice a2 len2 cap2, .int .u16 m16] w fun e w' => e = .returned (.bool true) ∧ Below w.heap.size w w' := by
  have HL := Lib.hid hl
  have HR := Lib.hid hr
  have HO := Lib.hid ho
  have HL2 := Lib.hid hl2
  have HR2 := Lib.hid hr2
  have HO2 := Lib.hid ho2
  clear hl hr ho hl2 hr2 ho2
  go_enter Tryz.func6, Tryz.ntmps6
  go_wp2_with fail
  refine (alive13 w).mono ?_
  rintro e w1 ⟨rfl, hb⟩
  have HB1 := Lib.hid hb
  have hz1 := hb.size
  clear hb
  go_wp2_with fail
  refine (far9_any a len cap l w1 HL.out (HR.out.below HB1.out)).mono ?_
  rintro e wx ⟨rfl, rfl⟩
  cases hf : far9 l
  case true =>
    go_wp2_with fail
    go_ret
    exact ⟨rfl, HB1.out⟩
  have HF9 := Lib.hid (far9_no hf)
  clear hf
  have h60 : len ≤ 60 := by rw [← HL.out]; exact HF9.out.1
  by_cases hbig : 40 < len2
  · have d1 : decide ((40 : Int) < (len2 : Int)) = true := by simp; omega
    go_wp2_with fail
    go_ret
    exact ⟨rfl, HB1.out⟩
  have d1 : decide ((40 : Int) < (len2 : Int)) = false := by simp; omega
  obtain ⟨mo, hmo, hmo2⟩ : ∃ mo : Nat, (16 : Int) + (m16 : Int) = (mo : Int) ∧ mo = 16 + m16 := ⟨16 + m16, by omega, rfl⟩
  have hmob : 16 ≤ mo ∧ mo ≤ 65551 := by omega
  have HMD := Lib.hid (show Calls Tryz.prog 11 #[.int .i64 1, .int .i64 ((16 : Int) + (m16 : Int)), .slice a len cap] w1 (MadeL w1 1 mo l) from by
    rw [hmo]
    exact made_any 1 mo (.inl rfl) (by omega) (by omega) a len cap l w1 HL.out (HR.out.below HB1.out) (fun x hx => (HO.out x hx).below HB1.out) h60 HF9.out.2)
  clear hmo hmo2
  go_wp2_with fail
  refine HMD.out.mono ?_
  rintro e w2 ⟨vp, dp, F, val, d, v, ns, rfl, hvf, hfb, hvi, hrv, hac, hsz, hns, hb⟩
  obtain ⟨c0, c1, c2, c3, c4, c5a, c5n, c5c, c6a, c6n, c6c, rfl⟩ := RvIn.agg hrv
  have HVI := Lib.hid hvi
  have HVF := Lib.hid hvf
  have HFB := Lib.hid hfb
  have HRV := Lib.hid hrv
  have HMO := Lib.hid (show v.most + 4152 ≤ 1048576 by
    have e1 : (Rv.of v ns).most = mo := by rw [hac, Rv.acts_most]; rfl
    have e2 : v.most = mo := e1
    omega)
  have HNS := Lib.hid (show ns.length ≤ 60 by have := HL.out; omega)
  have HB2 := Lib.hid (HB1.out.trans (hb.mono hz1))
  have hz2 := hb.size
  have hlv : vp < w2.heap.size := by
    obtain ⟨ix, vx, _, _, h1, _⟩ := hvf
    exact h1.lt
  clear hvf hfb hvi hrv hac hsz hns hb
  go_upto_region 8 with fail
  obtain ⟨w3, hw3⟩ : ∃ w3 : World, w3 = w2.alloc (.cells #[.int .i64 c0, .int .i64 c1, .int .i64 c2, .int .i64 c3, .bool c4, .slice c5a c5n c5c, .slice c6a c6n c6c] 30) := ⟨_, rfl⟩
  have HB23 := Lib.hid (show Below w2.heap.size w2 w3 by rw [hw3]; exact (by repeat (first | (with_reducible first | exact .refl _ _ | refine .setCell ?_ ?_ _ | refine .alloc ?_ ?_ _ | refine .drewN ?_ _ | refine .drew ?_ | exact Nat.le_refl _) | (focus (simp only [World.size_alloc, World.size_setCell, World.size_drew, World.size_drewN]; omega)) | omega | exact Nat.le_refl _ | (focus (simp; done)) | (focus (simp; omega)))))
  have KM3 := Lib.hid (show w3.heap[w2.heap.size]? = some (.cells #[.int .i64 c0, .int .i64 c1, .int .i64 c2, .int .i64 c3, .bool c4, .slice c5a c5n c5c, .slice c6a c6n c6c] 30 (0, 0)) by rw [hw3]; exact heap_new w2 _)
  rw [← hw3]
  clear hw3
  obtain ⟨MB, hMB⟩ : ∃ MB, MB = w2.heap.size := ⟨_, rfl⟩
  rw [← hMB] at KM3 ⊢
  have HMB := Lib.hid hMB
  clear hMB
  have hz3 := HB23.out.size
  have HB3 := Lib.hid (HB2.out.trans (HB23.out.mono (by have := HB2.out.size; omega)))
  have hlm3 := blk_lt KM3.out
  have HFL := Lib.hid (show ∀ j, F j → w.heap.size ≤ j ∧ j < w3.heap.size ∧ j ≠ MB from fun j hj => by
    have h1 := HVF.out.lt j hj
    have h2 := HFB.out j hj
    have h3 := HMB.out
    omega)
  have HVF3 := Lib.hid (show VF w3 vp dp F 245 d v from HVF.out.keeps (R := fun k => w2.heap.size ≤ k) (Keeps.of_below HB23.out fun k _ hk => by omega) (fun k hf e => by have := HVF.out.lt k hf; omega))
  have HRV3 := Lib.hid (show RvIn w3 (fun j => ¬ F j ∧ j < w2.heap.size) (.agg #[.int .i64 c0, .int .i64 c1, .int .i64 c2, .int .i64 c3, .bool c4, .slice c5a c5n c5c, .slice c6a c6n c6c]) (Rv.of v ns) from (HRV.out.wide (Q := fun j => ¬ F j ∧ j < w2.heap.size) (fun j hj hl => ⟨hj, hl⟩)).kp (KP.of HB23.out))
  obtain ⟨i0, hi, hzz0, hzz1, hzz2⟩ := info_parts ndinfo
  have HI := Lib.hid hi
  have HZ0 := Lib.hid hzz0
  have HZ1 := Lib.hid hzz1
  have HZ2 := Lib.hid hzz2
  clear hi hzz0 hzz1 hzz2
  have HKEY := Lib.hid (show ∀ n ∈ xs2.map NdE.n, n.key < 18446744073709551616 ∧ n.cookie < 4294967296 from fun n hn => by
    obtain ⟨x, hx, rfl⟩ := List.mem_map.1 hn
    exact ⟨(HO2.out x hx).key, (HO2.out x hx).cookie⟩)
  go_wp2_with fail
  go_loopw [10, 11, 12, 13] (fun xv dv ev i wr => ∃ (k : Nat) (P : Nat → Prop) (aL : Option Addr) (cL : Nat) (D E : Nat) (rv : Rv) (u0 u1 u2 u3 : Int) (u4 : Bool) (u5a : Option Addr) (u5n u5c : Nat) (u6a : Option Addr) (u6n u6c : Nat), k ≤ len2 ∧ i = .int .i64 k ∧ xv = .slice aL k cL ∧ dv = .int .i64 D ∧ ev = .int .i64 E ∧ (Rv.of v ns).layL ((xs2.map NdE.n).take k) = (D, E, rv) ∧ (∀ x ∈ xs2.take k, x.n.data.length ≤ 5000) ∧ wr.ownsRow w3.heap.size 48 4 (.slice aL k cL) k ((xs2.take k).flatMap NdE.cs) ∧ RvIn wr P (.agg #[.int .i64 u0, .int .i64 u1, .int .i64 u2, .int .i64 u3, .bool u4, .slice u5a u5n u5c, .slice u6a u6n u6c]) rv ∧ (∀ j, P j → ¬ F j ∧ j ≠ MB ∧ ∀ g, aL = some g → j ≠ g.block) ∧ (∀ j, j < w.heap.size → P j) ∧ wr.heap[MB]? = some (.cells #[.int .i64 u0, .int .i64 u1, .int .i64 u2, .int .i64 u3, .bool u4, .slice u5a u5n u5c, .slice u6a u6n u6c] 30 (0, 0)) ∧ Keeps (fun j => j = MB) w3 wr) (fun _ _ _ i _ => len2 - (intOf i).toNat)
  case atStart =>
    have hMB2 := HMB.out
    have hsz1 := HB2.out.size
    exact ⟨0, fun j => ¬ F j ∧ j < w2.heap.size, none, 0, 0, 0, Rv.of v ns, _, _, _, _, _, _, _, _, _, _, _, Nat.zero_le _, rfl, rfl, rfl, rfl, rfl, fun x hx => absurd hx List.not_mem_nil, World.ownsRow_nil _ _ _ _, HRV3.out, fun j hj => ⟨hj.1, by omega, fun g e => by cases e⟩, fun j hj => ⟨fun e => by have := (HFL.out j e).1; omega, by omega⟩, KM3.out, Keeps.refl _ _⟩
  case round =>
    obtain ⟨k, P, aL, cL, D, E, rv, u0, u1, u2, u3, u4, u5a, u5n, u5c, u6a, u6n, u6c, hk, rfl, rfl, rfl, rfl, hlay, h5k, hrw, hri, hP1, hP2, kmr, hkr⟩ := hrel
    have HLAY := Lib.hid hlay
    have H5K := Lib.hid h5k
    have HRW := Lib.hid hrw
    have HRI := Lib.hid hri
    have HP1 := Lib.hid hP1
    have HP2 := Lib.hid hP2
    have KMR := Lib.hid kmr
    have HKR := Lib.hid hkr
    have hzr := hkr.size
    have hlmr := blk_lt kmr
    have HBR := Lib.hid (show Below w.heap.size w wr from HB3.out.trans (hkr.below HB3.out.size fun j e => by have := HMB.out; have := HB2.out.size; omega))
    obtain ⟨dk, vk, nk, hlk, hvk, hrvk, hmk, hnk, hek, hdk⟩ := VI.layLs ((xs2.map NdE.n).take k) HVI.out (fun n hn => HKEY.out n (List.mem_of_mem_take hn)) HMO.out
    rw [hlay] at hlk hrvk hek hdk
    have hek2 : E ≤ 17 := hek
    have hDk : D ≤ k := Nat.le_trans hdk (by rw [List.length_take]; omega)
    have HVK := Lib.hid (And.intro hvk (show Rv.of vk nk = rv from hrvk))
    have HMK := Lib.hid (show vk.most ≤ 1048576 ∧ nk.length ≤ 100 from ⟨by rw [hmk]; have := HMO.out; omega, by
      have := HNS.out
      rw [List.length_take, List.length_map] at hnk
      omega⟩)
    have HLK := Lib.hid (show layL v d ((xs2.map NdE.n).take k) = (D, E, dk, vk) from hlk)
    clear hlay h5k hrw hri hP1 hP2 kmr hkr hlk hvk hrvk hmk hnk hek hdk
    by_cases hlt : k < len2
    · obtain ⟨y, hy⟩ : ∃ y, xs2[k]? = some y := ⟨_, List.getElem?_eq_getElem (by rw [HL2.out]; exact hlt)⟩
      obtain ⟨b, o, c', e, hbw, q0, q1, q2, q3⟩ := nd_cells HR2.out hy (by omega)
      obtain ⟨rfl, -, rfl⟩ := sl_inj e
      have hblt : b < wr.heap.size := by have := HBR.out.size; omega
      have r0 := (HBR.out.cell (p := ⟨b, o + k * 4, none⟩) hbw).trans q0
      have r1 := (HBR.out.cell (p := ⟨b, o + k * 4 + 1, none⟩) hbw).trans q1
      have r2 := (HBR.out.cell (p := ⟨b, o + k * 4 + 2, none⟩) hbw).trans q2
      have r3 := (HBR.out.cell (p := ⟨b, o + k * 4 + 3, none⟩) hbw).trans q3
      have HQ0 := Lib.hid (And.intro q0 (And.intro q1 (And.intro q2 q3)))
      clear q0 q1 q2 q3
      have HY := Lib.hid hy
      have HYA := Lib.hid (HO2.out y (List.mem_of_getElem? hy))
      have hj0 : (0 : Int) ≤ (k : Int) := by omega
      have hj1 : (k : Int) < (len2 : Int) := by omega
      have HTK := Lib.hid (show xs2.take (k + 1) = xs2.take k ++ [y] by rw [List.take_add_one, hy]; rfl)
      have HTN := Lib.hid (show (xs2.map NdE.n).take (k + 1) = (xs2.map NdE.n).take k ++ [y.n] by rw [List.take_add_one, List.getElem?_map, hy]; rfl)
      clear hy e
      have HST := Lib.hid (Rv.layL_snoc ((xs2.map NdE.n).take k) (Rv.of v ns) y.n)
      rw [← HTN.out, HLAY.out] at HST
      simp only at HST
      have HYP := Lib.hid (show NdP wr (POld P wr) y from ⟨HYA.out.below HBR.out, fun ad e hl => by
        obtain ⟨b, o, c, e2, hb2, _, _⟩ := reads_at HYA.out.data (by omega) (by omega)
        have e3 := (sl_inj e2).1
        rw [e] at e3
        cases e3
        have := HBR.out.size
        exact ⟨⟨HP2.out b hb2, by show b < _; omega⟩, by show b < _; omega⟩⟩)
      obtain ⟨⟨key, cookie, gone, data⟩, xa, xc⟩ := y
      simp only at r0 r1 r2 r3
      obtain ⟨xn, hxn⟩ : ∃ xn, xn = data.length := ⟨_, rfl⟩
      have HXN := Lib.hid hxn
      rw [← hxn] at r3
      clear hxn
      by_cases h5 : 5000 < xn
      · have d3 : decide ((5000 : Int) < (xn : Int)) = true := by simp; omega
        have d4 : decide (5000 < xn) = true := by simp; omega
        go_wp2_with fail
        go_ret
        exact ⟨rfl, HBR.out⟩
      have d3 : decide ((5000 : Int) < (xn : Int)) = false := by simp; omega
      have d4 : decide (5000 < xn) = false := by simp; omega
      have H5 := Lib.hid (show data.length ≤ 5000 by have := HXN.out; omega)
      have H5N := Lib.hid (show ∀ x ∈ xs2.take (k + 1), x.n.data.length ≤ 5000 from fun x hx => by
        rw [HTK.out] at hx
        rcases List.mem_append.1 hx with h | h
        · exact H5K.out x h
        · rw [List.mem_singleton.1 h]; exact H5.out)
      go_upto_region 15 with fail
      go_upto_region 16 with (at_builtin; refine wpList_append_lies _ rfl _ _ 33 rfl w3.heap.size 48 i0 (.agg #[.int .u64 0, .int .u32 0, .bool false, .slice none 0 0]) 4 40 Tryz.underlying33 HI.out HZ0.out HZ1.out HZ2.out rfl (by decide) (.slice aL k cL) k ((xs2.take k).flatMap NdE.cs) rfl (ownsRow_below HRW.out (by repeat (first | (with_reducible first | exact .refl _ _ | refine .setCell ?_ ?_ _ | refine .alloc ?_ ?_ _ | refine .drewN ?_ _ | refine .drew ?_ | exact Nat.le_refl _) | (focus (simp only [World.size_alloc, World.size_setCell, World.size_drew, World.size_drewN]; omega)) | omega | exact Nat.le_refl _ | (focus (simp; done)) | (focus (simp; omega))))) ⟨wr.heap.size, 0, none⟩ 1 1 [.int .u64 key, .int .u32 cookie, .bool gone, .slice xa xn xc] rfl rfl (World.news_of_block (cs := #[.int .u64 key, .int .u32 cookie, .bool gone, .slice xa xn xc]) (t := 48) (fr := (0, 0)) (heap_new wr _)) (by simp [Value.oneCell']) (by omega) (by unfold maxLen; omega) (by omega) (by simp; omega) _ rfl ?_; intro g' cap' w6 hown hgrow hat hlt6; have HG6 := Lib.hid hgrow; have HO6 := Lib.hid hown; have HAT := Lib.hid hat; have hz6 := hgrow.size; simp only [World.size_alloc] at hz6; clear hgrow hown hat)
      have hob : ∀ j, (Value.slice aL k cL).ownBlock = some j → ∃ g, aL = some g ∧ j = g.block := fun j e => by
        cases aL with
        | none => simp [Value.ownBlock] at e
        | some g => exact ⟨g, rfl, by simp [Value.ownBlock] at e; exact e.symm⟩
      have HK6 := Lib.hid (show Keeps (fun j => (Value.slice aL k cL).ownBlock = some j) wr w6 from ((Keeps.refl _ wr).alloc _).trans (grown_keeps HG6.out) (fun _ _ e => e))
      have HR6 := Lib.hid (show w6.ownsRow w3.heap.size 48 4 (.slice (some ⟨g', 0, none⟩) (k + 1) cap') (k + 1) ((xs2.take (k + 1)).flatMap NdE.cs) from ownsRow_cast HO6.out rfl (by rw [HTK.out, List.flatMap_append, HXN.out]; simp [NdE.cs]))
      have HRI6 := Lib.hid (show RvIn w6 (POld P wr) (.agg #[.int .i64 u0, .int .i64 u1, .int .i64 u2, .int .i64 u3, .bool u4, .slice u5a u5n u5c, .slice u6a u6n u6c]) rv from (HRI.out.wide (Q := POld P wr) (fun j hj hl => ⟨hj, hl⟩)).kp (Keeps.mono HK6.out fun j _ e f => by
        obtain ⟨g, h1, h2⟩ := hob j e
        exact (HP1.out j f.1).2.2 g h1 h2))
      have HP16 := Lib.hid (show ∀ j, POld P wr j → ¬ F j ∧ j ≠ MB ∧ j ≠ g' from fun j hj => by
        have h1 := HP1.out j hj.1
        refine ⟨h1.1, h1.2.1, fun e => ?_⟩
        rcases HAT.out with h | h
        · obtain ⟨g, h2, h3⟩ := hob g' h
          exact h1.2.2 g h2 (e.trans h3)
        · simp only [World.size_alloc] at h
          have := hj.2
          omega)
      have hnM : ¬ (Value.slice aL k cL).ownBlock = some MB := fun e => by
        have := (HRW.out.lt MB e).1
        omega
      have KM6 := Lib.hid ((HK6.out.block MB hlmr hnM).trans KMR.out)
      have HK36 := Lib.hid (show Keeps (fun j => j = MB) w3 w6 from HKR.out.trans HK6.out (fun j hj e => by have := (HRW.out.lt j e).1; omega))
      have HBR6 := Lib.hid (show Below w.heap.size w w6 from HB3.out.trans (HK36.out.below HB3.out.size fun j e => by have := HMB.out; have := HB2.out.size; omega))
      clear hob hnM r0 r1 r2 r3
      obtain ⟨RL, hRL⟩ : ∃ RL, RL = rv.layN ⟨key, cookie, gone, data⟩ := ⟨_, rfl⟩
      have h17 : RL.1 ≤ 17 := by rw [hRL]; exact Rv.layN_17 _ _
      rw [show (rv.layN (NdE.n ⟨⟨key, cookie, gone, data⟩, xa, xc⟩)) = RL from hRL.symm] at HST
      have HLC := Lib.hid (fun (w0 : World) (hb : Below w6.heap.size w6 w0) => rlay13_in (POld P wr) rv (.agg #[.int .i64 u0, .int .i64 u1, .int .i64 u2, .int .i64 u3, .bool u4, .slice u5a u5n u5c, .slice u6a u6n u6c]) ⟨⟨key, cookie, gone, data⟩, xa, xc⟩ w0 (HRI6.out.kp (KP.of hb)) (((HYP.out.kp (Keeps.mono HK6.out fun j _ e f => by
        have := (HRW.out.lt j e).1
        have h2 := f.2
        have h3 := (HP1.out j f.1)
        have h4 : ∃ g, aL = some g ∧ j = g.block := by
          cases aL with
          | none => simp [Value.ownBlock] at e
          | some g => exact ⟨g, rfl, by simp [Value.ownBlock] at e; exact e.symm⟩
        obtain ⟨g, h5, h6⟩ := h4
        exact h3.2.2 g h5 h6)) : NdP w6 (POld P wr) _).below hb) (by have := H5.out; show data.length ≤ _; omega) (by rw [← HVK.out.2]; exact HVK.out.1.srt) (by rw [← HVK.out.2]; show vk.size ≤ _; have := HVK.out.1.most; have := HMK.out.1; omega) (by rw [← HVK.out.2]; show vk.most ≤ _; have := HMK.out.1; omega) (by rw [← HVK.out.2]; show vk.idx.length ≤ _; have := HVK.out.1.len; have := HMK.out.2; omega) (by rw [← HVK.out.2]; show nk.length ≤ _; have := HMK.out.2; omega))
      have HLC := Lib.hid (fun (w0 : World) (hb : Below w6.heap.size w6 w0) => show Calls Tryz.prog 21 #[.agg #[.int .i64 u0, .int .i64 u1, .int .i64 u2, .int .i64 u3, .bool u4, .slice u5a u5n u5c, .slice u6a u6n u6c], .agg #[.int .u64 key, .int .u32 cookie, .bool gone, .slice xa xn xc]] w0 (RWTo w0 (POld P wr) RL) by
        have h9 := HLC.out w0 hb
        rw [show (rv.layN (NdE.n ⟨⟨key, cookie, gone, data⟩, xa, xc⟩)) = RL from hRL.symm] at h9
        rw [HXN.out]
        exact h9)
      clear hRL
      obtain ⟨RC, RW⟩ := RL
      simp only at h17 HST
      by_cases hE : E = 0
      case neg =>
        have e1 : ((E : Int) == 0) = false := by simp; omega
        have HS2 := Lib.hid (HST.out.trans (if_pos hE))
        clear hE
        go_wp2_with fail
        go_roundw
        case rel => exact ⟨k + 1, POld P wr, some ⟨g', 0, none⟩, cap', D, E, rv, u0, u1, u2, u3, u4, u5a, u5n, u5c, u6a, u6n, u6c, by omega, by go_num, rfl, rfl, rfl, HS2.out, H5N.out, HR6.out, HRI6.out, fun j hj => ⟨(HP16.out j hj).1, (HP16.out j hj).2.1, fun g e => by cases e; exact (HP16.out j hj).2.2⟩, fun j hj => ⟨HP2.out j hj, by have := HBR.out.size; omega⟩, KM6.out, HK36.out⟩
        case measure => simp [intOf]; omega
      case pos =>
      have e1 : ((E : Int) == 0) = true := by simp; omega
      replace HST := Lib.hid (HST.out.trans (if_neg (fun e => e hE)))
      clear hE
      obtain ⟨r0, r1, r2, r3⟩ := (show w6.cell? ⟨b, o + k * 4, none⟩ = some (.int .u64 key) ∧ w6.cell? ⟨b, o + k * 4 + 1, none⟩ = some (.int .u32 cookie) ∧ w6.cell? ⟨b, o + k * 4 + 2, none⟩ = some (.bool gone) ∧ w6.cell? ⟨b, o + k * 4 + 3, none⟩ = some (.slice xa xn xc) by
        have h9 := fun p => HBR6.out.cell (p := ⟨b, p, none⟩) hbw
        exact ⟨(h9 _).trans HQ0.out.1, (h9 _).trans HQ0.out.2.1, (h9 _).trans HQ0.out.2.2.1, by rw [h9, HXN.out]; exact HQ0.out.2.2.2⟩)
      have hb6 : b < w6.heap.size := by have := HBR6.out.size; omega
      obtain ⟨m0, m1, m2, m3, m4, m5, m6⟩ := cells7' KM6.out
      have hlm6 := blk_lt KM6.out
      go_upto_region 17 with fail
      refine wp_region_mask0 (fun w1 => w1 = _) [0, 4] [0, 0, 0, 6, 14, 31, 63, 127, 127, 255, 1023] (.op 0 2 (.op 1 0 (.op 2 0 (.op 3 0 (.op 4 2 (.op 5 1 (.op 6 0 (.op 7 0 (.op 8 0 (.op 9 1 (.op 10 0 .nil))))))))))) (by kernel_rfl) (by kernel_rfl) rfl (by kernel_rfl) (by kernel_rfl) rfl ?_
      refine stepM2 rfl rfl ?_ (fun w1 hS => ?_) fun K hK => ?_; rotate_left; (focus (obtain rfl : w1 = _ := hS; go_simp; rfl)); go_simp; refine hK _ ?_; clear hK K; refine stepM0 rfl rfl fun K hK => ?_; go_simp; refine hK _ ?_; clear hK K; refine stepM0 rfl rfl fun K hK => ?_; go_simp; refine hK _ ?_; clear hK K; refine stepM0 rfl rfl fun K hK => ?_; go_simp; refine hK _ ?_; clear hK K; refine stepM2 rfl rfl ?_ (fun w1 hS => ?_) fun K hK => ?_; rotate_left; (focus (obtain rfl : w1 = _ := hS; go_simp; rfl)); go_simp; refine hK _ ?_; clear hK K; refine stepM1 rfl rfl (by kernel_rfl) fun K hK => ?_
      (go_wp2_with fail; refine (HLC.out w6.drew (Below.drew (Below.refl _ _))).mono ?_; rintro e w7 ⟨val, rfl, hin, hb7⟩; obtain ⟨t0, t1, t2, t3, t4, t5a, t5n, t5c, t6a, t6n, t6c, rfl⟩ := RvIn.agg hin; have HIN := Lib.hid hin; have HB7 := Lib.hid (show Below w6.heap.size w6 w7 from Below.trans (Below.drew (Below.refl _ _)) (hb7.mono (Nat.le_refl _))); have KM7 := Lib.hid (blk_below' KM6.out HB7.out); have hz7 := HB7.out.size; clear hin hb7 m0 m1 m2 m3 m4 m5 m6 r0 r1 r2 r3; obtain ⟨m0, m1, m2, m3, m4, m5, m6⟩ := cells7' KM7.out; obtain ⟨f0, f1, f2, f3, f4, f5, f6⟩ := free7 KM7.out; have hlm7 := blk_lt KM7.out; go_wp2)
      refine stepM0 rfl rfl fun K hK => ?_; go_simp; refine hK _ ?_; clear hK K; refine stepM0 rfl rfl fun K hK => ?_; go_simp; refine hK _ ?_; clear hK K; refine stepM0 rfl rfl fun K hK => ?_; go_simp; refine hK _ ?_; clear hK K; refine stepM1 rfl rfl (by kernel_rfl) fun K hK => ?_; go_wp2; refine stepM0 rfl rfl fun K hK => ?_; go_simp; refine hK _ ?_; clear hK K
      try refine stepMnil0 ?_
      obtain ⟨w8, hw8⟩ : ∃ w8, w8 = set7i w7 MB (.int .i64 t0) (.int .i64 t1) (.int .i64 t2) (.int .i64 t3) (.bool t4) (.slice t5a t5n t5c) (.slice t6a t6n t6c) := ⟨_, rfl⟩
      have hk8 := set7i_keeps w7 MB (.int .i64 t0) (.int .i64 t1) (.int .i64 t2) (.int .i64 t3) (.bool t4) (.slice t5a t5n t5c) (.slice t6a t6n t6c)
      have k8 := store7i KM7.out (.int .i64 t0) (.int .i64 t1) (.int .i64 t2) (.int .i64 t3) (.bool t4) (.slice t5a t5n t5c) (.slice t6a t6n t6c)
      rw [← hw8] at hk8 k8
      have HK8 := Lib.hid hk8
      have K8 := Lib.hid k8
      unfold set7i at hw8
      rw [← hw8]
      clear hw8 hk8 k8 m0 m1 m2 m3 m4 m5 m6 f0 f1 f2 f3 f4 f5 f6
      have HP8 := Lib.hid (show ∀ j, PNew (POld P wr) w6.drew j → ¬ F j ∧ j ≠ MB ∧ j ≠ g' from fun j hj => by
        rcases hj with hj | hj
        · exact HP16.out j hj
        · have hj' : w6.heap.size ≤ j := hj
          exact ⟨fun e => by have := (HFL.out j e).2.1; omega, by omega, by omega⟩)
      have HRI8 := Lib.hid (show RvIn w8 (PNew (POld P wr) w6.drew) (.agg #[.int .i64 t0, .int .i64 t1, .int .i64 t2, .int .i64 t3, .bool t4, .slice t5a t5n t5c, .slice t6a t6n t6c]) RW from HIN.out.kp (Keeps.mono HK8.out fun j _ e f => (HP8.out j f).2.1 e))
      have HR8 := Lib.hid (show w8.ownsRow w3.heap.size 48 4 (.slice (some ⟨g', 0, none⟩) (k + 1) cap') (k + 1) ((xs2.take (k + 1)).flatMap NdE.cs) from ownsRow_keeps (ownsRow_below HR6.out HB7.out) HK8.out (fun q hq e => by have := (HR6.out.lt q hq).1; omega))
      have HK38 := Lib.hid (show Keeps (fun j => j = MB) w3 w8 from (HK36.out.trans (Keeps.of_below HB7.out fun j hj _ => hj) (fun _ _ e => e)).trans HK8.out (fun _ _ e => e))
      by_cases hc : RC = 0
      case neg =>
        have e2 : ((RC : Int) == 0) = false := by simp; omega
        have HS2 := Lib.hid (HST.out.trans (if_pos hc))
        clear hc
        go_wp2_with fail
        go_roundw
        case rel => exact ⟨k + 1, PNew (POld P wr) w6.drew, some ⟨g', 0, none⟩, cap', D, RC, RW, t0, t1, t2, t3, t4, t5a, t5n, t5c, t6a, t6n, t6c, by omega, by go_num, rfl, rfl, rfl, HS2.out, H5N.out, HR8.out, HRI8.out, fun j hj => ⟨(HP8.out j hj).1, (HP8.out j hj).2.1, fun g e => by cases e; exact (HP8.out j hj).2.2⟩, fun j hj => .inl ⟨HP2.out j hj, by have := HBR.out.size; omega⟩, K8.out, HK38.out⟩
        case measure => simp [intOf]; omega
      case pos =>
        have e2 : ((RC : Int) == 0) = true := by simp; omega
        have HS2 := Lib.hid (HST.out.trans (if_neg (fun e => e hc)))
        have HRC := Lib.hid hc
        clear hc
        go_wp2_with fail
        go_roundw
        case rel => exact ⟨k + 1, PNew (POld P wr) w6.drew, some ⟨g', 0, none⟩, cap', D + 1, 0, RW, t0, t1, t2, t3, t4, t5a, t5n, t5c, t6a, t6n, t6c, by omega, by go_num, rfl, by go_num, by rw [HRC.out], HS2.out, H5N.out, HR8.out, HRI8.out, fun j hj => ⟨(HP8.out j hj).1, (HP8.out j hj).2.1, fun g e => by cases e; exact (HP8.out j hj).2.2⟩, fun j hj => .inl ⟨HP2.out j hj, by have := HBR.out.size; omega⟩, K8.out, HK38.out⟩
        case measure => simp [intOf]; omega
    · have hj1 : ¬ (k : Int) < (len2 : Int) := by omega
      have hj2 : decide ((k : Int) < (len2 : Int)) = false := by simp; omega
      have hj3 : decide (k < len2) = false := by simp; omega
      have HKL := Lib.hid (show k = len2 by omega)
      have HTA := Lib.hid (show xs2.take k = xs2 from List.take_of_length_le (by rw [HL2.out]; omega))
      have HTB := Lib.hid (show (xs2.map NdE.n).take k = xs2.map NdE.n from List.take_of_length_le (by rw [List.length_map, HL2.out]; omega))
      have HVFR := Lib.hid (show VF wr vp dp F 245 d v from HVF3.out.keeps HKR.out fun j hj e => (HFL.out j hj).2.2 e)
      have hbsz := HBR.out.size
      have HC := Lib.hid (show Calls Tryz.prog 22 #[(.pointer (some ⟨vp, 0, none⟩)), .slice aL k cL] wr fun e w' => e = .returned (.tuple #[.int .i64 D, errV E]) ∧ VTo wr w' vp dp (fun j => ¬ F j ∧ j < wr.heap.size) 245 dk vk by
        have h9 := shlay_vs (HVFR.out.vs (P := fun j => ¬ F j ∧ j < wr.heap.size) fun j hj e => e.1 hj) (fun j hj => hj.2) aL k cL xs2 ⟨by rw [HL2.out]; exact HKL.out.symm, by have h1 := reads_of_owns HRW.out; rw [HTA.out] at h1; exact h1, fun ad e => by
          have h1 := HRW.out.lt ad.block (by rw [e]; rfl)
          exact ⟨⟨fun f => by have := (HFL.out _ f).2.1; omega, h1.2⟩, h1.2⟩, fun x hx => ⟨(HO2.out x hx).below HBR.out, fun ad e hl => by
          obtain ⟨b, o, c, e2, hb2, _, _⟩ := reads_at (HO2.out x hx).data (by omega) (by omega)
          have e3 := (sl_inj e2).1
          rw [e] at e3
          cases e3
          exact ⟨⟨fun f => by have := (HFL.out _ f).1; have : b < w.heap.size := hb2; show False; have h4 := (HFL.out b f).1; omega, by show b < _; omega⟩, by show b < _; omega⟩⟩⟩ (fun x hx => by have := H5K.out x (by rw [HTA.out]; exact hx); omega) (VI.layOk _ HVI.out HKEY.out (.inl HMO.out))
        rw [← HTB.out, HLK.out] at h9
        exact h9)
      go_wp2_with fail
      refine HC.out.mono ?_
      rintro e w8 ⟨rfl, hvt⟩
      have HVT := Lib.hid hvt
      have KM8 := Lib.hid (hvt.2.blk KMR.out ⟨fun f => (HFL.out _ f).2.2 rfl, hlmr⟩)
      have HRI8 := Lib.hid (show RvIn w8 (fun j => P j ∧ j < wr.heap.size) (.agg #[.int .i64 u0, .int .i64 u1, .int .i64 u2, .int .i64 u3, .bool u4, .slice u5a u5n u5c, .slice u6a u6n u6c]) rv from (HRI.out.wide (Q := fun j => P j ∧ j < wr.heap.size) (fun j hj hl => ⟨hj, hl⟩)).kp (KP.mono hvt.2 fun j _ hj => ⟨(HP1.out j hj.1).1, hj.2⟩))
      have HB8 := Lib.hid (show Below w.heap.size w w8 from HBR.out.trans (hvt.2.below hbsz fun j hj => ⟨fun f => by have := (HFL.out j f).1; omega, by omega⟩))
      clear hvt
      have HSE := Lib.hid (show Calls Tryz.prog 23 #[(.pointer (some ⟨vp, 0, none⟩)), .agg #[.int .i64 u0, .int .i64 u1, .int .i64 u2, .int .i64 u3, .bool u4, .slice u5a u5n u5c, .slice u6a u6n u6c]] w8 fun e w' => e = .returned (.bool true) ∧ Below w8.heap.size w8 w' by
        obtain ⟨ix, vx, g1, g2, g3, g4⟩ := HVT.out.1
        have h1 := HRI8.out
        rw [← HVK.out.2] at h1
        obtain ⟨al, cl, ad, cd, xs, e, hat⟩ := h1
        rw [e]
        exact same09_any g1 al cl ad cd hat.rl (by have := HVK.out.1.len; have := HMK.out.2; omega))
      obtain ⟨m0, m1, m2, m3, m4, m5, m6⟩ := cells7' KM8.out
      have hlm8 := blk_lt KM8.out
      have eee : ((E : Int) == (E : Int)) = true := by simp
      have edd : ((D : Int) == (D : Int)) = true := by simp
      go_wp2_with fail
      refine (code_any E (by omega) (by omega) _).mono ?_
      rintro e wx ⟨rfl, rfl⟩
      go_wp2_with fail
      refine HSE.out.mono ?_
      rintro e w9 ⟨rfl, hb⟩
      have HB9 := Lib.hid (HB8.out.trans (hb.mono HB8.out.size))
      clear hb
      go_wp2_with fail
      go_ret
      exact ⟨rfl, HB9.out⟩
end Go.Proofs.YtmaalbbclldnpaaGreatDoor
