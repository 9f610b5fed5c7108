/- Joined texts: ShipLay, ShipAll, ShipBehind, ShipBothLaw, ShipBoth. -/
import Derived.Test.YtmaalbbclldnpaaGreatDoorSo17
import Derived.Test.YtmaalbbclldnpaaGreatDoorSoOpenNd
/- Package ship: Lay. -/
namespace Go.Proofs.YtmaalbbclldnpaaGreatDoor
open Go.RowKit
/-- Needles laid one behind the other: how many, the error, the disk and the volume. -/
def layL : Vl → Dk → List Nd → Nat × Nat × Dk × Vl
  | v, d, [] => (0, 0, d, v)
  | v, d, n :: r => if (v.lay d n).1 ≠ 0 then (0, (v.lay d n).1, (v.lay d n).2.1, (v.lay d n).2.2) else ((layL (v.lay d n).2.2 (v.lay d n).2.1 r).1 + 1, (layL (v.lay d n).2.2 (v.lay d n).2.1 r).2)
/-- What each laying asks. -/
def LayOk : Vl → Dk → List Nd → Prop
  | _, _, [] => True
  | v, d, n :: r => (∀ p ∈ v.idx, p.len ≤ 4096 ∧ p.off ≤ 1000000000) ∧ (v.get d n.key n.cookie).2.1 = false ∧ ((v.lay d n).1 = 0 → LayOk (v.lay d n).2.2 (v.lay d n).2.1 r)
theorem Reads.keepsN {F : Nat → Prop} {w w' : World} {sz : Nat} {a : Option Addr} {n c : Nat} {xs : List Value} (hz : 0 < sz) (h : Reads w sz (.slice a n c) n xs) (hk : Keeps F w w') (ha : ∀ ad, a = some ad → ad.block < w.heap.size ∧ ¬ F ad.block) : Reads w' sz (.slice a n c) n xs := by
  by_cases hn : n = 0
  · subst hn
    obtain ⟨h1, h2⟩ := h
    have hx : xs = [] := List.eq_nil_of_length_eq_zero (by simpa using h1)
    subst hx
    refine ⟨h1, ?_⟩
    rcases h2 with h2 | ⟨ad, c', e, hm, _⟩
    · exact .inl h2
    · exact .inr ⟨ad, c', e, hm, fun j u hu => by simp at hu⟩
  · obtain ⟨b, o, c', e, hb, hm, hc⟩ := reads_at h (by omega) hz
    obtain ⟨rfl, -, rfl⟩ := sl_inj e
    refine ⟨h.1, .inr ⟨⟨b, o, none⟩, c, rfl, hm, fun j u hu => ?_⟩⟩
    have e1 : (⟨b, o, none⟩ : Addr).add j = ⟨b, o + j, none⟩ := by
      unfold Addr.add
      by_cases hj : j = 0 <;> simp [hj]
    rw [e1, hk.cell hb (ha _ rfl).2]
    exact hc j u hu
/-- A row of needles that lies in the blocks P. -/
structure NdsAt (w : World) (P : Nat → Prop) (a : Option Addr) (n c : Nat) (xs : List NdE) : Prop where
  len : xs.length = n
  row : Reads w 4 (.slice a n c) n (xs.flatMap NdE.cs)
  blk : ∀ ad, a = some ad → P ad.block ∧ ad.block < w.heap.size
  ins : ∀ x ∈ xs, NdArg w x ∧ ∀ ad, x.a = some ad → P ad.block ∧ ad.block < w.heap.size
theorem NdsAt.kp {P : Nat → Prop} {w w' : World} {a : Option Addr} {n c : Nat} {xs : List NdE} (h : NdsAt w P a n c xs) (hk : KP P w w') : NdsAt w' P a n c xs :=
  ⟨h.len, h.row.keepsN (by omega) hk (fun ad e => ⟨(h.blk ad e).2, fun e2 => e2 (h.blk ad e).1⟩), fun ad e => ⟨(h.blk ad e).1, Nat.lt_of_lt_of_le (h.blk ad e).2 hk.size⟩,
    fun x hx => ⟨⟨(h.ins x hx).1.key, (h.ins x hx).1.cookie, (h.ins x hx).1.data.keepsN (by omega) hk (fun ad e => ⟨((h.ins x hx).2 ad e).2, fun e2 => e2 ((h.ins x hx).2 ad e).1⟩)⟩, fun ad e => ⟨((h.ins x hx).2 ad e).1, Nat.lt_of_lt_of_le ((h.ins x hx).2 ad e).2 hk.size⟩⟩⟩
theorem NdRow.at' {T : TypeId} {P : Nat → Prop} {w : World} {B : Nat} {a : Option Addr} {n c : Nat} {xs : List NdE} (h : NdRow T w B (.slice a n c) xs) (hn : xs.length = n) (hP : ∀ k, B ≤ k → k < w.heap.size → P k) (hx : ∀ x ∈ xs, x.n.key < 18446744073709551616 ∧ x.n.cookie < 4294967296) : NdsAt w P a n c xs := by
  have hr := h.row
  rw [hn] at hr
  refine ⟨hn, reads_of_owns hr, fun ad e => ?_, fun x hxm => ⟨⟨(hx x hxm).1, (hx x hxm).2, (h.ins x hxm).1⟩, fun ad e => ⟨hP _ ((h.ins x hxm).2 ad e).1 ((h.ins x hxm).2 ad e).2, ((h.ins x hxm).2 ad e).2⟩⟩⟩
  have := hr.lt ad.block (by rw [e]; rfl)
  exact ⟨hP _ this.1 this.2, this.2⟩
set_option maxRecDepth 100000 in
set_option maxHeartbeats 2000000 in
theorem shlay_vs {w : World} {vp dp K : Nat} {P : Nat → Prop} {d : Dk} {v : Vl} (h : VS w vp dp P K d v) (hP : ∀ k, P k → k < w.heap.size) (a : Option Addr) (n c : Nat) (xs : List NdE) (hx : NdsAt w P a n c xs) (hd : ∀ x ∈ xs, x.n.data.length ≤ 1000000000) (hok : LayOk v d (xs.map NdE.n)) :
    Calls Tryz.prog 22 #[(.pointer (some ⟨vp, 0, none⟩)), .slice a n c] w fun e w' => e = .returned (.tuple #[.int .i64 (layL v d (xs.map NdE.n)).1, errV (layL v d (xs.map NdE.n)).2.1]) ∧ VTo w w' vp dp P K (layL v d (xs.map NdE.n)).2.2.1 (layL v d (xs.map NdE.n)).2.2.2 := by
  have HV := Lib.hid h
  have HX := Lib.hid hx
  have HPP := Lib.hid hP
  have HD := Lib.hid hd
  obtain ⟨l, hl⟩ : ∃ l, l = xs.map NdE.n := ⟨_, rfl⟩
  rw [← hl] at hok ⊢
  have HL := Lib.hid hl
  have HOK := Lib.hid hok
  have hlen : l.length = n := by rw [hl, List.length_map, hx.len]
  have HLEN := Lib.hid hlen
  have hmx := hx.row.le
  unfold maxLen at hmx
  clear h hx hP hd hok hl hlen
  go_enter Tryz.func22, Tryz.ntmps22
  go_wp2_with fail
  go_loopw [14] (fun i wr => ∃ (k : Nat) (dk : Dk) (vk : Vl), k ≤ n ∧ i = .int .i64 k ∧ VS wr vp dp P K dk vk ∧ KP P w wr ∧ LayOk vk dk (l.drop k) ∧ layL v d l = (k + (layL vk dk (l.drop k)).1, (layL vk dk (l.drop k)).2)) (fun i _ => n - (intOf i).toNat)
  case atStart => exact ⟨0, d, v, Nat.zero_le _, rfl, HV.out, KP.refl _ _, by simpa using HOK.out, by simp⟩
  case round =>
    obtain ⟨k, dk, vk, hk, rfl, hvs, hkp, hlo, heq⟩ := hrel
    have HVS := Lib.hid hvs
    have HKP := Lib.hid hkp
    have HLO := Lib.hid hlo
    have HEQ := Lib.hid heq
    have hzr := hkp.size
    clear hvs hkp hlo heq
    by_cases hlt : k < n
    · obtain ⟨x, hx⟩ : ∃ x, xs[k]? = some x := ⟨_, List.getElem?_eq_getElem (by rw [HX.out.len]; exact hlt)⟩
      have hxr := HX.out.kp HKP.out
      obtain ⟨b, o, c', e, hblt, r0, r1, r2, r3⟩ := nd_cells hxr.row hx (by omega)
      obtain ⟨rfl, -, rfl⟩ := sl_inj e
      have HXA := Lib.hid ((hxr.ins x (List.mem_of_getElem? hx)).1)
      have hdl := HD.out x (List.mem_of_getElem? hx)
      have hdrop : l.drop k = x.n :: l.drop (k + 1) := by
        have h1 : l[k]? = some x.n := by rw [HL.out, List.getElem?_map, hx]; rfl
        have h2 := (List.getElem?_eq_some_iff.1 h1).1
        have h3 := (List.getElem?_eq_some_iff.1 h1).2
        rw [← h3, List.getElem_cons_drop]
      have hlo2 := HLO.out
      have heq2 := HEQ.out
      rw [hdrop] at hlo2 heq2
      obtain ⟨ok1, ok2, ok3⟩ := hlo2
      have HK3 := Lib.hid ok3
      have HLY := Lib.hid (fun (w0 : World) (hb : Below wr.heap.size wr w0) => laynd_vs (HVS.out.below hb) (fun k hk => Nat.lt_of_lt_of_le (HPP.out k hk) (Nat.le_trans hzr hb.size)) x.n x.a x.c HXA.out.key HXA.out.cookie hdl (HXA.out.data.below hb) ok1 ok2)
      have HEQ2 := Lib.hid heq2
      have hj0 : (0 : Int) ≤ (k : Int) := by omega
      have hj1 : (k : Int) < (n : Int) := by omega
      obtain ⟨ly, hly⟩ : ∃ ly, ly = vk.lay dk x.n := ⟨_, rfl⟩
      rw [← hly] at HLY HK3
      have HLY2 := Lib.hid hly
      obtain ⟨lc, ld, lv⟩ := ly
      simp only at HLY HK3
      clear hx e hdrop ok1 ok2 ok3 heq2 hly hxr hdl
      obtain ⟨⟨key, cookie, gone, data⟩, ad, cd⟩ := x
      unfold ndV at HLY
      simp only at r0 r1 r2 r3 HLY HLY2 HEQ2
      go_wp2_with fail
      refine (HLY.out _ (by repeat (first | (with_reducible exact Below.refl _ _) | (with_reducible refine Below.setCell ?_ ?_ _) | (with_reducible refine Below.alloc ?_ ?_ _) | (with_reducible refine Below.drewN ?_ _) | (with_reducible refine Below.drew ?_) | (with_reducible exact Nat.le_refl _) | (focus (simp only [World.size_alloc, World.size_setCell, World.size_drew, World.size_drewN]; omega)) | omega | exact Nat.le_refl _ | (focus (simp; done)) | (focus (simp; omega))))).mono ?_
      rintro e w5 ⟨rfl, ht⟩
      have HK5 := Lib.hid (HKP.out.trans ((KP.of (P := P) (Below.alloc (Below.refl _ _) (Nat.le_refl _) _)).trans ht.2))
      have HV5 := Lib.hid ht.1
      clear ht
      by_cases hk0 : lc = 0
      case neg =>
        have HNE := Lib.hid (errV_ne (k := (lc : Int)) (by omega))
        have HE := Lib.hid (show layL v d l = (k, lc, ld, lv) by
          rw [HEQ2.out]
          unfold layL
          rw [← HLY2.out]
          simp only
          rw [if_pos hk0]
          rfl)
        rw [HNE.out]
        clear hk0
        go_wp2_with fail
        go_ret2
        rw [HE.out]
        exact ⟨by rw [HNE.out]; rfl, HV5.out, HK5.out⟩
      have HE := Lib.hid (show layL v d l = (k + 1 + (layL lv ld (l.drop (k + 1))).1, (layL lv ld (l.drop (k + 1))).2) by
        rw [HEQ2.out]
        conv => lhs; unfold layL
        rw [← HLY2.out]
        simp only
        rw [if_neg (by simpa using hk0)]
        simp only [Prod.mk.injEq, and_true]
        omega)
      have HK6 := Lib.hid (HK3.out hk0)
      rw [hk0, show errV ((0 : Nat) : Int) = .nilIface from rfl]
      clear hk0
      go_wp2_with fail
      go_roundw
      case rel => exact ⟨k + 1, ld, lv, by omega, by go_num, HV5.out, HK5.out, HK6.out, HE.out⟩
      case measure => simp [intOf]; omega
    · have hj1 : ¬ (k : Int) < (n : Int) := by omega
      have hj2 : decide ((k : Int) < (n : Int)) = false := by simp; omega
      have hj3 : decide (k < n) = false := by simp; omega
      have HE := Lib.hid (show layL v d l = (n, 0, dk, vk) by
        rw [HEQ.out, List.drop_of_length_le (by rw [HLEN.out]; omega)]
        unfold layL
        simp only [Prod.mk.injEq, and_true]
        omega)
      go_wp2_with fail
      go_ret2
      rw [HE.out]
      exact ⟨rfl, HVS.out, HKP.out⟩
end Go.Proofs.YtmaalbbclldnpaaGreatDoor

/- Package ship: All (one page). Two volumes beside each other. -/
namespace Go.Proofs.YtmaalbbclldnpaaGreatDoor
open Go.RowKit
/-- A volume in just the blocks F. -/
def VF (w : World) (vp dp : Nat) (F : Nat → Prop) (K : Nat) (d : Dk) (v : Vl) : Prop :=
  ∃ ix vx G q, VolAt w vp dp ix vx v ∧ DiskAt w dp G q d ∧ DkOk K d ∧ (∀ k, G k → ¬ VFoot vp ix vx k) ∧ (∀ k, F k ↔ G k ∨ VFoot vp ix vx k) ∧ (∀ k, F k → k < w.heap.size) ∧ VOk v
theorem VS.foot {w : World} {vp dp K : Nat} {P : Nat → Prop} {d : Dk} {v : Vl} (h : VS w vp dp P K d v) : ∃ F, VF w vp dp F K d v ∧ ∀ k, F k → ¬ P k := by
  obtain ⟨ix, vx, h1, ⟨G, q, g1, g2, g3⟩, h3, h4⟩ := h
  refine ⟨fun k => G k ∨ VFoot vp ix vx k, ⟨ix, vx, G, q, h1, g1, g2, fun k hk e => (g3 k hk).1 (.inr e), fun k => Iff.rfl, fun k hk => ?_, h4⟩, fun k hk e => ?_⟩
  · rcases hk with hk | hk
    · exact (g3 k hk).2
    · exact (h3 k hk).2
  · rcases hk with hk | hk
    · exact (g3 k hk).1 (.inl e)
    · exact (h3 k hk).1 e
theorem VF.vs {w : World} {vp dp K : Nat} {F P : Nat → Prop} {d : Dk} {v : Vl} (h : VF w vp dp F K d v) (hF : ∀ k, F k → ¬ P k) : VS w vp dp P K d v := by
  obtain ⟨ix, vx, G, q, h1, h2, h3, h4, h5, h6, h7⟩ := h
  refine ⟨ix, vx, h1, ⟨G, q, h2, h3, fun k hk => ⟨fun e => ?_, h6 k ((h5 k).2 (.inl hk))⟩⟩, fun k hk => ⟨hF k ((h5 k).2 (.inr hk)), h6 k ((h5 k).2 (.inr hk))⟩, h7⟩
  rcases e with e | e
  · exact hF k ((h5 k).2 (.inl hk)) e
  · exact h4 k hk e
theorem VF.keeps {w w' : World} {vp dp K : Nat} {F R : Nat → Prop} {d : Dk} {v : Vl} (h : VF w vp dp F K d v) (hk : Keeps R w w') (hR : ∀ k, F k → ¬ R k) : VF w' vp dp F K d v := by
  obtain ⟨ix, vx, G, q, h1, h2, h3, h4, h5, h6, h7⟩ := h
  exact ⟨ix, vx, G, q, h1.keeps hk (fun k hf => hR k ((h5 k).2 (.inr hf))), h2.keeps hk (fun k hg => hR k ((h5 k).2 (.inl hg))), h3, h4, h5, fun k hf => Nat.lt_of_lt_of_le (h6 k hf) hk.size, h7⟩
theorem VF.kp {w w' : World} {vp dp K : Nat} {F P : Nat → Prop} {d : Dk} {v : Vl} (h : VF w vp dp F K d v) (hk : KP P w w') (hP : ∀ k, F k → P k) : VF w' vp dp F K d v :=
  h.keeps hk fun k hf e => e (hP k hf)
theorem VF.lt {w : World} {vp dp K : Nat} {F : Nat → Prop} {d : Dk} {v : Vl} (h : VF w vp dp F K d v) : ∀ k, F k → k < w.heap.size := by
  obtain ⟨ix, vx, G, q, h1, h2, h3, h4, h5, h6, h7⟩ := h
  exact h6
theorem VF.at' {w : World} {vp dp K : Nat} {F : Nat → Prop} {d : Dk} {v : Vl} (h : VF w vp dp F K d v) : ∃ ix vx P, VolAt w vp dp ix vx v ∧ DS w dp P K d ∧ VOk v := by
  obtain ⟨ix, vx, h1, h2, h3, h4⟩ := h.vs (P := fun _ => False) (fun _ _ e => e)
  exact ⟨ix, vx, _, h1, h2, h4⟩
theorem layL_le : ∀ (l : List Nd) (v : Vl) (d : Dk), (layL v d l).1 ≤ l.length
  | [], _, _ => Nat.le_refl _
  | n :: r, v, d => by
    unfold layL
    split
    · simp
    · have := layL_le r (v.lay d n).2.2 (v.lay d n).2.1
      simp only [List.length_cons]
      omega
set_option maxRecDepth 100000 in
set_option maxHeartbeats 2000000 in
theorem shall_vs {w : World} {vp dp vpa dpa K Ka : Nat} {P FA : Nat → Prop} {d da : Dk} {v va : Vl} (h : VS w vp dp P K d v) (hP : ∀ k, P k → k < w.heap.size) (hA : VF w vpa dpa FA Ka da va) (hFA : ∀ k, FA k → P k)
    (hpa : ∀ p ∈ va.idx, p.len ≤ 4096 ∧ p.off ≤ 1000000000) (hmore : (va.load da 0 64).more = false) (hn : ∀ n ∈ (va.load da 0 64).l, n.key < 18446744073709551616 ∧ n.cookie < 4294967296 ∧ n.data.length ≤ 1000000000) (hok : LayOk v d (va.load da 0 64).l) (hcnt : (va.load da 0 64).l.length ≤ 64) :
    Calls Tryz.prog 25 #[(.pointer (some ⟨vpa, 0, none⟩)), (.pointer (some ⟨vp, 0, none⟩))] w fun e w' => e = .returned (.tuple #[.int .i64 (layL v d (va.load da 0 64).l).1, errV (layL v d (va.load da 0 64).l).2.1]) ∧ VTo w w' vp dp P K (layL v d (va.load da 0 64).l).2.2.1 (layL v d (va.load da 0 64).l).2.2.2 := by
  have HV := Lib.hid h
  have HPP := Lib.hid hP
  have HA := Lib.hid hA
  have HFA := Lib.hid hFA
  have HTK := Lib.hid (fun (w0 : World) (hb : Below w.heap.size w w0) => show Calls Tryz.prog 12 #[(.pointer (some ⟨vpa, 0, none⟩)), .int .u64 0, .int .i64 64] w0 (TakeTo w0 (va.load da 0 64)) by
    obtain ⟨ix, vx, Q, h1, h2, h4⟩ := (hA.keeps (R := fun k => w.heap.size ≤ k) (Keeps.of_below hb fun k _ hk => by omega) (fun k hf e => by have := hA.lt k hf; omega)).at'
    exact take_any h1 h2 h4.names h4.long.1 hpa 0 64 (by omega) (by omega))
  obtain ⟨ld, hld⟩ : ∃ ld, ld = va.load da 0 64 := ⟨_, rfl⟩
  rw [← hld] at hmore hn hok hcnt HTK ⊢
  obtain ⟨L, nx, mo, bad⟩ := ld
  simp only at hmore hn hok hcnt ⊢
  subst hmore
  have HN := Lib.hid hn
  have HOK := Lib.hid hok
  have HCN := Lib.hid hcnt
  have hla : vpa < w.heap.size := by
    obtain ⟨ix, vx, _, _, h1, _⟩ := hA
    exact h1.lt
  have hlv : vp < w.heap.size := by obtain ⟨_, _, h1, _⟩ := h; exact h1.lt
  obtain ⟨ly, hly⟩ : ∃ ly, ly = layL v d L := ⟨_, rfl⟩
  have hlc : ly.1 ≤ 64 := by rw [hly]; exact Nat.le_trans (layL_le L v d) hcnt
  rw [← hly]
  obtain ⟨c, k, d2, v2⟩ := ly
  have HLE := Lib.hid hly
  simp only at hlc ⊢
  clear h hP hA hFA hpa hn hok hcnt hld hly
  go_enter Tryz.func25, Tryz.ntmps25
  go_wp2_with fail
  refine wp_loop_rounds 2 ?_
  rw [rounds_succ]
  go_upto_region 7 with fail
  obtain ⟨w0, hw0⟩ : ∃ w0 : World, w0 = w.alloc (.cells #[.slice none 0 0, .int .u64 0, .bool true, .int .i64 0] 35) := ⟨_, rfl⟩
  have HB0 := Lib.hid (show Below w.heap.size w w0 by rw [hw0]; exact (by repeat (first | (with_reducible exact Below.refl _ _) | (with_reducible refine Below.setCell ?_ ?_ _) | (with_reducible refine Below.alloc ?_ ?_ _) | (with_reducible refine Below.drewN ?_ _) | (with_reducible refine Below.drew ?_) | (with_reducible exact Nat.le_refl _) | (focus (simp only [World.size_alloc, World.size_setCell, World.size_drew, World.size_drewN]; omega)) | omega | exact Nat.le_refl _ | (focus (simp; done)) | (focus (simp; omega)))))
  have KL0 := Lib.hid (show w0.heap[w.heap.size]? = some (.cells #[.slice none 0 0, .int .u64 0, .bool true, .int .i64 0] 35 (0, 0)) by rw [hw0]; exact heap_new w _)
  rw [← hw0]
  clear hw0
  have hz0 := HB0.out.size
  have hl0 := blk_lt KL0.out
  obtain ⟨l0, l1, l2, l3⟩ := ncells KL0.out
  go_wp2_with fail
  refine (HTK.out _ HB0.out).mono ?_
  rintro e w1 ⟨vl, xs, rfl, hxs, hnr, hb⟩
  obtain ⟨nl, hnl⟩ : ∃ nl, nl = xs.length := ⟨_, rfl⟩
  have hrow := hnr.row
  rw [← hnl] at hrow
  obtain ⟨al, cl, rfl, -⟩ := slice_of hrow
  have HXS := Lib.hid hxs
  have HNL := Lib.hid hnl
  have HNR := Lib.hid hnr
  have HB1 := Lib.hid (HB0.out.trans (hb.mono hz0))
  have KL1 := Lib.hid (blk_below' KL0.out hb)
  have hz1 := hb.size
  clear hxs hnl hnr hrow hb l0 l1 l2 l3
  obtain ⟨l0, l1, l2, l3⟩ := ncells KL1.out
  obtain ⟨f0, f1, f2, f3⟩ := nfree KL1.out
  have hl1 := blk_lt KL1.out
  go_upto_region 8 with fail
  obtain ⟨w2, hw2⟩ : ∃ w2 : World, w2 = set4 w1 w.heap.size (.slice al nl cl) (.int .u64 nx) (.bool false) (.int .i64 bad) := ⟨_, rfl⟩
  have hk2 := set4_keeps w1 w.heap.size (.slice al nl cl) (.int .u64 nx) (.bool false) (.int .i64 bad)
  have kb2 := store4 KL1.out (.slice al nl cl) (.int .u64 nx) (.bool false) (.int .i64 bad)
  have hb2 := set4_below (w := w1) (Nat.le_refl w.heap.size) (.slice al nl cl) (.int .u64 nx) (.bool false) (.int .i64 bad)
  rw [← hw2] at hk2 kb2 hb2
  have HB2 := Lib.hid (HB1.out.trans hb2)
  have KL2 := Lib.hid kb2
  have HNR2 := Lib.hid (HNR.out.keeps hk2 (fun k h1 _ e => by omega))
  unfold set4 at hw2
  rw [← hw2]
  clear hw2 hk2 kb2 hb2 l0 l1 l2 l3 f0 f1 f2 f3
  have hz2 := HB2.out.size
  have hl2 := blk_lt KL2.out
  obtain ⟨l0, l1, l2, l3⟩ := ncells KL2.out
  obtain ⟨Q, hQ⟩ : ∃ Q : Nat → Prop, Q = fun k => P k ∨ (w.heap.size ≤ k ∧ k < w2.heap.size) := ⟨_, rfl⟩
  have HQ := Lib.hid hQ
  clear hQ
  have HV2 := Lib.hid (show VS w2 vp dp Q K d v from HV.out.later HB2.out (fun k hk => by
    rw [HQ.out] at hk
    exact hk.imp id (fun h => h.1)))
  have HQB := Lib.hid (show ∀ k, Q k → k < w2.heap.size from fun k hk => by
    rw [HQ.out] at hk
    rcases hk with hk | hk
    · have := HPP.out k hk; omega
    · exact hk.2)
  have HLY := Lib.hid (shlay_vs HV2.out HQB.out al nl cl xs (HNR2.out.at' HNL.out.symm (fun k h1 h2 => by rw [HQ.out]; exact .inr ⟨Nat.le_trans hz0 h1, h2⟩) (fun x hx => by
      have := HN.out x.n (by rw [← HXS.out]; exact List.mem_map.2 ⟨x, hx, rfl⟩)
      exact ⟨this.1, this.2.1⟩)) (fun x hx => (HN.out x.n (by rw [← HXS.out]; exact List.mem_map.2 ⟨x, hx, rfl⟩)).2.2) (by rw [show xs.map NdE.n = L from HXS.out]; exact HOK.out))
  rw [show xs.map NdE.n = L from HXS.out] at HLY
  rw [← HLE.out] at HLY
  simp only at HLY
  go_wp2_with fail
  refine HLY.out.mono ?_
  rintro e w3 ⟨rfl, ht⟩
  have HT := Lib.hid (show VTo w w3 vp dp P K d2 v2 from ⟨ht.1.less (fun k hk => by rw [HQ.out]; exact .inl hk), (KP.of HB2.out).trans (ht.2.mono (fun k _ hk => by rw [HQ.out]; exact .inl hk))⟩)
  have KL3 := Lib.hid (ht.2.blk KL2.out (by rw [HQ.out]; exact .inr ⟨Nat.le_refl _, hl2⟩))
  clear ht l0 l1 l2 l3
  obtain ⟨l0, l1, l2, l3⟩ := ncells KL3.out
  have hl3 := blk_lt KL3.out
  by_cases hk0 : k = 0
  case neg =>
    have HNE := Lib.hid (errV_ne (k := (k : Int)) (by omega))
    rw [HNE.out]
    clear hk0
    go_wp2_with fail
    go_ret2
    exact ⟨by rw [HNE.out]; rfl, HT.out⟩
  have HK0 := Lib.hid hk0
  rw [hk0, show errV ((0 : Nat) : Int) = .nilIface from rfl]
  clear hk0
  go_wp2_with fail
  rw [rounds_succ]
  go_wp2_with fail
  go_ret2
  exact ⟨by rw [HK0.out]; rfl, HT.out⟩
end Go.Proofs.YtmaalbbclldnpaaGreatDoor

/- Package ship: Behind. (Written by wip/genshipbehind.py.) -/
namespace Go.Proofs.YtmaalbbclldnpaaGreatDoor
open Go.RowKit
/-- Does a key lack? -/
def lacksP (vb : Vl) (p : Ps) : Bool := match ixFind vb.idx p.key with | none => true | some q => p.gone && !q.gone
def behindL (vb : Vl) (l : List Ps) : List Nat := (l.filter (lacksP vb)).map fun p => p.key
def u64V (n : Nat) : Value := .int .u64 n
theorem behindL_snoc (vb : Vl) (l : List Ps) (i : Nat) (x : Ps) (h : l[i]? = some x) : behindL vb (l.take (i + 1)) = behindL vb (l.take i) ++ if lacksP vb x then [x.key] else [] := by
  unfold behindL
  rw [List.take_add_one, h, List.filter_append, List.map_append]
  by_cases hl : lacksP vb x = true <;> simp [hl]
theorem keys_one {vb : Vl} (hs : IxS vb.idx) (key : Nat) : (ixFind vb.idx key = none ∧ (vb.keys key 1 = [] ∨ ∃ q, vb.keys key 1 = [q] ∧ q.key ≠ key)) ∨ ∃ q, ixFind vb.idx key = some q ∧ vb.keys key 1 = [q] ∧ q.key = key := by
  have e : vb.keys key 1 = (vb.idx.drop (ixAt vb.idx key)).take 1 := if_neg (by omega)
  rw [e, ixFind_at hs]
  cases h : vb.idx[ixAt vb.idx key]? with
  | none =>
    left
    refine ⟨rfl, .inl ?_⟩
    rw [List.drop_of_length_le (by rw [List.getElem?_eq_none_iff] at h; exact h)]
    rfl
  | some q =>
    have hq : (vb.idx.drop (ixAt vb.idx key)).take 1 = [q] := by
      have hl := (List.getElem?_eq_some_iff.1 h).1
      have hg := (List.getElem?_eq_some_iff.1 h).2
      rw [← List.getElem_cons_drop hl, hg]
      rfl
    rw [hq]
    by_cases hk : q.key = key
    · exact .inr ⟨q, by simp [hk], rfl, hk⟩
    · exact .inl ⟨by simp [hk], .inr ⟨q, rfl, hk⟩⟩
theorem u64info : (Tryz.prog.info? 23).map (fun i => (i.zero, i.size, i.bytes)) = some (some (.int .u64 0), 1, 8) := by kernel_rfl
/-- What Behind leaves. -/
def BehindTo (w : World) (l : List Nat) (e : Ending) (w' : World) : Prop :=
  ∃ vl, e = .returned (.tuple #[vl, .nilIface]) ∧ w'.ownsRow w.heap.size 23 1 vl l.length (l.map u64V) ∧ Below w.heap.size w w'
set_option maxRecDepth 100000 in
set_option maxHeartbeats 4000000 in
theorem behind_any {w : World} {vpa dpa ixa vpb dpb ixb : Nat} {vxa vxb : Value} {va vb : Vl} (ha : VolAt w vpa dpa ixa vxa va) (hb : VolAt w vpb dpb ixb vxb vb) :
    Calls Tryz.prog 24 #[(.pointer (some ⟨vpa, 0, none⟩)), (.pointer (some ⟨vpb, 0, none⟩))] w (BehindTo w (behindL vb va.idx)) := by
  obtain ⟨i0, hi, hzz0, hzz1, hzz2⟩ := info_parts u64info
  have HI := Lib.hid hi
  have HZ0 := Lib.hid hzz0
  have HZ1 := Lib.hid hzz1
  have HZ2 := Lib.hid hzz2
  have hla := ha.lt
  have hlb := hb.lt
  have HSN := Lib.hid (snap_any ha)
  have HSR := Lib.hid hb.idx.srt
  have HKY := Lib.hid (fun (w0 : World) (h0 : Below w.heap.size w w0) (key : Nat) => show Calls Tryz.prog 19 #[(.pointer (some ⟨vpb, 0, none⟩)), .int .u64 key, .int .i64 1] w0 _ from keys_any (hb.below h0) key 1)
  have hfew := ha.idx.few
  obtain ⟨LN, hLN⟩ : ∃ LN, LN = va.idx.length := ⟨_, rfl⟩
  unfold SnapTo at HSN
  rw [← hLN] at HSN hfew
  have HLN := Lib.hid hLN
  clear ha hb hi hzz0 hzz1 hzz2 hLN
  go_enter Tryz.func24, Tryz.ntmps24
  go_wp2_with fail
  refine HSN.out.mono ?_
  rintro e w2 ⟨vs, rfl, hos, hb2⟩
  obtain ⟨as', cs', rfl, -⟩ := slice_of hos
  have HB2 := Lib.hid hb2
  have HOS := Lib.hid hos
  have hz2 := hb2.size
  clear hos hb2
  have hfd : ∀ w : World, (Instr.field 130 (.agg #[.int .i64 va.num, .int .i64 va.gen, .int .i64 va.size, .slice as' LN cs']) 3).run Tryz.prog w = .ok (.slice as' LN cs') w := fun _ => by kernel_rfl
  go_wp2_with fail
  go_loopw [6, 21] (fun s i wr => ∃ (k : Nat) (vL : Value) (ls : List Nat), k ≤ LN ∧ i = .int .i64 k ∧ Below w2.heap.size w2 wr ∧ s = vL ∧ wr.ownsRow w2.heap.size 23 1 vL ls.length (ls.map u64V) ∧ ls = behindL vb (va.idx.take k)) (fun _ i _ => LN - (intOf i).toNat)
  case atStart => exact ⟨0, .slice none 0 0, [], Nat.zero_le _, rfl, Below.refl _ _, rfl, World.ownsRow_nil _ _ _ _, by simp [behindL]⟩
  case round =>
    obtain ⟨k, vL, ls, hk, rfl, hbr, rfl, hrw, hls⟩ := hrel
    obtain ⟨nL, hnL⟩ : ∃ nL, nL = ls.length := ⟨_, rfl⟩
    have hll : ls.length ≤ k := by
      rw [hls]
      unfold behindL
      rw [List.length_map]
      exact Nat.le_trans (List.length_filter_le _ _) (List.length_take_le _ _)
    rw [← hnL] at hrw hll
    obtain ⟨aL, cL, rfl, -⟩ := slice_of hrw
    have HNL := Lib.hid hnL
    have HLS := Lib.hid hls
    have HRW := Lib.hid hrw
    have HKR := Lib.hid hbr
    have HBR := Lib.hid (HB2.out.trans (hbr.mono hz2))
    have hzr := hbr.size
    clear hnL hls hrw hbr
    by_cases hlt : k < LN
    · obtain ⟨⟨pk, po, pl, pc, pg⟩, hp⟩ : ∃ p, va.idx[k]? = some p := ⟨_, List.getElem?_eq_getElem (by rw [← HLN.out]; exact hlt)⟩
      have hkr := ownsRow_below HOS.out HKR.out
      obtain ⟨g, hg⟩ : ∃ g, as' = some ⟨g, 0, none⟩ := by
        rcases hkr.2 with ⟨_, h0⟩ | ⟨g, cap, cur, e, _⟩
        · omega
        · exact ⟨g, (sl_inj e).1⟩
      subst hg
      obtain ⟨r0, r1, r2, r3, r4⟩ := row_at hkr hp
      have HP := Lib.hid hp
      have hj0 : (0 : Int) ≤ (k : Int) := by omega
      have hj1 : (k : Int) < (LN : Int) := by omega
      clear hp hkr
      go_upto_region 7 with fail
      obtain ⟨w3, hw3⟩ : ∃ w3 : World, w3 = wr.alloc (.cells #[.int .u64 pk, .int .i64 po, .int .i64 pl, .int .u32 pc, .bool pg] 64) := ⟨_, rfl⟩
      have hb3 : Below wr.heap.size wr w3 := by rw [hw3]; exact (by repeat (first | (with_reducible exact Below.refl _ _) | (with_reducible refine Below.setCell ?_ ?_ _) | (with_reducible refine Below.alloc ?_ ?_ _) | (with_reducible refine Below.drewN ?_ _) | (with_reducible refine Below.drew ?_) | (with_reducible exact Nat.le_refl _) | (focus (simp only [World.size_alloc, World.size_setCell, World.size_drew, World.size_drewN]; omega)) | omega | exact Nat.le_refl _ | (focus (simp; done)) | (focus (simp; omega))))
      have HB3 := Lib.hid (HBR.out.trans (hb3.mono HBR.out.size))
      have HK3 := Lib.hid (HKR.out.trans (hb3.mono hzr))
      have HRW3 := Lib.hid (ownsRow_below HRW.out hb3)
      have KP3 := Lib.hid (show w3.heap[wr.heap.size]? = some (.cells #[.int .u64 pk, .int .i64 po, .int .i64 pl, .int .u32 pc, .bool pg] 64 (0, 0)) by rw [hw3]; exact heap_new wr _)
      rw [← hw3]
      clear hw3 hb3 r0 r1 r2 r3 r4
      obtain ⟨t0, t1, t2, t3, t4⟩ := pcells KP3.out
      have hlp := blk_lt KP3.out
      go_wp2_with fail
      refine (HKY.out w3 HB3.out pk).mono ?_
      rintro e w4 ⟨vq, rfl, hoq, hb4⟩
      have HB4 := Lib.hid (HB3.out.trans (hb4.mono HB3.out.size))
      have HK4 := Lib.hid (HK3.out.trans (hb4.mono HK3.out.size))
      have HRW4 := Lib.hid (ownsRow_below HRW3.out hb4)
      have KP4 := Lib.hid (blk_below' KP3.out hb4)
      clear hb4 t0 t1 t2 t3 t4
      obtain ⟨t0, t1, t2, t3, t4⟩ := pcells KP4.out
      have hlp4 := blk_lt KP4.out
      go_upto_region 8 with fail
      rcases keys_one HSR.out pk with ⟨hfn, hq | ⟨q, hq, hqk⟩⟩ | ⟨q, hfq, hq, hqk⟩
      · rw [hq] at hoq
        obtain ⟨aq, cq, rfl, -⟩ := slice_of hoq
        simp only [List.length_nil]
        have HLK := Lib.hid (show lacksP vb ⟨pk, po, pl, pc, pg⟩ = true by unfold lacksP; rw [hfn])
        clear hfn hq hoq
        refine wp_region_mask0 (fun w1 => w1 = _) [7, 9, 14, 19] [0, 1, 3, 7, 15, 31, 63, 127, 15, 271, 1023, 2047, 4095, 8191, 16383, 32767, 65535, 131071, 262143, 524287, 1048575, 2097151, 4194303] (.op 0 0 (.op 1 0 (.op 2 0 (.op 3 0 (.op 4 0 (.op 5 0 (.op 6 0 (.op 7 2 (.op 8 0 (.op 9 2 (.op 10 0 (.op 11 0 (.op 12 0 (.op 13 0 (.op 14 2 (.op 15 0 (.op 16 0 (.op 17 0 (.op 18 0 (.op 19 2 (.op 20 0 (.op 21 0 (.op 22 0 .nil))))))))))))))))))))))) (by kernel_rfl) (by kernel_rfl) rfl (by kernel_rfl) (by kernel_rfl) rfl ?_
        refine stepM0 rfl rfl (fun K hK => ?_)
        go_simp
        refine hK _ ?_
        clear hK K
        refine stepM0 rfl rfl (fun K hK => ?_)
        go_simp
        refine hK _ ?_
        clear hK K
        refine stepM0 rfl rfl (fun K hK => ?_)
        go_simp
        refine hK _ ?_
        clear hK K
        refine stepM0 rfl rfl (fun K hK => ?_)
        go_simp
        refine hK _ ?_
        clear hK K
        refine stepMy0 rfl rfl (fun K hK => ?_)
        go_simp
        refine hK _ ?_
        clear hK K
        refine stepMy0 rfl rfl (fun K hK => ?_)
        go_simp
        refine hK _ ?_
        clear hK K
        refine stepMy0 rfl rfl (fun K hK => ?_)
        go_simp
        refine hK _ ?_
        clear hK K
        refine stepMy2 rfl rfl (fun K hK => ?_)
        go_simp
        refine hK _ ?_
        clear hK K
        refine stepMy0 rfl rfl (fun K hK => ?_)
        go_simp
        refine hK _ ?_
        clear hK K
        refine stepMy2 rfl rfl (fun K hK => ?_)
        go_simp
        refine hK _ ?_
        clear hK K
        refine stepMy0 rfl rfl (fun K hK => ?_)
        go_simp
        refine hK _ ?_
        clear hK K
        refine stepM0 rfl rfl (fun K hK => ?_)
        go_simp
        refine hK _ ?_
        clear hK K
        refine stepM0 rfl rfl (fun K hK => ?_)
        go_simp
        refine hK _ ?_
        clear hK K
        refine stepMy0 rfl rfl (fun K hK => ?_)
        go_simp
        refine hK _ ?_
        clear hK K
        refine stepMy2 rfl rfl (fun K hK => ?_)
        go_simp
        refine hK _ ?_
        clear hK K
        refine stepMy0 rfl rfl (fun K hK => ?_)
        go_simp
        refine hK _ ?_
        clear hK K
        refine stepMy0 rfl rfl (fun K hK => ?_)
        go_simp
        refine hK _ ?_
        clear hK K
        refine stepMy0 rfl rfl (fun K hK => ?_)
        go_simp
        refine hK _ ?_
        clear hK K
        refine stepMy0 rfl rfl (fun K hK => ?_)
        go_simp
        refine hK _ ?_
        clear hK K
        refine stepMy2 rfl rfl (fun K hK => ?_)
        go_simp
        refine hK _ ?_
        clear hK K
        refine stepMy0 rfl rfl (fun K hK => ?_)
        go_simp
        refine hK _ ?_
        clear hK K
        refine stepMy0 rfl rfl (fun K hK => ?_)
        go_simp
        refine hK _ ?_
        clear hK K
        refine stepM0 rfl rfl (fun K hK => ?_)
        go_simp
        refine hK _ ?_
        clear hK K
        try refine stepMnil0 ?_
        obtain ⟨wd, hwd⟩ : ∃ wd : World, wd = w4.drew := ⟨_, rfl⟩
        have HBD := Lib.hid (show Below w.heap.size w wd by rw [hwd]; exact Below.drew HB4.out)
        have HRD := Lib.hid (show wd.ownsRow w2.heap.size 23 1 (.slice aL nL cL) nL (ls.map u64V) by rw [hwd]; exact ownsRow_below HRW4.out (Below.drew (Below.refl _ _)))
        have HKD := Lib.hid (show Below w2.heap.size w2 wd by rw [hwd]; exact Below.drew HK4.out)
        have KPD := Lib.hid (show wd.heap[wr.heap.size]? = some (.cells #[.int .u64 pk, .int .i64 po, .int .i64 pl, .int .u32 pc, .bool pg] 64 (0, 0)) by rw [hwd]; exact KP4.out)
        rw [← hwd]
        have hzd : w2.heap.size ≤ wd.heap.size := HKD.out.size
        clear hwd t0 t1 t2 t3 t4
        obtain ⟨t0, t1, t2, t3, t4⟩ := pcells KPD.out
        have hlpd := blk_lt KPD.out
        go_wp2_with (at_builtin; refine wpList_append_lies _ rfl _ _ 73 rfl w2.heap.size 23 i0 (.int .u64 0) 1 8 Tryz.underlying73 HI.out HZ0.out HZ1.out HZ2.out rfl (by decide) (.slice aL nL cL) nL (ls.map u64V) rfl (ownsRow_below HRD.out (by repeat (first | (with_reducible exact Below.refl _ _) | (with_reducible refine Below.setCell ?_ ?_ _) | (with_reducible refine Below.alloc ?_ ?_ _) | (with_reducible refine Below.drewN ?_ _) | (with_reducible refine Below.drew ?_) | (with_reducible exact Nat.le_refl _) | (focus (simp only [World.size_alloc, World.size_setCell, World.size_drew, World.size_drewN]; omega)) | omega | exact Nat.le_refl _ | (focus (simp; done)) | (focus (simp; omega))))) ⟨wd.heap.size, 0, none⟩ 1 1 [.int .u64 pk] rfl rfl (World.news_of_block (cs := #[.int .u64 pk]) (t := 23) (fr := (0, 0)) (heap_new wd _)) (by simp [Value.oneCell']) (by omega) (by unfold maxLen; omega) (by omega) (by simp; omega) _ rfl ?_; intro g' cap' w6 hown hgrow hat hlt6; have HG6 := Lib.hid hgrow; have HO6 := Lib.hid hown; have hz6 := hgrow.size; simp only [World.size_alloc] at hz6; clear hgrow hown hat)
        go_roundw
        case rel =>
          refine ⟨k + 1, .slice (some ⟨g', 0, none⟩) (nL + 1) cap', ls ++ [pk], by omega, by go_num, ?_, rfl, ?_, ?_⟩
          · exact Below.grown (HKD.out.alloc (by omega) _) HG6.out (by simp; omega) (fun g e => (HRD.out.lt g e).1)
          · refine ownsRow_cast HO6.out (by simp [HNL.out]) ?_
            rw [List.map_append]
            rfl
          · rw [behindL_snoc vb va.idx k _ HP.out, ← HLS.out, HLK.out]
            rfl
        case measure => simp [intOf]; omega
      · rw [hq] at hoq
        have HLK := Lib.hid (show lacksP vb ⟨pk, po, pl, pc, pg⟩ = true by unfold lacksP; rw [hfn])
        obtain ⟨aq, cq, rfl, -⟩ := slice_of hoq
        obtain ⟨gq, hgq⟩ : ∃ gq, aq = some ⟨gq, 0, none⟩ := by
          rcases hoq.2 with ⟨_, h0⟩ | ⟨gq, cap, cur, e, _⟩
          · simp at h0
          · exact ⟨gq, (sl_inj e).1⟩
        subst hgq
        obtain ⟨qk, qo, ql, qc, qg⟩ := q
        have hrq := row_at hoq (i := 0) rfl
        simp only [Nat.zero_mul, Nat.zero_add, List.length_cons, List.length_nil] at hrq
        obtain ⟨y0, y1, y2, y3, y4⟩ := hrq
        simp only [List.length_cons, List.length_nil, Nat.zero_add]
        have hlq := (hoq.lt gq rfl).2
        clear hoq
        have hne : ((qk : Int) != (pk : Int)) = true := by simp only at hqk; simp; omega
        clear hfn hq hqk
        refine wp_region_mask0 (fun w1 => w1 = _) [7, 9, 14, 19] [0, 1, 3, 7, 15, 31, 63, 127, 15, 271, 1023, 2047, 4095, 8191, 16383, 32767, 65535, 131071, 262143, 524287, 1048575, 2097151, 4194303] (.op 0 0 (.op 1 0 (.op 2 0 (.op 3 0 (.op 4 0 (.op 5 0 (.op 6 0 (.op 7 2 (.op 8 0 (.op 9 2 (.op 10 0 (.op 11 0 (.op 12 0 (.op 13 0 (.op 14 2 (.op 15 0 (.op 16 0 (.op 17 0 (.op 18 0 (.op 19 2 (.op 20 0 (.op 21 0 (.op 22 0 .nil))))))))))))))))))))))) (by kernel_rfl) (by kernel_rfl) rfl (by kernel_rfl) (by kernel_rfl) rfl ?_
        refine stepM0 rfl rfl (fun K hK => ?_)
        go_simp
        refine hK _ ?_
        clear hK K
        refine stepM0 rfl rfl (fun K hK => ?_)
        go_simp
        refine hK _ ?_
        clear hK K
        refine stepM0 rfl rfl (fun K hK => ?_)
        go_simp
        refine hK _ ?_
        clear hK K
        refine stepM0 rfl rfl (fun K hK => ?_)
        go_simp
        refine hK _ ?_
        clear hK K
        refine stepM0 rfl rfl (fun K hK => ?_)
        go_simp
        refine hK _ ?_
        clear hK K
        refine stepM0 rfl rfl (fun K hK => ?_)
        go_simp
        refine hK _ ?_
        clear hK K
        refine stepM0 rfl rfl (fun K hK => ?_)
        go_simp
        refine hK _ ?_
        clear hK K
        refine stepM2 rfl rfl ?_ (fun w1 hS => ?_) (fun K hK => ?_)
        rotate_left
        focus (obtain rfl : w1 = _ := hS; go_simp; rfl)
        go_simp
        refine hK _ ?_
        clear hK K
        refine stepM0 rfl rfl (fun K hK => ?_)
        go_simp
        refine hK _ ?_
        clear hK K
        refine stepM2 rfl rfl ?_ (fun w1 hS => ?_) (fun K hK => ?_)
        rotate_left
        focus (obtain rfl : w1 = _ := hS; go_simp; rfl)
        go_simp
        refine hK _ ?_
        clear hK K
        refine stepM0 rfl rfl (fun K hK => ?_)
        go_simp
        refine hK _ ?_
        clear hK K
        refine stepM0 rfl rfl (fun K hK => ?_)
        go_simp
        refine hK _ ?_
        clear hK K
        refine stepM0 rfl rfl (fun K hK => ?_)
        go_simp
        refine hK _ ?_
        clear hK K
        refine stepMy0 rfl rfl (fun K hK => ?_)
        go_simp
        refine hK _ ?_
        clear hK K
        refine stepMy2 rfl rfl (fun K hK => ?_)
        go_simp
        refine hK _ ?_
        clear hK K
        refine stepMy0 rfl rfl (fun K hK => ?_)
        go_simp
        refine hK _ ?_
        clear hK K
        refine stepMy0 rfl rfl (fun K hK => ?_)
        go_simp
        refine hK _ ?_
        clear hK K
        refine stepMy0 rfl rfl (fun K hK => ?_)
        go_simp
        refine hK _ ?_
        clear hK K
        refine stepMy0 rfl rfl (fun K hK => ?_)
        go_simp
        refine hK _ ?_
        clear hK K
        refine stepMy2 rfl rfl (fun K hK => ?_)
        go_simp
        refine hK _ ?_
        clear hK K
        refine stepMy0 rfl rfl (fun K hK => ?_)
        go_simp
        refine hK _ ?_
        clear hK K
        refine stepMy0 rfl rfl (fun K hK => ?_)
        go_simp
        refine hK _ ?_
        clear hK K
        refine stepM0 rfl rfl (fun K hK => ?_)
        go_simp
        refine hK _ ?_
        clear hK K
        try refine stepMnil0 ?_
        obtain ⟨wd, hwd⟩ : ∃ wd : World, wd = w4.drew := ⟨_, rfl⟩
        have HBD := Lib.hid (show Below w.heap.size w wd by rw [hwd]; exact Below.drew HB4.out)
        have HRD := Lib.hid (show wd.ownsRow w2.heap.size 23 1 (.slice aL nL cL) nL (ls.map u64V) by rw [hwd]; exact ownsRow_below HRW4.out (Below.drew (Below.refl _ _)))
        have HKD := Lib.hid (show Below w2.heap.size w2 wd by rw [hwd]; exact Below.drew HK4.out)
        have KPD := Lib.hid (show wd.heap[wr.heap.size]? = some (.cells #[.int .u64 pk, .int .i64 po, .int .i64 pl, .int .u32 pc, .bool pg] 64 (0, 0)) by rw [hwd]; exact KP4.out)
        rw [← hwd]
        have hzd : w2.heap.size ≤ wd.heap.size := HKD.out.size
        clear hwd t0 t1 t2 t3 t4
        obtain ⟨t0, t1, t2, t3, t4⟩ := pcells KPD.out
        have hlpd := blk_lt KPD.out
        go_wp2_with (at_builtin; refine wpList_append_lies _ rfl _ _ 73 rfl w2.heap.size 23 i0 (.int .u64 0) 1 8 Tryz.underlying73 HI.out HZ0.out HZ1.out HZ2.out rfl (by decide) (.slice aL nL cL) nL (ls.map u64V) rfl (ownsRow_below HRD.out (by repeat (first | (with_reducible exact Below.refl _ _) | (with_reducible refine Below.setCell ?_ ?_ _) | (with_reducible refine Below.alloc ?_ ?_ _) | (with_reducible refine Below.drewN ?_ _) | (with_reducible refine Below.drew ?_) | (with_reducible exact Nat.le_refl _) | (focus (simp only [World.size_alloc, World.size_setCell, World.size_drew, World.size_drewN]; omega)) | omega | exact Nat.le_refl _ | (focus (simp; done)) | (focus (simp; omega))))) ⟨wd.heap.size, 0, none⟩ 1 1 [.int .u64 pk] rfl rfl (World.news_of_block (cs := #[.int .u64 pk]) (t := 23) (fr := (0, 0)) (heap_new wd _)) (by simp [Value.oneCell']) (by omega) (by unfold maxLen; omega) (by omega) (by simp; omega) _ rfl ?_; intro g' cap' w6 hown hgrow hat hlt6; have HG6 := Lib.hid hgrow; have HO6 := Lib.hid hown; have hz6 := hgrow.size; simp only [World.size_alloc] at hz6; clear hgrow hown hat)
        go_roundw
        case rel =>
          refine ⟨k + 1, .slice (some ⟨g', 0, none⟩) (nL + 1) cap', ls ++ [pk], by omega, by go_num, ?_, rfl, ?_, ?_⟩
          · exact Below.grown (HKD.out.alloc (by omega) _) HG6.out (by simp; omega) (fun g e => (HRD.out.lt g e).1)
          · refine ownsRow_cast HO6.out (by simp [HNL.out]) ?_
            rw [List.map_append]
            rfl
          · rw [behindL_snoc vb va.idx k _ HP.out, ← HLS.out, HLK.out]
            rfl
        case measure => simp [intOf]; omega
      · rw [hq] at hoq
        have HLKE := Lib.hid (show lacksP vb ⟨pk, po, pl, pc, pg⟩ = (pg && !q.gone) by unfold lacksP; rw [hfq])
        obtain ⟨aq, cq, rfl, -⟩ := slice_of hoq
        obtain ⟨gq, hgq⟩ : ∃ gq, aq = some ⟨gq, 0, none⟩ := by
          rcases hoq.2 with ⟨_, h0⟩ | ⟨gq, cap, cur, e, _⟩
          · simp at h0
          · exact ⟨gq, (sl_inj e).1⟩
        subst hgq
        obtain ⟨qk, qo, ql, qc, qg⟩ := q
        have hrq := row_at hoq (i := 0) rfl
        simp only [Nat.zero_mul, Nat.zero_add, List.length_cons, List.length_nil] at hrq
        obtain ⟨y0, y1, y2, y3, y4⟩ := hrq
        simp only [List.length_cons, List.length_nil, Nat.zero_add]
        have hlq := (hoq.lt gq rfl).2
        clear hoq
        have hne : ((qk : Int) != (pk : Int)) = false := by simp only at hqk; simp; omega
        simp only at HLKE
        clear hfq hq hqk
        cases pg
        case false =>
          have HLK := Lib.hid (show lacksP vb ⟨pk, po, pl, pc, false⟩ = false by rw [HLKE.out]; rfl)
          refine wp_region_mask0 (fun w1 => w1 = _) [7, 9, 14, 19] [0, 1, 3, 7, 15, 31, 63, 127, 15, 271, 1023, 2047, 4095, 8191, 16383, 32767, 65535, 131071, 262143, 524287, 1048575, 2097151, 4194303] (.op 0 0 (.op 1 0 (.op 2 0 (.op 3 0 (.op 4 0 (.op 5 0 (.op 6 0 (.op 7 2 (.op 8 0 (.op 9 2 (.op 10 0 (.op 11 0 (.op 12 0 (.op 13 0 (.op 14 2 (.op 15 0 (.op 16 0 (.op 17 0 (.op 18 0 (.op 19 2 (.op 20 0 (.op 21 0 (.op 22 0 .nil))))))))))))))))))))))) (by kernel_rfl) (by kernel_rfl) rfl (by kernel_rfl) (by kernel_rfl) rfl ?_
          refine stepM0 rfl rfl (fun K hK => ?_)
          go_simp
          refine hK _ ?_
          clear hK K
          refine stepM0 rfl rfl (fun K hK => ?_)
          go_simp
          refine hK _ ?_
          clear hK K
          refine stepM0 rfl rfl (fun K hK => ?_)
          go_simp
          refine hK _ ?_
          clear hK K
          refine stepM0 rfl rfl (fun K hK => ?_)
          go_simp
          refine hK _ ?_
          clear hK K
          refine stepM0 rfl rfl (fun K hK => ?_)
          go_simp
          refine hK _ ?_
          clear hK K
          refine stepM0 rfl rfl (fun K hK => ?_)
          go_simp
          refine hK _ ?_
          clear hK K
          refine stepM0 rfl rfl (fun K hK => ?_)
          go_simp
          refine hK _ ?_
          clear hK K
          refine stepM2 rfl rfl ?_ (fun w1 hS => ?_) (fun K hK => ?_)
          rotate_left
          focus (obtain rfl : w1 = _ := hS; go_simp; rfl)
          go_simp
          refine hK _ ?_
          clear hK K
          refine stepM0 rfl rfl (fun K hK => ?_)
          go_simp
          refine hK _ ?_
          clear hK K
          refine stepM2 rfl rfl ?_ (fun w1 hS => ?_) (fun K hK => ?_)
          rotate_left
          focus (obtain rfl : w1 = _ := hS; go_simp; rfl)
          go_simp
          refine hK _ ?_
          clear hK K
          refine stepM0 rfl rfl (fun K hK => ?_)
          go_simp
          refine hK _ ?_
          clear hK K
          refine stepM0 rfl rfl (fun K hK => ?_)
          go_simp
          refine hK _ ?_
          clear hK K
          refine stepM0 rfl rfl (fun K hK => ?_)
          go_simp
          refine hK _ ?_
          clear hK K
          refine stepM0 rfl rfl (fun K hK => ?_)
          go_simp
          refine hK _ ?_
          clear hK K
          refine stepM2 rfl rfl ?_ (fun w1 hS => ?_) (fun K hK => ?_)
          rotate_left
          focus (obtain rfl : w1 = _ := hS; go_simp; rfl)
          go_simp
          refine hK _ ?_
          clear hK K
          refine stepM0 rfl rfl (fun K hK => ?_)
          go_simp
          refine hK _ ?_
          clear hK K
          refine stepMy0 rfl rfl (fun K hK => ?_)
          go_simp
          refine hK _ ?_
          clear hK K
          refine stepMy0 rfl rfl (fun K hK => ?_)
          go_simp
          refine hK _ ?_
          clear hK K
          refine stepMy0 rfl rfl (fun K hK => ?_)
          go_simp
          refine hK _ ?_
          clear hK K
          refine stepMy2 rfl rfl (fun K hK => ?_)
          go_simp
          refine hK _ ?_
          clear hK K
          refine stepMy0 rfl rfl (fun K hK => ?_)
          go_simp
          refine hK _ ?_
          clear hK K
          refine stepM0 rfl rfl (fun K hK => ?_)
          go_simp
          refine hK _ ?_
          clear hK K
          refine stepM0 rfl rfl (fun K hK => ?_)
          go_simp
          refine hK _ ?_
          clear hK K
          try refine stepMnil0 ?_
          go_wp2_with fail
          go_roundw
          case rel =>
            exact ⟨k + 1, .slice aL nL cL, ls, by omega, by go_num, Below.drew HK4.out, rfl, (by rw [← HNL.out]; exact ownsRow_below HRW4.out (Below.drew (Below.refl _ _))), by rw [behindL_snoc vb va.idx k _ HP.out, ← HLS.out, HLK.out]; simp⟩
          case measure => simp [intOf]; omega
        cases qg
        case true =>
          have HLK := Lib.hid (show lacksP vb ⟨pk, po, pl, pc, true⟩ = false by rw [HLKE.out]; rfl)
          refine wp_region_mask0 (fun w1 => w1 = _) [7, 9, 14, 19] [0, 1, 3, 7, 15, 31, 63, 127, 15, 271, 1023, 2047, 4095, 8191, 16383, 32767, 65535, 131071, 262143, 524287, 1048575, 2097151, 4194303] (.op 0 0 (.op 1 0 (.op 2 0 (.op 3 0 (.op 4 0 (.op 5 0 (.op 6 0 (.op 7 2 (.op 8 0 (.op 9 2 (.op 10 0 (.op 11 0 (.op 12 0 (.op 13 0 (.op 14 2 (.op 15 0 (.op 16 0 (.op 17 0 (.op 18 0 (.op 19 2 (.op 20 0 (.op 21 0 (.op 22 0 .nil))))))))))))))))))))))) (by kernel_rfl) (by kernel_rfl) rfl (by kernel_rfl) (by kernel_rfl) rfl ?_
          refine stepM0 rfl rfl (fun K hK => ?_)
          go_simp
          refine hK _ ?_
          clear hK K
          refine stepM0 rfl rfl (fun K hK => ?_)
          go_simp
          refine hK _ ?_
          clear hK K
          refine stepM0 rfl rfl (fun K hK => ?_)
          go_simp
          refine hK _ ?_
          clear hK K
          refine stepM0 rfl rfl (fun K hK => ?_)
          go_simp
          refine hK _ ?_
          clear hK K
          refine stepM0 rfl rfl (fun K hK => ?_)
          go_simp
          refine hK _ ?_
          clear hK K
          refine stepM0 rfl rfl (fun K hK => ?_)
          go_simp
          refine hK _ ?_
          clear hK K
          refine stepM0 rfl rfl (fun K hK => ?_)
          go_simp
          refine hK _ ?_
          clear hK K
          refine stepM2 rfl rfl ?_ (fun w1 hS => ?_) (fun K hK => ?_)
          rotate_left
          focus (obtain rfl : w1 = _ := hS; go_simp; rfl)
          go_simp
          refine hK _ ?_
          clear hK K
          refine stepM0 rfl rfl (fun K hK => ?_)
          go_simp
          refine hK _ ?_
          clear hK K
          refine stepM2 rfl rfl ?_ (fun w1 hS => ?_) (fun K hK => ?_)
          rotate_left
          focus (obtain rfl : w1 = _ := hS; go_simp; rfl)
          go_simp
          refine hK _ ?_
          clear hK K
          refine stepM0 rfl rfl (fun K hK => ?_)
          go_simp
          refine hK _ ?_
          clear hK K
          refine stepM0 rfl rfl (fun K hK => ?_)
          go_simp
          refine hK _ ?_
          clear hK K
          refine stepM0 rfl rfl (fun K hK => ?_)
          go_simp
          refine hK _ ?_
          clear hK K
          refine stepM0 rfl rfl (fun K hK => ?_)
          go_simp
          refine hK _ ?_
          clear hK K
          refine stepM2 rfl rfl ?_ (fun w1 hS => ?_) (fun K hK => ?_)
          rotate_left
          focus (obtain rfl : w1 = _ := hS; go_simp; rfl)
          go_simp
          refine hK _ ?_
          clear hK K
          refine stepM0 rfl rfl (fun K hK => ?_)
          go_simp
          refine hK _ ?_
          clear hK K
          refine stepM0 rfl rfl (fun K hK => ?_)
          go_simp
          refine hK _ ?_
          clear hK K
          refine stepM0 rfl rfl (fun K hK => ?_)
          go_simp
          refine hK _ ?_
          clear hK K
          refine stepM0 rfl rfl (fun K hK => ?_)
          go_simp
          refine hK _ ?_
          clear hK K
          refine stepM2 rfl rfl ?_ (fun w1 hS => ?_) (fun K hK => ?_)
          rotate_left
          focus (obtain rfl : w1 = _ := hS; go_simp; rfl)
          go_simp
          refine hK _ ?_
          clear hK K
          refine stepM0 rfl rfl (fun K hK => ?_)
          go_simp
          refine hK _ ?_
          clear hK K
          refine stepM0 rfl rfl (fun K hK => ?_)
          go_simp
          refine hK _ ?_
          clear hK K
          refine stepM0 rfl rfl (fun K hK => ?_)
          go_simp
          refine hK _ ?_
          clear hK K
          try refine stepMnil0 ?_
          go_wp2_with fail
          go_roundw
          case rel =>
            exact ⟨k + 1, .slice aL nL cL, ls, by omega, by go_num, Below.drew HK4.out, rfl, (by rw [← HNL.out]; exact ownsRow_below HRW4.out (Below.drew (Below.refl _ _))), by rw [behindL_snoc vb va.idx k _ HP.out, ← HLS.out, HLK.out]; simp⟩
          case measure => simp [intOf]; omega
        have HLK := Lib.hid (show lacksP vb ⟨pk, po, pl, pc, true⟩ = true by rw [HLKE.out]; rfl)
        refine wp_region_mask0 (fun w1 => w1 = _) [7, 9, 14, 19] [0, 1, 3, 7, 15, 31, 63, 127, 15, 271, 1023, 2047, 4095, 8191, 16383, 32767, 65535, 131071, 262143, 524287, 1048575, 2097151, 4194303] (.op 0 0 (.op 1 0 (.op 2 0 (.op 3 0 (.op 4 0 (.op 5 0 (.op 6 0 (.op 7 2 (.op 8 0 (.op 9 2 (.op 10 0 (.op 11 0 (.op 12 0 (.op 13 0 (.op 14 2 (.op 15 0 (.op 16 0 (.op 17 0 (.op 18 0 (.op 19 2 (.op 20 0 (.op 21 0 (.op 22 0 .nil))))))))))))))))))))))) (by kernel_rfl) (by kernel_rfl) rfl (by kernel_rfl) (by kernel_rfl) rfl ?_
        refine stepM0 rfl rfl (fun K hK => ?_)
        go_simp
        refine hK _ ?_
        clear hK K
        refine stepM0 rfl rfl (fun K hK => ?_)
        go_simp
        refine hK _ ?_
        clear hK K
        refine stepM0 rfl rfl (fun K hK => ?_)
        go_simp
        refine hK _ ?_
        clear hK K
        refine stepM0 rfl rfl (fun K hK => ?_)
        go_simp
        refine hK _ ?_
        clear hK K
        refine stepM0 rfl rfl (fun K hK => ?_)
        go_simp
        refine hK _ ?_
        clear hK K
        refine stepM0 rfl rfl (fun K hK => ?_)
        go_simp
        refine hK _ ?_
        clear hK K
        refine stepM0 rfl rfl (fun K hK => ?_)
        go_simp
        refine hK _ ?_
        clear hK K
        refine stepM2 rfl rfl ?_ (fun w1 hS => ?_) (fun K hK => ?_)
        rotate_left
        focus (obtain rfl : w1 = _ := hS; go_simp; rfl)
        go_simp
        refine hK _ ?_
        clear hK K
        refine stepM0 rfl rfl (fun K hK => ?_)
        go_simp
        refine hK _ ?_
        clear hK K
        refine stepM2 rfl rfl ?_ (fun w1 hS => ?_) (fun K hK => ?_)
        rotate_left
        focus (obtain rfl : w1 = _ := hS; go_simp; rfl)
        go_simp
        refine hK _ ?_
        clear hK K
        refine stepM0 rfl rfl (fun K hK => ?_)
        go_simp
        refine hK _ ?_
        clear hK K
        refine stepM0 rfl rfl (fun K hK => ?_)
        go_simp
        refine hK _ ?_
        clear hK K
        refine stepM0 rfl rfl (fun K hK => ?_)
        go_simp
        refine hK _ ?_
        clear hK K
        refine stepM0 rfl rfl (fun K hK => ?_)
        go_simp
        refine hK _ ?_
        clear hK K
        refine stepM2 rfl rfl ?_ (fun w1 hS => ?_) (fun K hK => ?_)
        rotate_left
        focus (obtain rfl : w1 = _ := hS; go_simp; rfl)
        go_simp
        refine hK _ ?_
        clear hK K
        refine stepM0 rfl rfl (fun K hK => ?_)
        go_simp
        refine hK _ ?_
        clear hK K
        refine stepM0 rfl rfl (fun K hK => ?_)
        go_simp
        refine hK _ ?_
        clear hK K
        refine stepM0 rfl rfl (fun K hK => ?_)
        go_simp
        refine hK _ ?_
        clear hK K
        refine stepM0 rfl rfl (fun K hK => ?_)
        go_simp
        refine hK _ ?_
        clear hK K
        refine stepM2 rfl rfl ?_ (fun w1 hS => ?_) (fun K hK => ?_)
        rotate_left
        focus (obtain rfl : w1 = _ := hS; go_simp; rfl)
        go_simp
        refine hK _ ?_
        clear hK K
        refine stepM0 rfl rfl (fun K hK => ?_)
        go_simp
        refine hK _ ?_
        clear hK K
        refine stepM0 rfl rfl (fun K hK => ?_)
        go_simp
        refine hK _ ?_
        clear hK K
        refine stepM0 rfl rfl (fun K hK => ?_)
        go_simp
        refine hK _ ?_
        clear hK K
        try refine stepMnil0 ?_
        obtain ⟨wd, hwd⟩ : ∃ wd : World, wd = w4.drew := ⟨_, rfl⟩
        have HBD := Lib.hid (show Below w.heap.size w wd by rw [hwd]; exact Below.drew HB4.out)
        have HRD := Lib.hid (show wd.ownsRow w2.heap.size 23 1 (.slice aL nL cL) nL (ls.map u64V) by rw [hwd]; exact ownsRow_below HRW4.out (Below.drew (Below.refl _ _)))
        have HKD := Lib.hid (show Below w2.heap.size w2 wd by rw [hwd]; exact Below.drew HK4.out)
        have KPD := Lib.hid (show wd.heap[wr.heap.size]? = some (.cells #[.int .u64 pk, .int .i64 po, .int .i64 pl, .int .u32 pc, .bool true] 64 (0, 0)) by rw [hwd]; exact KP4.out)
        rw [← hwd]
        have hzd : w2.heap.size ≤ wd.heap.size := HKD.out.size
        clear hwd t0 t1 t2 t3 t4
        obtain ⟨t0, t1, t2, t3, t4⟩ := pcells KPD.out
        have hlpd := blk_lt KPD.out
        go_wp2_with (at_builtin; refine wpList_append_lies _ rfl _ _ 73 rfl w2.heap.size 23 i0 (.int .u64 0) 1 8 Tryz.underlying73 HI.out HZ0.out HZ1.out HZ2.out rfl (by decide) (.slice aL nL cL) nL (ls.map u64V) rfl (ownsRow_below HRD.out (by repeat (first | (with_reducible exact Below.refl _ _) | (with_reducible refine Below.setCell ?_ ?_ _) | (with_reducible refine Below.alloc ?_ ?_ _) | (with_reducible refine Below.drewN ?_ _) | (with_reducible refine Below.drew ?_) | (with_reducible exact Nat.le_refl _) | (focus (simp only [World.size_alloc, World.size_setCell, World.size_drew, World.size_drewN]; omega)) | omega | exact Nat.le_refl _ | (focus (simp; done)) | (focus (simp; omega))))) ⟨wd.heap.size, 0, none⟩ 1 1 [.int .u64 pk] rfl rfl (World.news_of_block (cs := #[.int .u64 pk]) (t := 23) (fr := (0, 0)) (heap_new wd _)) (by simp [Value.oneCell']) (by omega) (by unfold maxLen; omega) (by omega) (by simp; omega) _ rfl ?_; intro g' cap' w6 hown hgrow hat hlt6; have HG6 := Lib.hid hgrow; have HO6 := Lib.hid hown; have hz6 := hgrow.size; simp only [World.size_alloc] at hz6; clear hgrow hown hat)
        go_roundw
        case rel =>
          refine ⟨k + 1, .slice (some ⟨g', 0, none⟩) (nL + 1) cap', ls ++ [pk], by omega, by go_num, ?_, rfl, ?_, ?_⟩
          · exact Below.grown (HKD.out.alloc (by omega) _) HG6.out (by simp; omega) (fun g e => (HRD.out.lt g e).1)
          · refine ownsRow_cast HO6.out (by simp [HNL.out]) ?_
            rw [List.map_append]
            rfl
          · rw [behindL_snoc vb va.idx k _ HP.out, ← HLS.out, HLK.out]
            rfl
        case measure => simp [intOf]; omega
    · have hj1 : ¬ (k : Int) < (LN : Int) := by omega
      have hj2 : decide ((k : Int) < (LN : Int)) = false := by simp; omega
      have hj3 : decide (k < LN) = false := by simp; omega
      go_wp2_with fail
      go_ret2
      refine ⟨.slice aL nL cL, rfl, ?_, HBR.out⟩
      have h8 : va.idx.take k = va.idx := List.take_of_length_le (by rw [← HLN.out]; omega)
      have h9 := HLS.out
      rw [h8] at h9
      rw [← h9, ← HNL.out]
      exact ownsRow_mono HRW.out hz2
end Go.Proofs.YtmaalbbclldnpaaGreatDoor

/- Law ShipBoth, plain: needles of one blob a key, laid in whatever order and parts. No program in sight but the plain words of a laying. -/
namespace Go.Proofs.YtmaalbbclldnpaaGreatDoor
/-- The law's needle of a key. -/
def canN (key : Nat) (g : Bool) : Nd := ⟨key, key % 3, g, if g = true then [] else [UInt8.ofNat key]⟩
def Can (n : Nd) : Prop := n = canN n.key n.gone
theorem canN_can (key : Nat) (g : Bool) : Can (canN key g) := rfl
theorem can_len (key : Nat) (g : Bool) : (canN key g).data.length ≤ 1 := by cases g <;> simp [canN]
theorem can_size (key : Nat) (g : Bool) : ndSize (canN key g).data.length ≤ 40 := by
  have := can_len key g
  unfold ndSize padN
  omega
theorem can_check (key : Nat) (g : Bool) : ndCheck (canN key g) = 0 := by cases g <;> simp [ndCheck, canN]
def gOf (v : Vl) (k : Nat) : Option Bool := (ixFind v.idx k).map fun p => p.gone
def joinG : Option Bool → Bool → Bool
  | none, g => g
  | some o, g => o || g
/-- A volume of the law's needles. -/
structure CanV (d : Dk) (v : Vl) (num m : Nat) : Prop where
  vi : ∃ ns, VI d v ns ∧ (∀ n ∈ ns, Can n) ∧ ns.length ≤ m
  num : v.num = num
  most : v.most = 1048576
  size : v.size ≤ 16 + 40 * m
theorem CanV.more {d : Dk} {v : Vl} {num m m' : Nat} (h : CanV d v num m) (hm : m ≤ m') : CanV d v num m' := by
  obtain ⟨⟨ns, h1, h2, h3⟩, h4, h5, h6⟩ := h
  exact ⟨⟨ns, h1, h2, by omega⟩, h4, h5, by omega⟩
theorem CanV.pos {d : Dk} {v : Vl} {num m : Nat} (h : CanV d v num m) (hm : m ≤ 1000) : ∀ p ∈ v.idx, p.len ≤ 4096 ∧ p.off ≤ 1000000000 := by
  obtain ⟨ns, h1, h2, h3⟩ := h.vi
  intro p hp
  have h1' := ixFind_mem h1.srt hp
  rw [h1.idx] at h1'
  cases hx : newest ns 16 p.key with
  | none => rw [hx] at h1'; cases h1'
  | some x =>
    obtain ⟨o, n⟩ := x
    rw [hx] at h1'
    simp only [Option.map_some, Option.some.injEq] at h1'
    obtain ⟨hmem, _, a, b, hab, ho⟩ := newest_some hx
    have hs := h1.size
    have hsz := h.size
    have hl := (h1.ok n hmem).2.2.1
    rw [hab, ndsB_append, List.length_append] at hs
    rw [← h1']
    exact ⟨hl, by show o ≤ _; omega⟩
/-- One needle laid. -/
theorem CanV.lay {d : Dk} {v : Vl} {num m : Nat} (h : CanV d v num m) (hm : m ≤ 1000) (key : Nat) (g : Bool) (hk : key < 18446744073709551616) :
    ∃ d' v', v.lay d (canN key g) = (0, d', v') ∧ CanV d' v' num (m + 1) ∧ (v.get d (canN key g).key (canN key g).cookie).2.1 = false ∧ ∀ k, gOf v' k = if k = key then some (joinG (gOf v k) g) else gOf v k := by
  obtain ⟨ns, h1, h2, h3⟩ := h.vi
  have hsz := h.size
  have hcs := can_size key g
  have hcl := can_len key g
  have hix := h1.idx key
  have hgt : (v.get d (canN key g).key (canN key g).cookie).2.1 = false := by
    have := h1.gets (canN key g).key (canN key g).cookie
    by_cases h0 : (Rv.of v ns).look (canN key g).key (canN key g).cookie = 0
    · obtain ⟨_, _, _, _, e⟩ := this.2 h0
      rw [e]
    · have h9 := h1.look (canN key g).key (canN key g).cookie
      unfold Vl.get
      rw [if_pos (by rw [h9]; exact h0)]
  -- a needle written
  have hwrite : ∃ d' v', v.write d (canN key g) = (0, d', v') ∧ CanV d' v' num (m + 1) ∧ ∀ k, gOf v' k = if k = key then some g else gOf v k := by
    have hroom : v.room key (ndSize (canN key g).data.length) = true := by
      unfold Vl.room
      have := h1.len
      simp only [Bool.and_eq_true, Bool.or_eq_true, decide_eq_true_eq]
      rw [h.most]
      exact ⟨by omega, .inr (by omega)⟩
    obtain ⟨d', v', e1, e2, e3⟩ := h1.write (n := canN key g) hk (by show key % 3 < _; omega) (can_check key g) hroom (by omega)
    refine ⟨d', v', e1, ⟨⟨ns ++ [canN key g], e2, fun n hn => ?_, by simp; omega⟩, by rw [e3]; exact h.num, by rw [e3]; exact h.most, by rw [e3]; show v.size + _ ≤ _; omega⟩, fun k => ?_⟩
    · rcases List.mem_append.1 hn with hn | hn
      · exact h2 n hn
      · obtain rfl : n = canN key g := by simpa using hn
        rfl
    · unfold gOf
      rw [e3]
      show (ixFind (ixPut v.idx (posOf v.size (canN key g))) k).map _ = _
      rw [ixFind_put _ _ _ h1.srt]
      have ek : (posOf v.size (canN key g)).key = key := rfl
      rw [ek]
      by_cases e : key = k
      · rw [if_pos e, if_pos e.symm]; rfl
      · rw [if_neg e, if_neg (fun e2 => e e2.symm)]
  unfold Vl.lay
  rw [if_neg (by rw [can_check]; simp)]
  have ekey : (canN key g).key = key := rfl
  rw [ekey]
  cases hx : newest ns 16 key with
  | none =>
    rw [hx] at hix
    rw [hix]
    obtain ⟨d', v', e1, e2, e3⟩ := hwrite
    refine ⟨d', v', e1, e2, hgt, fun k => ?_⟩
    rw [e3]
    by_cases e : k = key
    · subst e
      rw [if_pos rfl, if_pos rfl]
      unfold gOf
      rw [hix]
      rfl
    · rw [if_neg e, if_neg e]
  | some x =>
    obtain ⟨o, n⟩ := x
    obtain ⟨hmem, hnk, _⟩ := newest_some hx
    have hcan := h2 n hmem
    rw [hx] at hix
    simp only [Option.map_some] at hix
    rw [hix]
    have hgk : gOf v key = some n.gone := by unfold gOf; rw [hix]; rfl
    have hck : (posOf o n).cookie = (canN key g).cookie := by
      show n.cookie = key % 3
      rw [hcan]
      show n.key % 3 = _
      rw [hnk]
    have hsame : CanV d v num (m + 1) := h.more (by omega)
    simp only
    rw [if_neg (by rw [hck]; simp)]
    have hpg : (posOf o n).gone = n.gone := rfl
    rw [hpg]
    cases hng : n.gone with
    | true =>
      rw [if_pos rfl]
      refine ⟨d, v, rfl, hsame, hgt, fun k => ?_⟩
      by_cases e : k = key
      · subst e
        rw [if_pos rfl, hgk, hng]
        cases g <;> rfl
      · rw [if_neg e]
    | false =>
      rw [if_neg (by simp)]
      have hcg : (canN key g).gone = g := rfl
      rw [hcg]
      cases g with
      | true =>
        rw [if_pos rfl]
        obtain ⟨d', v', e1, e2, e3⟩ := hwrite
        refine ⟨d', v', e1, e2, hgt, fun k => ?_⟩
        rw [e3]
        by_cases e : k = key
        · subst e
          rw [if_pos rfl, if_pos rfl, hgk]
          cases n.gone <;> rfl
        · rw [if_neg e, if_neg e]
      | false =>
        rw [if_neg (by simp)]
        have hgot := h1.got hx hng
        have hnc : n.cookie = (canN key false).cookie := hck
        rw [hnc] at hgot
        have hgot' : v.get d key (canN key false).cookie = (0, false, n) := hgot
        rw [hgot', if_neg (by simp)]
        have hnn : n = canN key false := by
          rw [hcan, hng, hnk]
        rw [if_pos hnn]
        refine ⟨d, v, rfl, hsame, rfl, fun k => ?_⟩
        by_cases e : k = key
        · subst e
          rw [if_pos rfl, hgk, hng]
          rfl
        · rw [if_neg e]
def joinO : Option Bool → Option Bool → Option Bool
  | o, none => o
  | o, some g => some (joinG o g)
/-- Needles of different keys laid one behind the other. -/
theorem CanV.layL {num : Nat} : ∀ (l : List Ps) {d : Dk} {v : Vl} {m : Nat}, CanV d v num m → m + l.length ≤ 1000 → IxS l → (∀ p ∈ l, p.key < 18446744073709551616) →
    ∃ d' v', Go.Proofs.YtmaalbbclldnpaaGreatDoor.layL v d (l.map fun p => canN p.key p.gone) = (l.length, 0, d', v') ∧ LayOk v d (l.map fun p => canN p.key p.gone) ∧ CanV d' v' num (m + l.length) ∧ ∀ k, gOf v' k = joinO (gOf v k) ((ixFind l k).map fun p => p.gone)
  | [], d, v, m, h, _, _, _ => ⟨d, v, rfl, trivial, h, fun k => rfl⟩
  | p :: r, d, v, m, h, hm, hs, hk => by
    have hp := List.pairwise_cons.1 hs
    simp only [List.length_cons] at hm
    obtain ⟨d1, v1, e1, e2, e3, e4⟩ := h.lay (by omega) p.key p.gone (hk p List.mem_cons_self)
    obtain ⟨d2, v2, f1, f2, f3, f4⟩ := CanV.layL r e2 (by omega) hp.2 (fun q hq => hk q (List.mem_cons_of_mem _ hq))
    refine ⟨d2, v2, ?_, ?_, by rw [List.length_cons, show m + (r.length + 1) = m + 1 + r.length by omega]; exact f3, fun k => ?_⟩
    · show (if (v.lay d (canN p.key p.gone)).1 ≠ 0 then _ else _) = _
      rw [e1, if_neg (by simp), f1]
      rfl
    · refine ⟨h.pos (by omega), e3, fun _ => ?_⟩
      rw [e1]
      exact f2
    · rw [f4, e4]
      show _ = joinO (gOf v k) ((if p.key = k then some p else ixFind r k).map fun p => p.gone)
      by_cases e : k = p.key
      · have hnone : ixFind r k = none := by
          cases hf : ixFind r k with
          | none => rfl
          | some q =>
            have := mem_of_ixFind hf
            have := hp.1 q this.1
            omega
        rw [if_pos e, hnone, if_pos e.symm]
        rfl
      · rw [if_neg e, if_neg (fun e2 => e e2.symm)]
/-- A load of all. -/
theorem CanV.load {d : Dk} {v : Vl} {num m : Nat} (h : CanV d v num m) (hm : m ≤ 64) : (v.load d 0 64).l = v.idx.map (fun p => canN p.key p.gone) ∧ (v.load d 0 64).more = false ∧ v.idx.length ≤ 64 ∧ ∀ p ∈ v.idx, p.key < 18446744073709551616 := by
  obtain ⟨ns, h1, h2, h3⟩ := h.vi
  have hil : v.idx.length ≤ 64 := by have := h1.len; omega
  have hk65 : v.keys 0 (((64 : Nat) : Int) + 1) = v.idx := keys_zero v (by omega) (by show v.idx.length ≤ 65; omega)
  have hone : ∀ p ∈ v.idx, takeOne v d p = some (canN p.key p.gone) ∧ p.key < 18446744073709551616 := by
    intro p hp
    have h1' := ixFind_mem h1.srt hp
    rw [h1.idx] at h1'
    cases hx : newest ns 16 p.key with
    | none => rw [hx] at h1'; cases h1'
    | some x =>
      obtain ⟨o, n⟩ := x
      rw [hx] at h1'
      simp only [Option.map_some, Option.some.injEq] at h1'
      obtain ⟨hmem, hnk, _⟩ := newest_some hx
      have hcan := h2 n hmem
      have hgn : p.gone = n.gone := by rw [← h1']; rfl
      have hck : p.cookie = n.cookie := by rw [← h1']; rfl
      have hc3 : n.cookie = p.key % 3 := by
        rw [hcan]
        show n.key % 3 = _
        rw [hnk]
      refine ⟨?_, by have := (h1.ok n hmem).1; omega⟩
      unfold takeOne
      rw [hgn]
      cases hng : n.gone with
      | true =>
        rw [if_pos rfl, hck, hc3]
        rfl
      | false =>
        rw [if_neg (by simp)]
        have hgot := h1.got hx hng
        rw [hck, hgot, if_neg (by simp)]
        congr 1
        rw [hcan, hng, hnk]
  refine ⟨?_, ?_, hil, fun p hp => (hone p hp).2⟩
  · show ((v.keys 0 (((64 : Nat) : Int) + 1)).take 64).filterMap (takeOne v d) = _
    rw [hk65, List.take_of_length_le hil]
    have : ∀ l : List Ps, (∀ p ∈ l, takeOne v d p = some (canN p.key p.gone)) → l.filterMap (takeOne v d) = l.map fun p => canN p.key p.gone := by
      intro l
      induction l with
      | nil => intro _; rfl
      | cons a r ih =>
        intro ha
        rw [List.filterMap_cons, ha a List.mem_cons_self]
        simp only [List.map_cons]
        rw [ih fun q hq => ha q (List.mem_cons_of_mem _ hq)]
    exact this _ fun p hp => (hone p hp).1
  · show decide (64 < (v.keys 0 (((64 : Nat) : Int) + 1)).length) = false
    rw [hk65]
    simp
    omega
theorem join_both (x y : Option Bool) : joinO x (joinO y x) = joinO y x := by
  cases x with
  | none => cases y <;> rfl
  | some a => cases y with
    | none => cases a <;> rfl
    | some b => cases a <;> cases b <;> rfl
/-- Two indexes that tell the same of each key. -/
theorem ix_same : ∀ {l1 l2 : List Ps}, IxS l1 → IxS l2 → (∀ k, (ixFind l1 k).map (fun p => p.gone) = (ixFind l2 k).map fun p => p.gone) → l1.map (fun p => (p.key, p.gone)) = l2.map fun p => (p.key, p.gone)
  | [], [], _, _, _ => rfl
  | [], q :: s, _, _, h => by
    have := h q.key
    simp [ixFind] at this
  | p :: r, [], _, _, h => by
    have := h p.key
    simp [ixFind] at this
  | p :: r, q :: s, h1, h2, h => by
    have hp := List.pairwise_cons.1 h1
    have hq := List.pairwise_cons.1 h2
    have nolow : ∀ {l : List Ps} {k : Nat}, (∀ x ∈ l, k < x.key) → ixFind l k = none := by
      intro l k hl
      cases hf : ixFind l k with
      | none => rfl
      | some x =>
        have := mem_of_ixFind hf
        have := hl x this.1
        omega
    have hkey : p.key = q.key := by
      rcases Nat.lt_trichotomy p.key q.key with hlt | heq | hgt
      · exfalso
        have e1 : ixFind (q :: s) p.key = none := nolow fun x hx => by
          rcases List.mem_cons.1 hx with rfl | hx
          · exact hlt
          · have := hq.1 x hx; omega
        have := h p.key
        rw [e1] at this
        simp [ixFind] at this
      · exact heq
      · exfalso
        have e1 : ixFind (p :: r) q.key = none := nolow fun x hx => by
          rcases List.mem_cons.1 hx with rfl | hx
          · exact hgt
          · have := hp.1 x hx; omega
        have := h q.key
        rw [e1] at this
        simp [ixFind] at this
    have hg : p.gone = q.gone := by
      have := h p.key
      unfold ixFind at this
      rw [if_pos rfl, if_pos hkey.symm] at this
      simpa using this
    have hrec : ∀ k, (ixFind r k).map (fun p => p.gone) = (ixFind s k).map fun p => p.gone := by
      intro k
      by_cases hk : p.key = k
      · rw [nolow (l := r) (fun x hx => by have := hp.1 x hx; omega), nolow (l := s) (fun x hx => by have := hq.1 x hx; omega)]
      · have := h k
        unfold ixFind at this
        rwa [if_neg hk, if_neg (by omega)] at this
    rw [List.map_cons, List.map_cons, ix_same hp.2 hq.2 hrec, hkey, hg]
theorem same_counts {l1 l2 : List Ps} (h : l1.map (fun p => (p.key, p.gone)) = l2.map fun p => (p.key, p.gone)) : l1.length = l2.length ∧ goneN l1 = goneN l2 := by
  have h1 := congrArg List.length h
  have h2 := congrArg (List.countP fun x : Nat × Bool => x.2) h
  rw [List.countP_map, List.countP_map] at h2
  exact ⟨by simpa using h1, h2⟩
theorem behind_none {va vb : Vl} (hs : IxS va.idx) (h : ∀ k, gOf va k = gOf vb k) : behindL vb va.idx = [] := by
  unfold behindL
  rw [List.map_eq_nil_iff, List.filter_eq_nil_iff]
  intro p hp
  have h1 := ixFind_mem hs hp
  have h2 := h p.key
  unfold gOf at h2
  rw [h1] at h2
  unfold lacksP
  cases hf : ixFind vb.idx p.key with
  | none => rw [hf] at h2; cases h2
  | some q =>
    rw [hf] at h2
    simp only [Option.map_some, Option.some.injEq] at h2
    simp only
    rw [← h2]
    simp
end Go.Proofs.YtmaalbbclldnpaaGreatDoor

/- Law ShipBoth: the walk. (Written by wip/genshipboth.py.) -/
namespace Go.Proofs.YtmaalbbclldnpaaGreatDoor
open Go.RowKit
/-- Two volumes beside each other, in blocks from B on. -/
def Two (B : Nat) (w : World) (vpa dpa vpb dpb : Nat) (da : Dk) (va : Vl) (db : Dk) (vb : Vl) : Prop :=
  ∃ FA FB, VF w vpa dpa FA 5 da va ∧ VF w vpb dpb FB 5 db vb ∧ (∀ j, FA j → ¬ FB j ∧ B ≤ j) ∧ (∀ j, FB j → B ≤ j) ∧ B ≤ w.heap.size
theorem Two.symm {B : Nat} {w : World} {vpa dpa vpb dpb : Nat} {da db : Dk} {va vb : Vl} (h : Two B w vpa dpa vpb dpb da va db vb) : Two B w vpb dpb vpa dpa db vb da va := by
  obtain ⟨FA, FB, h1, h2, h3, h4, h5⟩ := h
  exact ⟨FB, FA, h2, h1, fun j hj => ⟨fun e => (h3 j e).1 hj, h4 j hj⟩, fun j hj => (h3 j hj).2, h5⟩
theorem Two.below {B : Nat} {w w' : World} {vpa dpa vpb dpb : Nat} {da db : Dk} {va vb : Vl} (h : Two B w vpa dpa vpb dpb da va db vb) (hb : Below w.heap.size w w') : Two B w' vpa dpa vpb dpb da va db vb := by
  obtain ⟨FA, FB, h1, h2, h3, h4, h5⟩ := h
  have hk : Keeps (fun _ => False) w w' := Keeps.of_below hb fun k hk _ => hk
  exact ⟨FA, FB, h1.keeps hk (fun _ _ e => e), h2.keeps hk (fun _ _ e => e), h3, h4, Nat.le_trans h5 hb.size⟩
/-- A call of the one leaves the other. -/
theorem Two.one {B : Nat} {w : World} {vpa dpa vpb dpb : Nat} {da db : Dk} {va vb : Vl} (h : Two B w vpa dpa vpb dpb da va db vb) : ∃ P FB : Nat → Prop, VS w vpa dpa P 5 da va ∧ VF w vpb dpb FB 5 db vb ∧ (∀ k, P k → k < w.heap.size) ∧ (∀ k, FB k → P k) ∧
    ∀ w' da' va', VTo w w' vpa dpa P 5 da' va' → Two B w' vpa dpa vpb dpb da' va' db vb ∧ Below B w w' := by
  obtain ⟨FA, FB, h1, h2, h3, h4, h5⟩ := h
  have hlt := h2.lt
  refine ⟨fun k => k < B ∨ FB k, FB, h1.vs (fun k hk e => ?_), h2, fun k hk => ?_, fun k hk => .inr hk, fun w' da' va' ht => ?_⟩
  · rcases e with e | e
    · have := (h3 k hk).2; omega
    · exact (h3 k hk).1 e
  · rcases hk with hk | hk
    · omega
    · exact hlt k hk
  · obtain ⟨FA', g1, g2⟩ := ht.1.foot
    refine ⟨⟨FA', FB, g1, h2.kp ht.2 (fun k hk => .inr hk), fun j hj => ⟨fun e => g2 j hj (.inr e), ?_⟩, h4, Nat.le_trans h5 ht.2.size⟩, ht.2.below h5 (fun k hk => .inl hk)⟩
    apply Classical.byContradiction
    intro e
    exact g2 j hj (.inl (by omega))
theorem Two.at' {B : Nat} {w : World} {vpa dpa vpb dpb : Nat} {da db : Dk} {va vb : Vl} (h : Two B w vpa dpa vpb dpb da va db vb) : ∃ ixa vxa ixb vxb, VolAt w vpa dpa ixa vxa va ∧ VolAt w vpb dpb ixb vxb vb := by
  obtain ⟨FA, FB, ⟨ixa, vxa, _, _, h1, _⟩, ⟨ixb, vxb, _, _, h2, _⟩, _⟩ := h
  exact ⟨ixa, vxa, ixb, vxb, h1, h2⟩
theorem u8_low (key : Nat) : bv (UInt8.ofNat key) = .int .u8 ((key % 256 : Nat) : Int) := by
  unfold bv
  simp
theorem reads_byte {w : World} {b : Nat} {key : Nat} {t : TypeId} (h : w.heap[b]? = some (.cells #[.int .u8 ((key % 256 : Nat) : Int)] t (0, 0))) : Reads w 1 (.slice (some ⟨b, 0, none⟩) 1 1) 1 ([UInt8.ofNat key].map bv) := by
  refine ⟨rfl, .inr ⟨_, _, rfl, by unfold maxLen; omega, fun j u hu => ?_⟩⟩
  match j, hu with
  | 0, hu =>
    simp only [List.map_cons, List.map_nil, List.getElem?_cons_zero, Option.some.injEq] at hu
    subst hu
    rw [u8_low]
    have := bx_cell h
    simpa [Addr.add] using this
  | j + 1, hu => simp at hu
set_option maxRecDepth 100000 in
set_option maxHeartbeats 4000000 in
theorem shipBoth_walk (a ab : Option Addr) (len cap lenb capb : Nat) (xs : List NdE) (bs : List Bool) (w : World) (hl : xs.length = len) (hr : Reads w 4 (.slice a len cap) len (xs.flatMap NdE.cs)) (ho : ∀ x ∈ xs, NdArg w x) (hlb : bs.length = lenb) (hrb : Reads w 1 (.slice ab lenb capb) lenb (bs.map Value.bool)) :
    Calls Tryz.prog 8 #[.slice a len cap, .slice ab lenb capb] w fun e w' => e = .returned (.bool true) ∧ Below w.heap.size w w' := by
  have HL := Lib.hid hl
  have HR := Lib.hid hr
  have HO := Lib.hid ho
  have HLB := Lib.hid hlb
  have HRB := Lib.hid hrb
  clear hl hr ho hlb hrb
  go_enter Tryz.func8, Tryz.ntmps8
  go_wp2_with fail
  refine (alive13 w).mono ?_
  rintro e w1 ⟨rfl, hb⟩
  have HB1 := Lib.hid hb
  have hz1 := hb.size
  clear hb
  by_cases hbig : 30 < len
  · have d1 : decide ((30 : Int) < (len : Int)) = true := by simp; omega
    go_wp2_with fail
    go_ret
    exact ⟨rfl, HB1.out⟩
  have d1 : decide ((30 : Int) < (len : Int)) = false := by simp; omega
  by_cases hsm : lenb < len
  · have d2 : decide ((lenb : Int) < (len : Int)) = true := by simp; omega
    have d3 : decide (lenb < len) = true := by simp; omega
    go_wp2_with fail
    go_ret
    exact ⟨rfl, HB1.out⟩
  have d2 : decide ((lenb : Int) < (len : Int)) = false := by simp; omega
  have d3 : decide (lenb < len) = false := by simp; omega
  have HMA := Lib.hid (fun w0 : World => show Calls Tryz.prog 11 #[.int .i64 1, .int .i64 1048576, .slice none 0 0] w0 (MadeTo w0 1 1048576) from made_nil 1 1048576 (.inl rfl) (by omega) (by omega) w0)
  have HMB := Lib.hid (fun w0 : World => show Calls Tryz.prog 11 #[.int .i64 2, .int .i64 1048576, .slice none 0 0] w0 (MadeTo w0 2 1048576) from made_nil 2 1048576 (.inr rfl) (by omega) (by omega) w0)
  unfold MadeTo at HMA HMB
  go_wp2_with fail
  refine (HMA.out w1).mono ?_
  rintro e w2 ⟨vpa, dpa, da0, rfl, hva, hvia, hb⟩
  have HVA := Lib.hid hva
  have HIA := Lib.hid hvia
  have HB2 := Lib.hid (HB1.out.trans (hb.mono hz1))
  have hz2 := hb.size
  clear hva hvia hb
  go_upto_region 6 with fail
  obtain ⟨w3, hw3⟩ : ∃ w3 : World, w3 = w2.alloc (.cells #[.int .i64 1, .int .i64 1048576, .int .i64 0, .int .i64 16, .bool false, .slice none 0 0, .slice none 0 0] 30) := ⟨_, rfl⟩
  have hb3 : Below w2.heap.size w2 w3 := by rw [hw3]; exact (by repeat (first | (with_reducible exact Below.refl _ _) | (with_reducible refine Below.setCell ?_ ?_ _) | (with_reducible refine Below.alloc ?_ ?_ _) | (with_reducible refine Below.drewN ?_ _) | (with_reducible refine Below.drew ?_) | (with_reducible exact Nat.le_refl _) | (focus (simp only [World.size_alloc, World.size_setCell, World.size_drew, World.size_drewN]; omega)) | omega | exact Nat.le_refl _ | (focus (simp; done)) | (focus (simp; omega))))
  have HB3 := Lib.hid (HB2.out.trans (hb3.mono (Nat.le_trans hz1 hz2)))
  have HV3 := Lib.hid (HVA.out.below hb3)
  have hz3 := hb3.size
  rw [← hw3]
  clear hw3 hb3
  go_wp2_with fail
  refine (HMB.out w3).mono ?_
  rintro e w4 ⟨vpb, dpb, db0, rfl, hvb, hvib, hb⟩
  have HIB := Lib.hid hvib
  have HB4 := Lib.hid (HB3.out.trans (hb.mono HB3.out.size))
  have HTW := Lib.hid (show Two w.heap.size w4 vpa dpa vpb dpb da0 ⟨1, 1, 0, false, 1048576, 16, []⟩ db0 ⟨2, 1, 0, false, 1048576, 16, []⟩ by
    obtain ⟨FA, h1, h2⟩ := HV3.out.foot
    obtain ⟨FB, h3, h4⟩ := hvb.foot
    have h1' := h1.keeps (R := fun _ => False) (Keeps.of_below hb fun k hk _ => hk) (fun _ _ e => e)
    have hlt := h1.lt
    refine ⟨FA, FB, h1', h3, fun j hj => ⟨fun e => h4 j e (hlt j hj), ?_⟩, fun j hj => ?_, Nat.le_trans (Nat.le_trans hz1 hz2) (Nat.le_trans hz3 hb.size)⟩
    · apply Classical.byContradiction
      intro e
      exact h2 j hj (by omega)
    · apply Classical.byContradiction
      intro e
      exact h4 j hj (by omega))
  clear hvb hvib hb
  go_upto_region 7 with fail
  obtain ⟨w5, hw5⟩ : ∃ w5 : World, w5 = w4.alloc (.cells #[.int .i64 2, .int .i64 1048576, .int .i64 0, .int .i64 16, .bool false, .slice none 0 0, .slice none 0 0] 30) := ⟨_, rfl⟩
  have hb5 : Below w4.heap.size w4 w5 := by rw [hw5]; exact (by repeat (first | (with_reducible exact Below.refl _ _) | (with_reducible refine Below.setCell ?_ ?_ _) | (with_reducible refine Below.alloc ?_ ?_ _) | (with_reducible refine Below.drewN ?_ _) | (with_reducible refine Below.drew ?_) | (with_reducible exact Nat.le_refl _) | (focus (simp only [World.size_alloc, World.size_setCell, World.size_drew, World.size_drewN]; omega)) | omega | exact Nat.le_refl _ | (focus (simp; done)) | (focus (simp; omega))))
  have HB5 := Lib.hid (HB4.out.trans (hb5.mono HB4.out.size))
  have HT5 := Lib.hid (HTW.out.below hb5)
  rw [← hw5]
  clear hw5 hb5
  go_wp2_with fail
  go_loopw [11] (fun i wr => ∃ (k : Nat) (da : Dk) (va : Vl) (db : Dk) (vb : Vl), k ≤ len ∧ i = .int .i64 k ∧ Two w.heap.size wr vpa dpa vpb dpb da va db vb ∧ CanV da va 1 k ∧ CanV db vb 2 k ∧ Below w.heap.size w wr) (fun i _ => len - (intOf i).toNat)
  case atStart => exact ⟨0, _, _, _, _, Nat.zero_le _, rfl, HT5.out, ⟨⟨[], HIA.out, fun n hn => absurd hn List.not_mem_nil, Nat.le_refl _⟩, rfl, rfl, by simp⟩, ⟨⟨[], HIB.out, fun n hn => absurd hn List.not_mem_nil, Nat.le_refl _⟩, rfl, rfl, by simp⟩, HB5.out⟩
  case round =>
    obtain ⟨k, da, va, db, vb, hk, rfl, htw, hca, hcb, hbr⟩ := hrel
    have HTR := Lib.hid htw
    have HCA := Lib.hid hca
    have HCB := Lib.hid hcb
    have HBR := Lib.hid hbr
    have hzr := hbr.size
    clear htw hca hcb hbr
    by_cases hlt : k < len
    · obtain ⟨x, hx⟩ : ∃ x, xs[k]? = some x := ⟨_, List.getElem?_eq_getElem (by rw [HL.out]; exact hlt)⟩
      obtain ⟨b, o, c', e, hblt, r0, r1, r2, r3⟩ := nd_cells (HR.out.below HBR.out) hx (by omega)
      obtain ⟨rfl, -, rfl⟩ := sl_inj e
      have HKX := Lib.hid (HO.out x (List.mem_of_getElem? hx)).key
      obtain ⟨y, hy⟩ : ∃ y, bs[k]? = some y := ⟨_, List.getElem?_eq_getElem (by rw [HLB.out]; omega)⟩
      obtain ⟨b2, o2, c2, e2, hblt2, _, hcell⟩ := reads_at (HRB.out.below HBR.out) (by omega) (by omega)
      obtain ⟨rfl, -, rfl⟩ := sl_inj e2
      have rb := hcell k (.bool y) (by rw [List.getElem?_map, hy]; rfl)
      have hj0 : (0 : Int) ≤ (k : Int) := by omega
      have hj1 : (k : Int) < (len : Int) := by omega
      have hj2 : (k : Int) < (lenb : Int) := by omega
      clear hx e hy e2 hcell
      obtain ⟨⟨key, cookie, gone, data⟩, ad, cd⟩ := x
      simp only at r0 r1 r2 r3 HKX
      have hkey : key < 18446744073709551616 := HKX.out
      cases gone
      case false =>
        go_upto_region 15 with fail
        obtain ⟨w3, hw3⟩ : ∃ w3 : World, w3 = (wr.alloc (.cells #[.int .u64 key, .int .u32 ((key : Int) % 3), .bool false, .slice (some ⟨wr.heap.size + 1, 0, none⟩) 1 1] 48)).alloc (.cells #[.int .u8 ((key : Int) % 256)] 5) := ⟨_, rfl⟩
        have hb3 : Below wr.heap.size wr w3 := by rw [hw3]; exact (by repeat (first | (with_reducible exact Below.refl _ _) | (with_reducible refine Below.setCell ?_ ?_ _) | (with_reducible refine Below.alloc ?_ ?_ _) | (with_reducible refine Below.drewN ?_ _) | (with_reducible refine Below.drew ?_) | (with_reducible exact Nat.le_refl _) | (focus (simp only [World.size_alloc, World.size_setCell, World.size_drew, World.size_drewN]; omega)) | omega | exact Nat.le_refl _ | (focus (simp; done)) | (focus (simp; omega))))
        have KX3 := Lib.hid (show w3.heap[wr.heap.size]? = some (.cells #[.int .u64 key, .int .u32 ((key : Int) % 3), .bool false, .slice (some ⟨wr.heap.size + 1, 0, none⟩) 1 1] 48 (0, 0)) by rw [hw3]; exact blk_alloc (heap_new wr _) _)
        have KD3 := Lib.hid (show w3.heap[wr.heap.size + 1]? = some (.cells #[.int .u8 ((key % 256 : Nat) : Int)] 5 (0, 0)) by rw [hw3]; exact blk_new _ (by simp))
        have HB3 := Lib.hid (HBR.out.trans (hb3.mono hzr))
        have HT3 := Lib.hid (HTR.out.below hb3)
        have rb3 := ((bcell hb3).1 b2 (o2 + k) hblt2).trans rb
        have hz3 := hb3.size
        rw [← hw3]
        clear hw3 hb3 rb r0 r1 r2 r3
        obtain ⟨x0, x1, x2, x3⟩ := ncells KX3.out
        have hlx := blk_lt KX3.out
        cases y
        case false =>
          obtain ⟨d', v', e1, e2, e3, e4⟩ := HCB.out.lay (by omega) key false hkey
          obtain ⟨P, FB, hvs, hfb, hP, hfP, hto⟩ := HT3.out.symm.one
          have HTO := Lib.hid hto
          have HLY := Lib.hid (show Calls Tryz.prog 28 #[(.pointer (some ⟨vpb, 0, none⟩)), .agg #[.int .u64 key, .int .u32 ((key : Int) % 3), .bool false, .slice (some ⟨wr.heap.size + 1, 0, none⟩) 1 1]] w3 fun e w' => e = .returned .nilIface ∧ VTo w3 w' vpb dpb P 5 d' v' by
            have h9 := laynd_vs hvs hP (canN key false) (some ⟨wr.heap.size + 1, 0, none⟩) 1 hkey (by show key % 3 < _; omega) (by have := can_len key false; omega) (reads_byte KD3.out) (HCB.out.pos (by omega)) e3
            rw [e1] at h9
            exact h9)
          have E2 := Lib.hid e2
          clear hvs hfb hP hfP hto e1 e2 e3 e4
          go_wp2_with fail
          refine HLY.out.mono ?_
          rintro e w4 ⟨rfl, ht⟩
          have HT4 := Lib.hid (HTO.out _ _ _ ht)
          clear ht
          go_wp2_with fail
          go_roundw
          case rel => exact ⟨k + 1, da, va, d', v', by omega, by go_num, HT4.out.1.symm, HCA.out.more (by omega), E2.out, HB3.out.trans HT4.out.2⟩
          case measure => simp [intOf]; omega
        case true =>
          obtain ⟨d', v', e1, e2, e3, e4⟩ := HCA.out.lay (by omega) key false hkey
          obtain ⟨P, FB, hvs, hfb, hP, hfP, hto⟩ := HT3.out.one
          have HTO := Lib.hid hto
          have HLY := Lib.hid (show Calls Tryz.prog 28 #[(.pointer (some ⟨vpa, 0, none⟩)), .agg #[.int .u64 key, .int .u32 ((key : Int) % 3), .bool false, .slice (some ⟨wr.heap.size + 1, 0, none⟩) 1 1]] w3 fun e w' => e = .returned .nilIface ∧ VTo w3 w' vpa dpa P 5 d' v' by
            have h9 := laynd_vs hvs hP (canN key false) (some ⟨wr.heap.size + 1, 0, none⟩) 1 hkey (by show key % 3 < _; omega) (by have := can_len key false; omega) (reads_byte KD3.out) (HCA.out.pos (by omega)) e3
            rw [e1] at h9
            exact h9)
          have E2 := Lib.hid e2
          clear hvs hfb hP hfP hto e1 e2 e3 e4
          go_wp2_with fail
          refine HLY.out.mono ?_
          rintro e w4 ⟨rfl, ht⟩
          have HT4 := Lib.hid (HTO.out _ _ _ ht)
          clear ht
          go_wp2_with fail
          go_roundw
          case rel => exact ⟨k + 1, d', v', db, vb, by omega, by go_num, HT4.out.1, E2.out, HCB.out.more (by omega), HB3.out.trans HT4.out.2⟩
          case measure => simp [intOf]; omega
      case true =>
        go_upto_region 15 with fail
        obtain ⟨w3, hw3⟩ : ∃ w3 : World, w3 = (wr.alloc (.cells #[.int .u64 key, .int .u32 ((key : Int) % 3), .bool true, .slice none 0 0] 48)).alloc (.cells #[.int .u8 ((key : Int) % 256)] 5) := ⟨_, rfl⟩
        have hb3 : Below wr.heap.size wr w3 := by rw [hw3]; exact (by repeat (first | (with_reducible exact Below.refl _ _) | (with_reducible refine Below.setCell ?_ ?_ _) | (with_reducible refine Below.alloc ?_ ?_ _) | (with_reducible refine Below.drewN ?_ _) | (with_reducible refine Below.drew ?_) | (with_reducible exact Nat.le_refl _) | (focus (simp only [World.size_alloc, World.size_setCell, World.size_drew, World.size_drewN]; omega)) | omega | exact Nat.le_refl _ | (focus (simp; done)) | (focus (simp; omega))))
        have KX3 := Lib.hid (show w3.heap[wr.heap.size]? = some (.cells #[.int .u64 key, .int .u32 ((key : Int) % 3), .bool true, .slice none 0 0] 48 (0, 0)) by rw [hw3]; exact blk_alloc (heap_new wr _) _)
        have KD3 := Lib.hid (show w3.heap[wr.heap.size + 1]? = some (.cells #[.int .u8 ((key % 256 : Nat) : Int)] 5 (0, 0)) by rw [hw3]; exact blk_new _ (by simp))
        have HB3 := Lib.hid (HBR.out.trans (hb3.mono hzr))
        have HT3 := Lib.hid (HTR.out.below hb3)
        have rb3 := ((bcell hb3).1 b2 (o2 + k) hblt2).trans rb
        have hz3 := hb3.size
        rw [← hw3]
        clear hw3 hb3 rb r0 r1 r2 r3
        obtain ⟨x0, x1, x2, x3⟩ := ncells KX3.out
        have hlx := blk_lt KX3.out
        cases y
        case false =>
          obtain ⟨d', v', e1, e2, e3, e4⟩ := HCB.out.lay (by omega) key true hkey
          obtain ⟨P, FB, hvs, hfb, hP, hfP, hto⟩ := HT3.out.symm.one
          have HTO := Lib.hid hto
          have HLY := Lib.hid (show Calls Tryz.prog 28 #[(.pointer (some ⟨vpb, 0, none⟩)), .agg #[.int .u64 key, .int .u32 ((key : Int) % 3), .bool true, .slice none 0 0]] w3 fun e w' => e = .returned .nilIface ∧ VTo w3 w' vpb dpb P 5 d' v' by
            have h9 := laynd_vs hvs hP (canN key true) none 0 hkey (by show key % 3 < _; omega) (by have := can_len key true; omega) (reads_none _ _) (HCB.out.pos (by omega)) e3
            rw [e1] at h9
            exact h9)
          have E2 := Lib.hid e2
          clear hvs hfb hP hfP hto e1 e2 e3 e4
          go_wp2_with fail
          refine HLY.out.mono ?_
          rintro e w4 ⟨rfl, ht⟩
          have HT4 := Lib.hid (HTO.out _ _ _ ht)
          clear ht
          go_wp2_with fail
          go_roundw
          case rel => exact ⟨k + 1, da, va, d', v', by omega, by go_num, HT4.out.1.symm, HCA.out.more (by omega), E2.out, HB3.out.trans HT4.out.2⟩
          case measure => simp [intOf]; omega
        case true =>
          obtain ⟨d', v', e1, e2, e3, e4⟩ := HCA.out.lay (by omega) key true hkey
          obtain ⟨P, FB, hvs, hfb, hP, hfP, hto⟩ := HT3.out.one
          have HTO := Lib.hid hto
          have HLY := Lib.hid (show Calls Tryz.prog 28 #[(.pointer (some ⟨vpa, 0, none⟩)), .agg #[.int .u64 key, .int .u32 ((key : Int) % 3), .bool true, .slice none 0 0]] w3 fun e w' => e = .returned .nilIface ∧ VTo w3 w' vpa dpa P 5 d' v' by
            have h9 := laynd_vs hvs hP (canN key true) none 0 hkey (by show key % 3 < _; omega) (by have := can_len key true; omega) (reads_none _ _) (HCA.out.pos (by omega)) e3
            rw [e1] at h9
            exact h9)
          have E2 := Lib.hid e2
          clear hvs hfb hP hfP hto e1 e2 e3 e4
          go_wp2_with fail
          refine HLY.out.mono ?_
          rintro e w4 ⟨rfl, ht⟩
          have HT4 := Lib.hid (HTO.out _ _ _ ht)
          clear ht
          go_wp2_with fail
          go_roundw
          case rel => exact ⟨k + 1, d', v', db, vb, by omega, by go_num, HT4.out.1, E2.out, HCB.out.more (by omega), HB3.out.trans HT4.out.2⟩
          case measure => simp [intOf]; omega
    · have hj1 : ¬ (k : Int) < (len : Int) := by omega
      have hj2 : decide ((k : Int) < (len : Int)) = false := by simp; omega
      have hj3 : decide (k < len) = false := by simp; omega
      go_upto_region 18 with fail
      obtain ⟨la1, la2, la3, la4⟩ := HCA.out.load (by omega)
      obtain ⟨lb1, lb2, lb3, lb4⟩ := HCB.out.load (by omega)
      obtain ⟨nsa, hva, _, hna⟩ := HCA.out.vi
      have hvl : va.idx.length ≤ 30 := by have := hva.len; omega
      obtain ⟨nsb, hvb, _, _⟩ := HCB.out.vi
      -- a laid on b
      obtain ⟨db1, vb1, e1, e2, e3, e4⟩ := CanV.layL va.idx HCB.out (by omega) hva.srt la4
      have hcb1 := e3
      obtain ⟨P1, FA1, hv1, hf1, hP1, hfP1, hto1⟩ := HTR.out.symm.one
      have HTO1 := Lib.hid hto1
      have HC1 := Lib.hid (show Calls Tryz.prog 25 #[(.pointer (some ⟨vpa, 0, none⟩)), (.pointer (some ⟨vpb, 0, none⟩))] wr fun e w' => e = .returned (.tuple #[.int .i64 va.idx.length, .nilIface]) ∧ VTo wr w' vpb dpb P1 5 db1 vb1 by
        have h9 := shall_vs hv1 hP1 hf1 hfP1 (HCA.out.pos (by omega)) la2 (fun n hn => by
          rw [la1] at hn
          obtain ⟨p, hp, rfl⟩ := List.mem_map.1 hn
          exact ⟨la4 p hp, by show p.key % 3 < _; omega, by have := can_len p.key p.gone; omega⟩) (by rw [la1]; exact e2) (by rw [la1, List.length_map]; exact la3)
        rw [la1, e1] at h9
        exact h9)
      -- b laid on a
      obtain ⟨lc1, lc2, lc3, lc4⟩ := hcb1.load (by omega)
      obtain ⟨nsb1, hvb1, _, _⟩ := hcb1.vi
      obtain ⟨da1, va1, k1, k2, k3, k4⟩ := CanV.layL vb1.idx HCA.out (by omega) hvb1.srt lc4
      obtain ⟨nsa1, hva1, _, _⟩ := k3.vi
      have HPB := Lib.hid (hcb1.pos (by omega))
      have HK := Lib.hid (And.intro k1 k2)
      have hsame : ∀ q, gOf va1 q = gOf vb1 q := by
        intro q
        rw [k4]
        have h1 : (ixFind vb1.idx q).map (fun p => p.gone) = gOf vb1 q := rfl
        rw [h1, e4]
        have h2 : (ixFind va.idx q).map (fun p => p.gone) = gOf va q := rfl
        rw [h2]
        exact join_both _ _
      have hcounts := same_counts (ix_same hva1.srt hvb1.srt hsame)
      have HBA := Lib.hid (behind_none hva1.srt hsame)
      have HBB := Lib.hid (behind_none hvb1.srt (fun q => (hsame q).symm))
      obtain ⟨il, hil⟩ : ∃ il, il = va.idx.length := ⟨_, rfl⟩
      rw [← hil] at HC1
      have hil30 : il ≤ 64 := by omega
      have HLC := Lib.hid (And.intro lc1 (And.intro lc2 (And.intro lc3 lc4)))
      clear hvl hna la1 la2 la3 la4 lb1 lb2 lb3 lb4 hva hvb e1 e2 e3 e4 hcb1 hv1 hf1 hP1 hfP1 hto1 hvb1 hva1 k1 k2 k3 k4 hsame lc1 lc2 lc3 lc4 hil
      go_wp2_with fail
      refine HC1.out.mono ?_
      rintro e w6 ⟨rfl, ht⟩
      have HT6 := Lib.hid ((HTO1.out _ _ _ ht).1.symm)
      have HB6 := Lib.hid (HBR.out.trans (HTO1.out _ _ _ ht).2)
      have hz6 := HB6.out.size
      clear ht HC1 HTO1
      obtain ⟨P2, FB2, hv2, hf2, hP2, hfP2, hto2⟩ := HT6.out.one
      have HTO2 := Lib.hid hto2
      obtain ⟨jl, hjl⟩ : ∃ jl, jl = vb1.idx.length := ⟨_, rfl⟩
      have HC2 := Lib.hid (show Calls Tryz.prog 25 #[(.pointer (some ⟨vpb, 0, none⟩)), (.pointer (some ⟨vpa, 0, none⟩))] w6 fun e w' => e = .returned (.tuple #[.int .i64 jl, .nilIface]) ∧ VTo w6 w' vpa dpa P2 5 da1 va1 by
        obtain ⟨lc1, lc2, lc3, lc4⟩ := HLC.out
        obtain ⟨k1, k2⟩ := HK.out
        have h9 := shall_vs hv2 hP2 hf2 hfP2 HPB.out lc2 (fun n hn => by
          rw [lc1] at hn
          obtain ⟨p, hp, rfl⟩ := List.mem_map.1 hn
          exact ⟨lc4 p hp, by show p.key % 3 < _; omega, by have := can_len p.key p.gone; omega⟩) (by rw [lc1]; exact k2) (by rw [lc1, List.length_map]; exact lc3)
        rw [lc1, k1] at h9
        rw [hjl]
        exact h9)
      clear hv2 hf2 hP2 hfP2 hto2 hjl
      go_wp2_with fail
      refine HC2.out.mono ?_
      rintro e w7 ⟨rfl, ht⟩
      have HT7 := Lib.hid (HTO2.out _ _ _ ht).1
      have HB7 := Lib.hid (HB6.out.trans ((HTO2.out _ _ _ ht).2))
      have hz7 := HB7.out.size
      clear ht HC2 HTO2
      have HBH1 := Lib.hid (show Calls Tryz.prog 24 #[(.pointer (some ⟨vpa, 0, none⟩)), (.pointer (some ⟨vpb, 0, none⟩))] w7 (BehindTo w7 []) by
        obtain ⟨ixa, vxa, ixb, vxb, h1, h2⟩ := HT7.out.at'
        have := behind_any h1 h2
        rwa [HBA.out] at this)
      unfold BehindTo at HBH1
      go_wp2_with fail
      refine HBH1.out.mono ?_
      rintro e w8 ⟨vl8, rfl, hr8, hb8⟩
      obtain ⟨a8, c8, rfl, -⟩ := slice_of hr8
      have HT8 := Lib.hid (HT7.out.below hb8)
      have HB8 := Lib.hid (HB7.out.trans (hb8.mono hz7))
      have hz8 := HB8.out.size
      clear hr8 hb8
      have HBH2 := Lib.hid (show Calls Tryz.prog 24 #[(.pointer (some ⟨vpb, 0, none⟩)), (.pointer (some ⟨vpa, 0, none⟩))] w8 (BehindTo w8 []) by
        obtain ⟨ixa, vxa, ixb, vxb, h1, h2⟩ := HT8.out.at'
        have := behind_any h2 h1
        rwa [HBB.out] at this)
      unfold BehindTo at HBH2
      go_wp2_with fail
      refine HBH2.out.mono ?_
      rintro e w9 ⟨vl9, rfl, hr9, hb9⟩
      obtain ⟨a9, c9, rfl, -⟩ := slice_of hr9
      have HT9 := Lib.hid (HT8.out.below hb9)
      have HB9 := Lib.hid (HB8.out.trans (hb9.mono hz8))
      have hz9 := HB9.out.size
      clear hr9 hb9
      have HIF := Lib.hid (fun (w0 : World) (hb : Below w9.heap.size w9 w0) => show Calls Tryz.prog 26 #[(.pointer (some ⟨vpa, 0, none⟩))] w0 fun e w' => e = .returned (infoV va1) ∧ Below w0.heap.size w0 w' by
        obtain ⟨ixa, vxa, ixb, vxb, h1, h2⟩ := (HT9.out.below hb).at'
        exact info_any h1)
      have HIG := Lib.hid (fun (w0 : World) (hb : Below w9.heap.size w9 w0) => show Calls Tryz.prog 26 #[(.pointer (some ⟨vpb, 0, none⟩))] w0 fun e w' => e = .returned (infoV vb1) ∧ Below w0.heap.size w0 w' by
        obtain ⟨ixa, vxa, ixb, vxb, h1, h2⟩ := (HT9.out.below hb).at'
        exact info_any h2)
      unfold infoV at HIF HIG
      rw [← hcounts.1, ← hcounts.2] at HIG
      obtain ⟨gn, hgn⟩ : ∃ gn, gn = goneN va1.idx := ⟨_, rfl⟩
      obtain ⟨ln, hln⟩ : ∃ ln, ln = va1.idx.length - goneN va1.idx := ⟨_, rfl⟩
      rw [← hln, ← hgn] at HIF HIG
      clear hcounts hgn hln
      go_wp2_with fail
      refine (HIF.out w9 (Below.refl _ _)).mono ?_
      rintro e w10 ⟨rfl, hb10⟩
      have HX10 := Lib.hid hb10
      have HB10 := Lib.hid (HB9.out.trans (hb10.mono hz9))
      clear hb10
      go_wp2_with fail
      refine (HIG.out w10 HX10.out).mono ?_
      rintro e w11 ⟨rfl, hb11⟩
      have HB11 := Lib.hid (HB10.out.trans (hb11.mono HB10.out.size))
      have hz11 := HB11.out.size
      clear hb11
      go_upto_region 23 with fail
      obtain ⟨w12, hw12⟩ : ∃ w12 : World, w12 = (w11.alloc (.cells #[.int .i64 va1.num, .int .i64 va1.gen, .int .i64 va1.epoch, .int .i64 va1.size, .int .i64 ln, .int .i64 gn, .bool va1.shut] 78)).alloc (.cells #[.int .i64 vb1.num, .int .i64 vb1.gen, .int .i64 vb1.epoch, .int .i64 vb1.size, .int .i64 ln, .int .i64 gn, .bool vb1.shut] 78) := ⟨_, rfl⟩
      have HB12 := Lib.hid (show Below w.heap.size w w12 by rw [hw12]; exact (HB11.out.alloc hz11 _).alloc (by simp; omega) _)
      have KI := Lib.hid (show w12.heap[w11.heap.size]? = some (.cells #[.int .i64 va1.num, .int .i64 va1.gen, .int .i64 va1.epoch, .int .i64 va1.size, .int .i64 ln, .int .i64 gn, .bool va1.shut] 78 (0, 0)) by rw [hw12]; exact blk_alloc (heap_new w11 _) _)
      have KJ := Lib.hid (show w12.heap[w11.heap.size + 1]? = some (.cells #[.int .i64 vb1.num, .int .i64 vb1.gen, .int .i64 vb1.epoch, .int .i64 vb1.size, .int .i64 ln, .int .i64 gn, .bool vb1.shut] 78 (0, 0)) by rw [hw12]; exact blk_new _ (by simp))
      rw [← hw12]
      clear hw12
      obtain ⟨i0, i1, i2, i3, i4, i5, i6⟩ := cells7' KI.out
      obtain ⟨j0, j1, j2, j3, j4, j5, j6⟩ := cells7' KJ.out
      have hli := blk_lt KI.out
      have hlj := blk_lt KJ.out
      go_wp2_with fail
      refine (code0 _).mono ?_
      rintro e wx ⟨rfl, rfl⟩
      go_wp2_with fail
      refine (code0 _).mono ?_
      rintro e wx ⟨rfl, rfl⟩
      go_wp2_with fail
      refine (code0 _).mono ?_
      rintro e wx ⟨rfl, rfl⟩
      go_wp2_with fail
      refine (code0 _).mono ?_
      rintro e wx ⟨rfl, rfl⟩
      go_wp2
      go_ret
      exact ⟨rfl, HB12.out⟩
end Go.Proofs.YtmaalbbclldnpaaGreatDoor
