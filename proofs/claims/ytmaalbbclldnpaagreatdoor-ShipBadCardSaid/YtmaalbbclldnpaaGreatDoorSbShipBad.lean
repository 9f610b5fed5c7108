/- Law ShipBad: the walk. -/
import Derived.Test.YtmaalbbclldnpaaGreatDoorSb17
import Derived.Test.YtmaalbbclldnpaaGreatDoorSbOpenNd
namespace Go.Proofs.YtmaalbbclldnpaaGreatDoor
open Go.RowKit
theorem VI.idx_ok {d : Dk} {v : Vl} {ns : List Nd} (h : VI d v ns) {p : Ps} (hp : p ∈ v.idx) : ∃ o n, newest ns 16 p.key = some (o, n) ∧ p = posOf o n ∧ n ∈ ns ∧ o + ndSize n.data.length ≤ v.size := by
  have h1 := ixFind_mem h.srt hp
  rw [h.idx] at h1
  cases hx : newest ns 16 p.key with
  | none => rw [hx] at h1; cases h1
  | some x =>
    obtain ⟨o, n⟩ := x
    rw [hx] at h1
    simp only [Option.map_some, Option.some.injEq] at h1
    obtain ⟨hm, _, a, b, hab, ho⟩ := newest_some hx
    refine ⟨o, n, rfl, h1.symm, hm, ?_⟩
    rw [h.size, ho, hab, ndsB_append, List.length_append]
    show 16 + (ndsB a).length + ndSize n.data.length ≤ 16 + ((ndsB a).length + (ndBytes n ++ ndsB b).length)
    rw [List.length_append, ndBytes_len]
    omega
theorem VI.idx_pos {d : Dk} {v : Vl} {ns : List Nd} (h : VI d v ns) (hs : v.size ≤ 1000000000) : ∀ p ∈ v.idx, p.len ≤ 4096 ∧ p.off ≤ 1000000000 := by
  intro p hp
  obtain ⟨o, n, _, e, hn, ho⟩ := h.idx_ok hp
  rw [e]
  have := (h.ok n hn).2.2.1
  exact ⟨this, by show o ≤ _; omega⟩
theorem file_v1 {v : Vl} (h1 : v.num = 1) (h2 : v.gen = 1) : v.file = [118, 49, 46, 49] := by
  unfold Vl.file vName
  rw [h1, h2, numN_1]
  rfl
set_option maxRecDepth 100000 in
set_option maxHeartbeats 4000000 in
theorem shipBad_walk (a : Option Addr) (len cap : Nat) (xs : List NdE) (at' bt : Nat) (w : World) (hl : xs.length = len) (hr : Reads w 4 (.slice a len cap) len (xs.flatMap NdE.cs)) (ho : ∀ x ∈ xs, NdArg w x) (h1 : at' ≤ 255) (h2 : bt ≤ 255) :
    Calls Tryz.prog 5 #[.slice a len cap, .int .u8 at', .int .u8 bt] w fun e w' => e = .returned (.bool true) ∧ Below w.heap.size w w' := by
  have HL := Lib.hid hl
  have HR := Lib.hid hr
  have HO := Lib.hid ho
  clear hl hr ho
  go_enter Tryz.func5, Tryz.ntmps5
  go_wp2_with fail
  refine (alive13 w).mono ?_
  rintro e w1 ⟨rfl, hb⟩
  have HB1 := Lib.hid hb
  have hz1 := hb.size
  clear hb
  by_cases hbig : 20 < len
  · have d1 : decide ((20 : Int) < (len : Int)) = true := by simp; omega
    go_wp2_with fail
    go_ret
    exact ⟨rfl, HB1.out⟩
  have d1 : decide ((20 : Int) < (len : Int)) = false := by simp; omega
  by_cases hb0 : bt = 0
  · have d2 : ((bt : Int) == 0) = true := by simp [hb0]
    have HB0 := Lib.hid hb0
    clear hb0
    go_wp2_with fail
    go_ret
    exact ⟨rfl, HB1.out⟩
  have d2 : ((bt : Int) == 0) = false := by simp; omega
  have HBT := Lib.hid hb0
  clear hb0
  go_upto_region 5 with fail
  go_wp2_with fail
  refine (new_ds 1048576 (by omega) w1).mono ?_
  rintro e w2 ⟨rfl, hds, hb, hlt2⟩
  have HDS := Lib.hid hds
  have HB2 := Lib.hid (HB1.out.trans (hb.mono hz1))
  have hz2 := hb.size
  clear hds hb
  obtain ⟨dp, hdp⟩ : ∃ dp, dp = w1.heap.size + 2 := ⟨_, rfl⟩
  rw [← hdp] at HDS hlt2 ⊢
  clear hdp
  obtain ⟨d0, hd0, hvi⟩ := VI.make (num := 1) (most := 1048576) (epoch := 0) (by omega) (by omega) (by omega) (by omega)
  have HMK := Lib.hid (make_ds HDS.out (fun k hk => Nat.lt_of_lt_of_le hk hz2) (by omega) 1 1048576 0 (by omega) (by omega) (by omega) (namesAt (.inl rfl)) (long_names (by omega)))
  rw [hd0] at HMK
  unfold MadeV at HMK
  have HVI := Lib.hid hvi
  clear hd0 hvi
  go_wp2_with fail
  refine (HMK.out).mono ?_
  rintro e w3 hmd
  obtain ⟨_, vp, rfl, hvt⟩ | ⟨h, _⟩ := hmd
  case inr => exact absurd rfl h
  have HB3 := Lib.hid (HB2.out.trans (hvt.2.below (B := w.heap.size) (Nat.le_trans hz1 hz2) (fun k hk => Nat.lt_of_lt_of_le hk hz1)))
  have HV3 := Lib.hid (hvt.1.less (fun k hk => Nat.lt_of_lt_of_le hk hz1) : VS w3 vp dp (fun k => k < w.heap.size) 5 d0 ⟨1, 1, 0, false, 1048576, 16, []⟩)
  clear hvt HMK
  go_wp2_with fail
  go_loopw [11] (fun i wr => ∃ (k : Nat) (d : Dk) (v : Vl) (ns : List Nd), k ≤ len ∧ i = .int .i64 k ∧ VS wr vp dp (fun b => b < w.heap.size) 5 d v ∧ VI d v ns ∧ (∀ n ∈ ns, n.gone = false) ∧ ns.length ≤ k ∧ v.size ≤ 16 + k * 400 ∧ v.num = 1 ∧ Below w.heap.size w wr) (fun i _ => len - (intOf i).toNat)
  case atStart => exact ⟨0, _, _, [], Nat.zero_le _, rfl, HV3.out, HVI.out, fun n hn => absurd hn List.not_mem_nil, Nat.le_refl _, by simp, rfl, HB3.out⟩
  case round =>
    obtain ⟨k, d, v, ns, hk, rfl, hvs, hvi, hng, hnl, hsz, hnum, hbr⟩ := hrel
    have HVS := Lib.hid hvs
    have HVI2 := Lib.hid hvi
    have HNG := Lib.hid hng
    have HNL := Lib.hid hnl
    have HSZ := Lib.hid hsz
    have HNUM := Lib.hid hnum
    have HBR := Lib.hid hbr
    have hzr := hbr.size
    have hlv : vp < wr.heap.size := by obtain ⟨_, _, h1, _⟩ := hvs; exact h1.lt
    clear hvs hvi hng hnl hsz hnum hbr
    by_cases hlt : k < len
    · obtain ⟨x, hx⟩ : ∃ x, xs[k]? = some x := ⟨_, List.getElem?_eq_getElem (by rw [HL.out]; exact hlt)⟩
      obtain ⟨b, o, c', e, hblt, r0, r1, r2, r3⟩ := nd_cells (HR.out.below HBR.out) hx (by omega)
      obtain ⟨rfl, -, rfl⟩ := sl_inj e
      have HX := Lib.hid (HO.out x (List.mem_of_getElem? hx))
      have hj0 : (0 : Int) ≤ (k : Int) := by omega
      have hj1 : (k : Int) < (len : Int) := by omega
      clear hx e
      obtain ⟨⟨key, cookie, gone, data⟩, ad, cd⟩ := x
      simp only at r0 r1 r2 r3
      by_cases h300 : 300 < data.length
      · have d3 : decide ((300 : Int) < (data.length : Int)) = true := by simp; omega
        go_wp2_with fail
        go_ret
        exact ⟨rfl, HBR.out⟩
      have d3 : decide ((300 : Int) < (data.length : Int)) = false := by simp; omega
      have HPT := Lib.hid (fun (w0 : World) (hb : Below wr.heap.size wr w0) => put_vs (HVS.out.below hb) (fun k hk => Nat.lt_of_lt_of_le hk (Nat.le_trans hzr hb.size)) ⟨key, cookie, false, data⟩ ad cd HX.out.key HX.out.cookie (show data.length ≤ 1000000000 by omega) ((HX.out.data.below HBR.out).below hb))
      unfold ndV at HPT
      simp only at HPT
      have hns : ndSize data.length ≤ 344 := by unfold ndSize padN; omega
      have HPU := Lib.hid (HVI2.out.puts ⟨key, cookie, false, data⟩ HX.out.key HX.out.cookie (by have := HSZ.out; show v.size + ndSize data.length + 56 ≤ _; omega))
      go_wp2_with fail
      refine (HPT.out _ (by repeat (first | (with_reducible exact Below.refl _ _) | (with_reducible refine Below.setCell ?_ ?_ _) | (with_reducible refine Below.alloc ?_ ?_ _) | (with_reducible refine Below.drewN ?_ _) | (with_reducible refine Below.drew ?_) | (with_reducible exact Nat.le_refl _) | (focus (simp only [World.size_alloc, World.size_setCell, World.size_drew, World.size_drewN]; omega)) | omega | exact Nat.le_refl _ | (focus (simp; done)) | (focus (simp; omega))))).mono ?_
      rintro e w5 ⟨rfl, ht⟩
      have HB5 := Lib.hid (show Below w.heap.size w w5 from (HBR.out.trans (Below.alloc (Below.refl _ _) hzr _)).trans (ht.2.below (B := w.heap.size) (by simp; omega) (fun k hk => hk)))
      have HV5 := Lib.hid ht.1
      clear ht
      go_wp2_with fail
      go_roundw
      case rel =>
        obtain ⟨p1, p2, p3, p4, p5⟩ := HPU.out
        refine ⟨k + 1, _, _, _, by omega, by go_num, HV5.out, p1, ?_, ?_, ?_, p4.trans HNUM.out, HB5.out⟩
        · intro n hn
          rcases p2 with e | e
          · rw [e] at hn; exact HNG.out n hn
          · rw [e] at hn
            rcases List.mem_append.1 hn with hn | hn
            · exact HNG.out n hn
            · obtain rfl : n = ⟨key, cookie, false, data⟩ := by simpa using hn
              rfl
        · have := HNL.out
          rcases p2 with e | e
          · rw [e]; omega
          · rw [e]; simp; omega
        · have := HSZ.out
          have h3 : (v.put d ⟨key, cookie, false, data⟩).2.2.size ≤ v.size + ndSize data.length := p3
          omega
      case measure => simp [intOf]; omega
    · have hj1 : ¬ (k : Int) < (len : Int) := by omega
      have hj2 : decide ((k : Int) < (len : Int)) = false := by simp; omega
      have hj3 : decide (k < len) = false := by simp; omega
      obtain ⟨ix, vx, hva, hvd, hvf, hvo⟩ := HVS.out
      have HVA := Lib.hid hva
      have HVD := Lib.hid hvd
      have HVF := Lib.hid hvf
      have HVO := Lib.hid hvo
      have hil : v.idx.length ≤ 20 := by have := HVI2.out.len; have := HNL.out; omega
      have HKZ := Lib.hid (keys_zero v (m := 64) (by omega) (by show v.idx.length ≤ 64; omega))
      have HKY := Lib.hid (show Calls Tryz.prog 19 #[(.pointer (some ⟨vp, 0, none⟩)), .int .u64 0, .int .i64 64] wr _ from keys_any hva 0 64)
      rw [HKZ.out] at HKY
      obtain ⟨il, hil2⟩ : ∃ il, il = v.idx.length := ⟨_, rfl⟩
      have HIL := Lib.hid hil2
      rw [← hil2] at HKY hil
      clear hva hvd hvf hvo hil2
      go_wp2_with fail
      refine (HKY.out).mono ?_
      rintro e w5 ⟨vk, rfl, hok, hb⟩
      obtain ⟨ak, ck, rfl, -⟩ := slice_of hok
      have HOK := Lib.hid hok
      have HBK := Lib.hid hb
      have HB5 := Lib.hid (HBR.out.trans (hb.mono hzr))
      have hz5 := hb.size
      clear hok hb
      by_cases h0 : il = 0
      · have d4 : ((il : Int) == 0) = true := by simp [h0]
        have H0 := Lib.hid h0
        clear h0
        go_wp2_with fail
        go_ret
        exact ⟨rfl, HB5.out⟩
      have d4 : ((il : Int) == 0) = false := by simp; omega
      obtain ⟨kk, hkk⟩ : ∃ kk, kk = at' % il := ⟨_, rfl⟩
      have hkl : kk < il := by rw [hkk]; exact Nat.mod_lt _ (by omega)
      obtain ⟨j, hj⟩ : ∃ j, j = at' % 20 := ⟨_, rfl⟩
      have hj20 : j < 20 := by omega
      have HJ := Lib.hid (show (at' : Int) % 20 = (j : Int) by omega)
      go_upto_region 19 with fail
      rw [show (at' : Int) % (il : Int) = (kk : Int) by rw [hkk]; rfl]
      clear hkk hj
      obtain ⟨p, hp⟩ : ∃ p, v.idx[kk]? = some p := ⟨_, List.getElem?_eq_getElem (by rw [← HIL.out]; exact hkl)⟩
      obtain ⟨o, n, hnw, hpo, hnm, hon⟩ := HVI2.out.idx_ok (List.mem_of_getElem? hp)
      have hx0 : UInt8.ofNat bt ≠ 0 := by
        intro e
        have := congrArg UInt8.toNat e
        simp at this
        have := HBT.out
        omega
      obtain ⟨d', hsp, htn, hto⟩ := HVI2.out.spoil hnw (HNG.out n hnm) hj20 hx0
      have hone := one_out HVI2.out.srt hp (takeOne v d') (by rw [hpo]; exact htn) (fun q hq hqk => by
        obtain ⟨o', n', h1, h2, h3, _⟩ := HVI2.out.idx_ok hq
        exact ⟨n', by rw [h2]; exact hto q.key o' n' h1 (HNG.out n' h3) hqk, by rw [h2]; rfl⟩)
      obtain ⟨hc1, hc2, hc3⟩ := hone
      have HC2 := Lib.hid hc2
      have HC3 := Lib.hid hc3
      have HLD := Lib.hid (show v.load d' 0 64 = ⟨v.idx.filterMap (takeOne v d'), 0, false, 1⟩ by
        have hk65 : v.keys 0 (((64 : Nat) : Int) + 1) = v.idx := keys_zero v (by omega) (by rw [← HIL.out]; show il ≤ 65; omega)
        unfold Vl.load
        rw [hk65, List.take_of_length_le (by rw [← HIL.out]; omega), hc1, List.getElem?_eq_none (by rw [← HIL.out]; omega), show decide (64 < v.idx.length) = false by rw [← HIL.out]; simp; omega])
      have hpf : v.file = [118, 49, 46, 49] := file_v1 HNUM.out HVI2.out.gen
      have hok5 := HOK.out
      rw [HIL.out] at hok5
      obtain ⟨g, hg⟩ : ∃ g, ak = some ⟨g, 0, none⟩ := by
        rcases hok5.2 with ⟨_, h0⟩ | ⟨g, cap, cur, e, _⟩
        · rw [← HIL.out] at h0; omega
        · exact ⟨g, (sl_inj e).1⟩
      subst hg
      obtain ⟨c0, c1, c2, c3, c4⟩ := row_at hok5 hp
      have hgl := hok5.lt g rfl
      have HGL := Lib.hid hgl
      obtain ⟨Q, hQ⟩ : ∃ Q : Nat → Prop, Q = fun k => (k < w.heap.size ∨ VFoot vp ix vx k) ∨ (wr.heap.size ≤ k ∧ k < w5.heap.size) := ⟨_, rfl⟩
      have HQ := Lib.hid hQ
      have hpo2 : p.off = o := by rw [hpo]; rfl
      have hospace := HSZ.out
      have HSPC := Lib.hid (show Calls Tryz.prog 20 #[(.pointer (some ⟨dp, 0, none⟩)), .string ⟨#[118, 49, 46, 49]⟩, .int .i64 ((p.off : Int) + (at' : Int) % 20), .int .u8 bt] w5 fun e w' => e = .returned .nilIface ∧ DTo w5 w' dp Q 5 d' by
        have hd5 : DS w5 dp Q 5 d := HVD.out.later HBK.out (fun k hk => by rw [hQ] at hk; exact hk.imp id (fun h => h.1))
        have h3 := spoil_ds hd5 (fun k hk => by
          rw [hQ] at hk
          rcases hk with (hk | hk) | hk
          · omega
          · have := (HVF.out k hk).2; omega
          · exact hk.2) v.file ((o + j : Nat) : Int) (UInt8.ofNat bt) HVO.out.long.1
        rw [hsp] at h3
        have e1 : ((o + j : Nat) : Int) = (p.off : Int) + (at' : Int) % 20 := by have := HJ.out; rw [hpo2]; omega
        have e2 : ((UInt8.ofNat bt).toNat : Int) = (bt : Int) := by simp; omega
        rw [e1, e2, hpf] at h3
        exact h3)
      have HIP := Lib.hid (HVI2.out.idx_pos (by have := HSZ.out; omega))
      have HPK := Lib.hid hp
      have hpob := (HIP.out p (List.mem_of_getElem? hp)).2
      obtain ⟨pk, po, pl, pc, pg⟩ := p
      simp only at hpob c0 c1 c2 c3 c4 HSPC HC3
      clear hnw hpo hnm hon hx0 hsp htn hto hc1 hc2 hc3 hpf hok5 hQ hpo2 hospace hp
      go_wp2_with fail
      refine HSPC.out.mono ?_
      rintro e w6 ⟨rfl, ht⟩
      have HD6 := Lib.hid (show DS w6 dp (fun k => k < w.heap.size ∨ VFoot vp ix vx k) 5 d' from ht.1.less (fun k hk => by rw [HQ.out]; exact .inl hk))
      have HV6 := Lib.hid (show VolAt w6 vp dp ix vx v from (HVA.out.below HBK.out).keeps ht.2 (fun k hk e => e (by rw [HQ.out]; exact .inl (.inr hk))))
      have HOK6 := Lib.hid (ht.2.row HOK.out (fun k hk => by rw [HQ.out]; exact .inr (HOK.out.lt k hk)))
      have HB6 := Lib.hid (HB5.out.trans (ht.2.below (B := w.heap.size) (Nat.le_trans hzr hz5) (fun k hk => by rw [HQ.out]; exact .inl (.inl hk))))
      have hz6 := HB6.out.size
      have hg6 : g < w6.heap.size := Nat.lt_of_lt_of_le hgl.2 ht.2.size
      clear ht c0 c1 c2 c3 c4
      have HTK := Lib.hid (show Calls Tryz.prog 12 #[(.pointer (some ⟨vp, 0, none⟩)), .int .u64 0, .int .i64 64] w6 (TakeTo w6 ⟨v.idx.filterMap (takeOne v d'), 0, false, 1⟩) by
        have := take_any HV6.out HD6.out HVO.out.names HVO.out.long.1 HIP.out 0 64 (by omega) (by omega)
        rw [HLD.out] at this
        exact this)
      go_wp2_with fail
      refine HTK.out.mono ?_
      rintro e w7 ⟨vl, ys, rfl, hys, hnr, hb⟩
      obtain ⟨nl, hnl⟩ : ∃ nl, nl = ys.length := ⟨_, rfl⟩
      have hnl2 : nl + 1 = il := by
        have h3 := congrArg List.length hys
        rw [List.length_map] at h3
        have := HC2.out
        rw [hnl, h3, this, ← HIL.out]
        omega
      have hrow := hnr.row
      rw [← hnl] at hrow
      obtain ⟨al, cl, rfl, -⟩ := slice_of hrow
      have HNL2 := Lib.hid hnl
      have HYS := Lib.hid hys
      have HRW := Lib.hid hrow
      have HOK7 := Lib.hid (ownsRow_below HOK6.out hb)
      have HB7 := Lib.hid (HB6.out.trans (hb.mono hz6))
      have hz7 := hb.size
      clear hnl hys hnr hrow hb
      go_upto_region 21 with fail
      obtain ⟨w8, hw8⟩ : ∃ w8 : World, w8 = w7.alloc (.cells #[.slice al nl cl, .int .u64 0, .bool false, .int .i64 1] 35) := ⟨_, rfl⟩
      have hb8 : Below w7.heap.size w7 w8 := by rw [hw8]; exact (by repeat (first | (with_reducible exact Below.refl _ _) | (with_reducible refine Below.setCell ?_ ?_ _) | (with_reducible refine Below.alloc ?_ ?_ _) | (with_reducible refine Below.drewN ?_ _) | (with_reducible refine Below.drew ?_) | (with_reducible exact Nat.le_refl _) | (focus (simp only [World.size_alloc, World.size_setCell, World.size_drew, World.size_drewN]; omega)) | omega | exact Nat.le_refl _ | (focus (simp; done)) | (focus (simp; omega))))
      have KL8 := Lib.hid (show w8.heap[w7.heap.size]? = some (.cells #[.slice al nl cl, .int .u64 0, .bool false, .int .i64 1] 35 (0, 0)) by rw [hw8]; exact heap_new w7 _)
      have HRW8 := Lib.hid (ownsRow_below HRW.out hb8)
      have HOK8 := Lib.hid (ownsRow_below HOK7.out hb8)
      have HB8 := Lib.hid (show Below w.heap.size w w8 by rw [hw8]; exact HB7.out.alloc (Nat.le_trans hz6 hz7) _)
      rw [← hw8]
      clear hw8 hb8
      obtain ⟨l0, l1, l2, l3⟩ := ncells KL8.out
      have hll := blk_lt KL8.out
      have hne1 : ((nl : Int) != (il : Int) - 1) = false := by simp; omega
      have hne2 : ((nl : Int) == (il : Int) - 1) = true := by simp; omega
      go_wp2_with fail
      refine (code0 _).mono ?_
      rintro e wx ⟨rfl, rfl⟩
      go_wp2_with fail
      go_loopw [17] (fun i wq => ∃ q : Nat, q ≤ nl ∧ i = .int .i64 q ∧ Below w8.heap.size w8 wq) (fun i _ => nl - (intOf i).toNat)
      case atStart => exact ⟨0, Nat.zero_le _, rfl, Below.refl _ _⟩
      case round =>
        obtain ⟨q, hq, rfl, hbq⟩ := hrel
        have HBQ := Lib.hid hbq
        have KLQ := Lib.hid (blk_below' KL8.out hbq)
        have hzq := hbq.size
        clear l0 l1 l2 l3
        obtain ⟨l0, l1, l2, l3⟩ := ncells KLQ.out
        have hllq := blk_lt KLQ.out
        by_cases hqn : q < nl
        · obtain ⟨y, hy⟩ : ∃ y, ys[q]? = some y := ⟨_, List.getElem?_eq_getElem (by rw [← HNL2.out]; exact hqn)⟩
          have hrq := ownsRow_below HRW8.out hbq
          obtain ⟨g2, hg2⟩ : ∃ g2, al = some ⟨g2, 0, none⟩ := by
            rcases hrq.2 with ⟨_, h0⟩ | ⟨g2, cap, cur, e, _⟩
            · omega
            · exact ⟨g2, (sl_inj e).1⟩
          subst hg2
          have y0 : wr.cell? ⟨g2, q * 4 + 0, none⟩ = some (.int .u64 y.n.key) := ownsRow_cell NdE.cs 4 NdE.cs_len ys hrq q 0 y hy (by omega)
          rw [Nat.add_zero] at y0
          have hokq := ownsRow_below HOK8.out hbq
          rw [HIL.out] at hokq
          obtain ⟨c0, c1, c2, c3, c4⟩ := row_at hokq HPK.out
          have hyn : y.n.key ≠ pk := HC3.out y.n (by rw [← HYS.out]; exact List.mem_map.2 ⟨y, List.mem_of_getElem? hy, rfl⟩)
          have hyk : ((y.n.key : Int) == (pk : Int)) = false := by simp; omega
          have hj0' : (0 : Int) ≤ (q : Int) := by omega
          have hj1' : (q : Int) < (nl : Int) := by omega
          have hj2' : (0 : Int) ≤ (kk : Int) := by omega
          have hj3' : (kk : Int) < (il : Int) := by omega
          simp only at c0
          clear hrq hokq hy hyn c1 c2 c3 c4
          go_upto_region 26 with fail
          refine wp_region_mask0 (fun w1 => w1 = _) [1, 5, 10] [0, 1, 0, 7, 15, 31, 0, 0, 192, 448, 960, 2047] (.op 0 0 (.op 1 2 (.op 2 0 (.op 3 0 (.op 4 0 (.op 5 2 (.op 6 0 (.op 7 0 (.op 8 0 (.op 9 0 (.op 10 2 (.op 11 0 .nil)))))))))))) (by kernel_rfl) (by kernel_rfl) rfl (by kernel_rfl) (by kernel_rfl) rfl ?_
          refine stepM0 rfl rfl (fun K hK => ?_)
          go_simp
          refine hK _ ?_
          clear hK K
          refine stepM2 rfl rfl ?_ (fun w1 hS => ?_) (fun K hK => ?_)
          rotate_left
          focus (obtain rfl : w1 = _ := hS; go_simp; rfl)
          go_simp
          refine hK _ ?_
          clear hK K
          refine stepM0 rfl rfl (fun K hK => ?_)
          go_simp
          refine hK _ ?_
          clear hK K
          refine stepM0 rfl rfl (fun K hK => ?_)
          go_simp
          refine hK _ ?_
          clear hK K
          refine stepM0 rfl rfl (fun K hK => ?_)
          go_simp
          refine hK _ ?_
          clear hK K
          refine stepM2 rfl rfl ?_ (fun w1 hS => ?_) (fun K hK => ?_)
          rotate_left
          focus (obtain rfl : w1 = _ := hS; go_simp; rfl)
          go_simp
          refine hK _ ?_
          clear hK K
          refine stepM0 rfl rfl (fun K hK => ?_)
          go_simp
          refine hK _ ?_
          clear hK K
          refine stepM0 rfl rfl (fun K hK => ?_)
          go_simp
          refine hK _ ?_
          clear hK K
          refine stepM0 rfl rfl (fun K hK => ?_)
          go_simp
          refine hK _ ?_
          clear hK K
          refine stepM0 rfl rfl (fun K hK => ?_)
          go_simp
          refine hK _ ?_
          clear hK K
          refine stepM2 rfl rfl ?_ (fun w1 hS => ?_) (fun K hK => ?_)
          rotate_left
          focus (obtain rfl : w1 = _ := hS; go_simp; rfl)
          go_simp
          refine hK _ ?_
          clear hK K
          refine stepM0 rfl rfl (fun K hK => ?_)
          go_simp
          refine hK _ ?_
          clear hK K
          try refine stepMnil0 ?_
          go_wp2_with fail
          go_roundw
          case rel => exact ⟨q + 1, by omega, by go_num, Below.drew HBQ.out⟩
          case measure => simp [intOf]; omega
        · have hj1' : ¬ (q : Int) < (nl : Int) := by omega
          have hj2' : decide ((q : Int) < (nl : Int)) = false := by simp; omega
          have hj3' : decide (q < nl) = false := by simp; omega
          go_wp2_with fail
          go_ret
          exact ⟨rfl, HB8.out.trans (HBQ.out.mono HB8.out.size)⟩
end Go.Proofs.YtmaalbbclldnpaaGreatDoor
