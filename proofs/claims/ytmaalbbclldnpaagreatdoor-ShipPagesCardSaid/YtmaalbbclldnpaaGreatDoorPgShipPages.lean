/- Law ShipPages: the walk. -/
import Derived.Test.YtmaalbbclldnpaaGreatDoorPgShipMadeL
import Derived.Test.YtmaalbbclldnpaaGreatDoorPgShipBad
namespace Go.Proofs.YtmaalbbclldnpaaGreatDoor
open Go.RowKit
theorem VI.nd_at {d : Dk} {v : Vl} {ns : List Nd} (h : VI d v ns) {K s q : Nat} {n : Nd} (hq : (((v.idx.drop K).take s).map (ndAt ns))[q]? = some n) : ∃ p, v.idx[K + q]? = some p ∧ n.key = p.key ∧ n.gone = p.gone := by
  rw [List.getElem?_map] at hq
  cases hp : ((v.idx.drop K).take s)[q]? with
  | none => rw [hp] at hq; cases hq
  | some p =>
    rw [hp] at hq
    simp only [Option.map_some, Option.some.injEq] at hq
    have hm := List.mem_of_getElem? hp
    obtain ⟨o, n', _, _, _, h1, h2, h3⟩ := h.pos (List.mem_of_mem_drop (List.mem_of_mem_take hm))
    refine ⟨p, ?_, ?_, ?_⟩
    · rw [List.getElem?_take] at hp
      split at hp
      · rw [List.getElem?_drop] at hp
        exact hp
      · cases hp
    · rw [← hq, h3, h1]
    · rw [← hq, h3, h2]
      rfl
theorem ixAt_self {l : List Ps} {i : Nat} {p : Ps} (hs : IxS l) (h : l[i]? = some p) : ixAt l p.key = i := by
  obtain ⟨hi, hp⟩ := List.getElem?_eq_some_iff.1 h
  refine ixAt_eq (Nat.le_of_lt hi) (fun j q hj hq => ?_) (fun q hq => by rw [h] at hq; cases hq; exact Nat.le_refl _)
  obtain ⟨hj2, hq2⟩ := List.getElem?_eq_some_iff.1 hq
  have := List.pairwise_iff_getElem.1 hs j i hj2 hi hj
  rw [hq2, hp] at this
  exact this
set_option maxRecDepth 100000 in
set_option maxHeartbeats 8000000 in
theorem shipPages_walk (a : Option Addr) (len cap : Nat) (l : List ActE) (n1 n2 : Nat) (w : World) (hl : l.length = len) (hr : Reads w 6 (.slice a len cap) len (l.flatMap ActE.cs)) (ho : ∀ x ∈ l, ActArg w x) (h1 : n1 ≤ 255) (h2 : n2 ≤ 255) :
    Calls Tryz.prog 4 #[.slice a len cap, .int .u8 n1, .int .u8 n2] w fun e w' => e = .returned (.bool true) ∧ Below w.heap.size w w' := by
  have HL := Lib.hid hl
  have HR := Lib.hid hr
  have HO := Lib.hid ho
  clear hl hr ho
  go_enter Tryz.func4, Tryz.ntmps4
  go_wp2_with fail
  refine (alive13 w).mono ?_
  rintro e w1 ⟨rfl, hb⟩
  have HB1 := Lib.hid hb
  have hz1 := hb.size
  clear hb
  go_wp2_with fail
  refine (far9_any a len cap l w1 HL.out (HR.out.below HB1.out)).mono ?_
  rintro e wx ⟨rfl, rfl⟩
  cases hf : far9 l
  case true =>
    go_wp2_with fail
    go_ret
    exact ⟨rfl, HB1.out⟩
  have HF9 := Lib.hid (far9_no hf)
  clear hf
  have h60 : len ≤ 60 := by rw [← HL.out]; exact HF9.out.1
  have HMD := Lib.hid (show Calls Tryz.prog 11 #[.int .i64 1, .int .i64 1048576, .slice a len cap] w1 (MadeL w1 1 1048576 l) from made_any 1 1048576 (.inl rfl) (by omega) (by omega) a len cap l w1 HL.out (HR.out.below HB1.out) (fun x hx => (HO.out x hx).below HB1.out) h60 HF9.out.2)
  go_wp2_with fail
  refine HMD.out.mono ?_
  rintro e w2 ⟨vp, dp, F, val, d, v, ns, rfl, hvf, hfb, hvi, hrv, hac, hsz, hns, hb⟩
  have HVI := Lib.hid hvi
  have HB2 := Lib.hid (HB1.out.trans (hb.mono hz1))
  obtain ⟨al, cl, ad, cd, xs, rfl, hat⟩ := hrv
  obtain ⟨N, hN⟩ : ∃ N, N = v.idx.length := ⟨_, rfl⟩
  have HN := Lib.hid hN
  have hN60 : N ≤ 60 := by
    have := hvi.len
    have := HL.out
    omega
  have hv9 : v.size ≤ 1000000000 := by have := HL.out; omega
  have HV9 := Lib.hid hv9
  have HRL := Lib.hid (show Reads w2 5 (.slice al N cl) N (v.idx.flatMap psC) by rw [hN]; exact hat.rl)
  have HBL := Lib.hid (show ∀ ad, al = some ad → ad.block < w2.heap.size from fun ad e => (hat.bl ad e).2)
  have HVF := Lib.hid hvf
  have hlv : vp < w2.heap.size := by
    obtain ⟨ix, vx, _, _, h1, _⟩ := hvf
    exact h1.lt
  obtain ⟨i0, i1, i2, i3, i4, i6n, hrvv⟩ : ∃ (i0 i1 i2 i3 : Int) (i4 : Bool) (i6n : Nat), rvV (Rv.of v ns) al cl ad cd = .agg #[.int .i64 i0, .int .i64 i1, .int .i64 i2, .int .i64 i3, .bool i4, .slice al N cl, .slice ad i6n cd] := ⟨_, _, _, _, _, _, by rw [hN]; rfl⟩
  rw [hrvv]
  have hz2 := hb.size
  clear hrvv hvf hfb hvi hac hsz hns hb hat hN hv9
  go_upto_region 6 with fail
  obtain ⟨w3, hw3⟩ : ∃ w3 : World, w3 = w2.alloc (.cells #[.int .i64 i0, .int .i64 i1, .int .i64 i2, .int .i64 i3, .bool i4, .slice al N cl, .slice ad i6n cd] 30) := ⟨_, rfl⟩
  have HB23 := Lib.hid (show Below w2.heap.size w2 w3 by rw [hw3]; exact (by repeat (first | (with_reducible exact Below.refl _ _) | (with_reducible refine Below.setCell ?_ ?_ _) | (with_reducible refine Below.alloc ?_ ?_ _) | (with_reducible refine Below.drewN ?_ _) | (with_reducible refine Below.drew ?_) | (with_reducible exact Nat.le_refl _) | (focus (simp only [World.size_alloc, World.size_setCell, World.size_drew, World.size_drewN]; omega)) | omega | exact Nat.le_refl _ | (focus (simp; done)) | (focus (simp; omega)))))
  have KM3 := Lib.hid (show w3.heap[w2.heap.size]? = some (.cells #[.int .i64 i0, .int .i64 i1, .int .i64 i2, .int .i64 i3, .bool i4, .slice al N cl, .slice ad i6n cd] 30 (0, 0)) by rw [hw3]; exact heap_new w2 _)
  rw [← hw3]
  clear hw3
  obtain ⟨MB, hMB⟩ : ∃ MB, MB = w2.heap.size := ⟨_, rfl⟩
  rw [← hMB] at KM3 ⊢
  have HMB := Lib.hid hMB
  clear hMB
  go_upto_region 10 with fail
  obtain ⟨s0, hs0, hs0a, hs0b⟩ : ∃ s0 : Nat, (1 + (n1 : Int) % 64) = (s0 : Int) ∧ 1 ≤ s0 ∧ s0 ≤ 64 := ⟨1 + n1 % 64, by omega, by omega, by omega⟩
  obtain ⟨s1, hs1, hs1a, hs1b⟩ : ∃ s1 : Nat, (1 + (n2 : Int) % 64) = (s1 : Int) ∧ 1 ≤ s1 ∧ s1 ≤ 64 := ⟨1 + n2 % 64, by omega, by omega, by omega⟩
  rw [hs0, hs1]
  clear hs0 hs1
  obtain ⟨w4, hw4⟩ : ∃ w4 : World, w4 = (w3.alloc (.cells #[.int .i64 s0, .int .i64 s1] 3)).alloc (.cells #[.int .i64 0, .int .i64 0] 51) := ⟨_, rfl⟩
  have HB34 := Lib.hid (show Below w3.heap.size w3 w4 by rw [hw4]; exact (by repeat (first | (with_reducible exact Below.refl _ _) | (with_reducible refine Below.setCell ?_ ?_ _) | (with_reducible refine Below.alloc ?_ ?_ _) | (with_reducible refine Below.drewN ?_ _) | (with_reducible refine Below.drew ?_) | (with_reducible exact Nat.le_refl _) | (focus (simp only [World.size_alloc, World.size_setCell, World.size_drew, World.size_drewN]; omega)) | omega | exact Nat.le_refl _ | (focus (simp; done)) | (focus (simp; omega)))))
  have KS4 := Lib.hid (show w4.heap[w3.heap.size]? = some (.cells #[.int .i64 s0, .int .i64 s1] 3 (0, 0)) by rw [hw4]; exact blk_alloc (heap_new w3 _) _)
  have KC4 := Lib.hid (show w4.heap[w3.heap.size + 1]? = some (.cells #[.int .i64 0, .int .i64 0] 51 (0, 0)) by rw [hw4]; exact blk_new _ (by simp))
  have KM4 := Lib.hid (blk_below' KM3.out HB34.out)
  rw [← hw4]
  clear hw4
  obtain ⟨SB, hSB⟩ : ∃ SB, SB = w3.heap.size := ⟨_, rfl⟩
  rw [← hSB] at KS4 KC4 ⊢
  have hm3 : MB < SB := by rw [hSB]; exact blk_lt KM3.out
  have HBM := Lib.hid (show ∀ ad, al = some ad → ad.block < MB from fun ad e => by rw [HMB.out]; exact HBL.out ad e)
  have HB24 := Lib.hid (HB23.out.trans (HB34.out.mono HB23.out.size))
  have hz4 : SB + 1 < w4.heap.size := blk_lt KC4.out
  clear hSB
  have HVF4 := Lib.hid (show VF w4 vp dp F 245 d v from HVF.out.keeps (R := fun k => w2.heap.size ≤ k) (Keeps.of_below HB24.out fun k _ hk => by omega) (fun k hf e => by have := HVF.out.lt k hf; omega))
  have HRL4 := Lib.hid (HRL.out.below HB24.out)
  have HTK := Lib.hid (fun (w0 : World) (hk : Keeps (fun j => j = SB + 1) w4 w0) (K s fr : Nat) (hK : ixAt v.idx fr = K) (h1 : 1 ≤ s) (h2 : s ≤ 64) => show Calls Tryz.prog 12 #[(.pointer (some ⟨vp, 0, none⟩)), .int .u64 fr, .int .i64 s] w0 (TakeTo w0 ⟨((v.idx.drop K).take s).map (ndAt ns), (match v.idx[K + s]? with | some p => p.key | none => 0), decide (K + s < N), 0⟩) by
    have hlt := HVF.out.lt
    obtain ⟨ix, vx, P, g1, g2, g4⟩ := (HVF4.out.keeps hk fun j hj e => by have := hlt j hj; have := HMB.out; omega).at'
    have g9 := take_any g1 g2 g4.names g4.long.1 (HVI.out.idx_pos HV9.out) fr s h1 h2
    rw [HVI.out.load fr s] at g9
    unfold Rv.load at g9
    rw [show (Rv.of v ns).l = v.idx from rfl, show (Rv.of v ns).d = ns from rfl, hK, ← HN.out] at g9
    exact g9)
  have HSZ := Lib.hid (fun (w0 : World) (hk : Keeps (fun j => j = SB + 1) w4 w0) (k : Nat) (hk2 : k < 2) => show ∃ s : Nat, w0.cell? ⟨SB, k, none⟩ = some (.int .i64 s) ∧ s = (if k = 0 then s0 else s1) by
    have h9 := (hk.block SB (blk_lt KS4.out) (by omega)).trans KS4.out
    refine ⟨_, ?_, rfl⟩
    match k, hk2 with
    | 0, _ => rw [cell_of_row w0 SB _ _ _ _ h9]; rfl
    | 1, _ => rw [cell_of_row w0 SB _ _ _ _ h9]; rfl)
  go_wp2_with fail
  go_loopw [12] (fun i wr => ∃ (k : Nat) (c0 c1 : Int), k ≤ 2 ∧ i = .int .i64 k ∧ Keeps (fun j => j = SB + 1) w4 wr ∧ wr.heap[SB + 1]? = some (.cells #[.int .i64 c0, .int .i64 c1] 51 (0, 0)) ∧ (1 ≤ k → c0 = N) ∧ (2 ≤ k → c1 = N)) (fun i _ => 2 - (intOf i).toNat)
  case atStart => exact ⟨0, 0, 0, by omega, rfl, Keeps.refl _ _, KC4.out, fun e => by omega, fun e => by omega⟩
  case round =>
    obtain ⟨k, c0, c1, hk, rfl, hkr, kcr, hc0, hc1⟩ := hrel
    have HKR := Lib.hid hkr
    have KCR := Lib.hid kcr
    have HC0 := Lib.hid hc0
    have HC1 := Lib.hid hc1
    have hzr := hkr.size
    clear hkr kcr hc0 hc1
    by_cases hlt : k < 2
    · obtain ⟨s, hs, hs3⟩ : ∃ s : Nat, s = (if k = 0 then s0 else s1) ∧ 1 ≤ s ∧ s ≤ 64 := ⟨_, rfl, by split <;> omega, by split <;> omega⟩
      obtain ⟨hs3, hs4⟩ := hs3
      have HSK := Lib.hid (fun (w0 : World) (hk : Keeps (fun j => j = SB + 1) w4 w0) => show w0.cell? ⟨SB, k, none⟩ = some (.int .i64 s) by
        obtain ⟨s', h1, h2⟩ := HSZ.out w0 hk k hlt
        rw [h1, h2, hs])
      clear hs
      have hj0 : (0 : Int) ≤ (k : Int) := by omega
      have hj1 : (k : Int) < 2 := by omega
      obtain ⟨wo, rfl⟩ : ∃ wo : World, wo = wr := ⟨_, rfl⟩
      go_wp2_with fail
      go_loopw [13, 14, 15] (fun f la i wr => ∃ (r K fk : Nat), f = .int .u64 fk ∧ la = .int .i64 ((K : Int) - 1) ∧ i = .int .i64 r ∧ K = r * s ∧ K ≤ N ∧ ixAt v.idx fk = K ∧ Below wo.heap.size wo wr) (fun _ _ i _ => 70 - (intOf i).toNat)
      case atStart => exact ⟨0, 0, 0, rfl, by simp, rfl, by omega, Nat.zero_le _, ixAt_zero _, Below.refl _ _⟩
      case round =>
        obtain ⟨r, K, fk, rfl, rfl, rfl, hKr, hKN, hix, hbq⟩ := hrel
        have hr60 : r ≤ 60 := Nat.le_trans (Nat.le_mul_of_pos_right r hs3) (by omega)
        have HKR2 := Lib.hid hKr
        have HIX := Lib.hid hix
        have HBQ := Lib.hid hbq
        have HKQ := Lib.hid (show Keeps (fun j => j = SB + 1) w4 wr from HKR.out.trans (Keeps.of_below hbq fun j hj _ => hj) (fun _ _ e => e))
        have hzq := hbq.size
        clear hKr hix hbq
        have hr70 : (r : Int) < 70 := by omega
        have hsc := HSK.out wr HKQ.out
        have hqs := blk_lt ((HKQ.out.block SB (blk_lt KS4.out) (by omega)).trans KS4.out)
        obtain ⟨nx, hnx⟩ : ∃ nx : Nat, nx = (match v.idx[K + s]? with | some p => p.key | none => 0) := ⟨_, rfl⟩
        obtain ⟨mo, hmo⟩ : ∃ mo : Bool, mo = decide (K + s < N) := ⟨_, rfl⟩
        have HT9 := Lib.hid (HTK.out wr HKQ.out K s fk HIX.out hs3 hs4)
        rw [← hnx, ← hmo] at HT9
        have HNX := Lib.hid hnx
        have HMO := Lib.hid hmo
        clear hnx hmo
        obtain ⟨wm, rfl⟩ : ∃ wm : World, wm = wr := ⟨_, rfl⟩
        go_wp2_with fail
        refine HT9.out.mono ?_
        rintro e w5 ⟨vl, ys, rfl, hys, hnr, hb5⟩
        obtain ⟨nl, hnl⟩ : ∃ nl, nl = ys.length := ⟨_, rfl⟩
        have hnl2 : nl = min s (N - K) := by
          have h3 := congrArg List.length hys
          rw [List.length_map] at h3
          simp only [List.length_map, List.length_take, List.length_drop] at h3
          rw [hnl, h3, ← HN.out]
        have hrow := hnr.row
        rw [← hnl] at hrow
        obtain ⟨xl, xc, rfl, -⟩ := slice_of hrow
        have HNL := Lib.hid hnl
        have HNL2 := Lib.hid hnl2
        have HYS := Lib.hid hys
        have HRW := Lib.hid hrow
        have hz5 := hb5.size
        have hnls : nl ≤ s := by omega
        have hnlN : K + nl ≤ N := by omega
        have KM5 := Lib.hid (blk_below' (show wm.heap[MB]? = _ from (HKQ.out.block MB (blk_lt KM4.out) (by omega)).trans KM4.out) hb5)
        have HRL5 := Lib.hid (show Reads w5 5 (.slice al N cl) N (v.idx.flatMap psC) from (HRL4.out.keepsN (by omega) HKQ.out fun ad e => ⟨by have := HBM.out ad e; omega, by have := HBM.out ad e; omega⟩).below hb5)
        have HB5 := Lib.hid hb5
        have hqs5 := Nat.lt_of_lt_of_le hqs hz5
        have hsc5 := ((bcell hb5).1 SB k hqs).trans hsc
        clear hnl hnl2 hys hnr hrow hb5 hsc HT9
        simp only
        go_upto_region 19 with fail
        obtain ⟨w6, hw6⟩ : ∃ w6 : World, w6 = w5.alloc (.cells #[.slice xl nl xc, .int .u64 nx, .bool mo, .int .i64 0] 35) := ⟨_, rfl⟩
        have hb6 : Below w5.heap.size w5 w6 := by rw [hw6]; exact (by repeat (first | (with_reducible exact Below.refl _ _) | (with_reducible refine Below.setCell ?_ ?_ _) | (with_reducible refine Below.alloc ?_ ?_ _) | (with_reducible refine Below.drewN ?_ _) | (with_reducible refine Below.drew ?_) | (with_reducible exact Nat.le_refl _) | (focus (simp only [World.size_alloc, World.size_setCell, World.size_drew, World.size_drewN]; omega)) | omega | exact Nat.le_refl _ | (focus (simp; done)) | (focus (simp; omega))))
        have HB6 := Lib.hid hb6
        have KL6 := Lib.hid (show w6.heap[w5.heap.size]? = some (.cells #[.slice xl nl xc, .int .u64 nx, .bool mo, .int .i64 0] 35 (0, 0)) by rw [hw6]; exact heap_new w5 _)
        have HRW6 := Lib.hid (ownsRow_below HRW.out hb6)
        have KM6 := Lib.hid (blk_below' KM5.out hb6)
        have HRL6 := Lib.hid (HRL5.out.below hb6)
        have hsc6 := ((bcell hb6).1 SB k hqs5).trans hsc5
        have hqs6 := Nat.lt_of_lt_of_le hqs5 hb6.size
        rw [← hw6]
        clear hw6 hb6 hsc5
        obtain ⟨LB, hLB⟩ : ∃ LB, LB = w5.heap.size := ⟨_, rfl⟩
        rw [← hLB] at KL6 ⊢
        clear hLB
        obtain ⟨l0, l1, l2, l3⟩ := ncells KL6.out
        have hll := blk_lt KL6.out
        have d1 : decide ((s : Int) < (nl : Int)) = false := by simp; omega
        have d2 : decide (s < nl) = false := by simp; omega
        obtain ⟨SS, HSD⟩ : ∃ SS : World → Prop, Hid (SS = fun w' => w' = w6.drew ∧ True) := ⟨_, Lib.hid rfl⟩
        refine wp_region_mask0 SS [5, 10, 15] [0, 1, 3, 7, 15, 31, 63, 15, 15, 399, 911, 2047, 4095, 8191, 16383, 32767, 65535, 131071] (.op 0 0 (.op 1 1 (.op 2 0 (.op 3 0 (.op 4 0 (.op 5 2 (.op 6 0 (.op 7 0 (.op 8 0 (.op 9 0 (.op 10 2 (.op 11 0 (.op 12 0 (.op 13 0 (.op 14 0 (.op 15 2 (.op 16 0 (.op 17 0 .nil)))))))))))))))))) (by kernel_rfl) (by kernel_rfl) rfl (by kernel_rfl) (by kernel_rfl) ?_ ?_
        focus (rw [HSD.out]; exact ⟨rfl, trivial⟩)
        refine stepM0 rfl rfl (fun K hK => ?_)
        go_simp
        refine hK _ ?_
        clear hK K
        refine stepM1S rfl rfl (fun K hK => ?_)
        (go_wp2_with fail; refine (code0 _).mono ?_; rintro e wx ⟨rfl, rfl⟩; go_wp2)
        refine ⟨by rw [HSD.out]; exact (⟨rfl, trivial⟩), ?_⟩
        refine stepM0 rfl rfl (fun K hK => ?_)
        go_simp
        refine hK _ ?_
        clear hK K
        refine stepM0 rfl rfl (fun K hK => ?_)
        go_simp
        refine hK _ ?_
        clear hK K
        refine stepM0 rfl rfl (fun K hK => ?_)
        go_simp
        refine hK _ ?_
        clear hK K
        refine stepM2 rfl rfl ?_ (fun w1 hS => ?_) (fun K hK => ?_)
        rotate_left
        focus (rw [HSD.out] at hS; obtain ⟨rfl, -⟩ := hS; go_simp; rfl)
        go_simp
        refine hK _ ?_
        clear hK K
        refine stepM0 rfl rfl (fun K hK => ?_)
        go_simp
        refine hK _ ?_
        clear hK K
        refine stepM0 rfl rfl (fun K hK => ?_)
        go_simp
        refine hK _ ?_
        clear hK K
        refine stepM0 rfl rfl (fun K hK => ?_)
        go_simp
        refine hK _ ?_
        clear hK K
        refine stepM0 rfl rfl (fun K hK => ?_)
        go_simp
        refine hK _ ?_
        clear hK K
        refine stepM2 rfl rfl ?_ (fun w1 hS => ?_) (fun K hK => ?_)
        rotate_left
        focus (rw [HSD.out] at hS; obtain ⟨rfl, -⟩ := hS; go_simp; rfl)
        go_simp
        refine hK _ ?_
        clear hK K
        refine stepM0 rfl rfl (fun K hK => ?_)
        go_simp
        refine hK _ ?_
        clear hK K
        refine stepM0 rfl rfl (fun K hK => ?_)
        go_simp
        refine hK _ ?_
        clear hK K
        refine stepM0 rfl rfl (fun K hK => ?_)
        go_simp
        refine hK _ ?_
        clear hK K
        refine stepM0 rfl rfl (fun K hK => ?_)
        go_simp
        refine hK _ ?_
        clear hK K
        refine stepM2 rfl rfl ?_ (fun w1 hS => ?_) (fun K hK => ?_)
        rotate_left
        focus (rw [HSD.out] at hS; obtain ⟨rfl, -⟩ := hS; go_simp; rfl)
        go_simp
        refine hK _ ?_
        clear hK K
        refine stepM0 rfl rfl (fun K hK => ?_)
        go_simp
        refine hK _ ?_
        clear hK K
        refine stepM0 rfl rfl (fun K hK => ?_)
        go_simp
        refine hK _ ?_
        clear hK K
        try refine stepMnil0 ?_
        clear HSD SS
        obtain ⟨w7, hw7⟩ : ∃ w7 : World, w7 = w6.drew := ⟨_, rfl⟩
        have hb7 : Below w6.heap.size w6 w7 := by rw [hw7]; exact Below.drew (Below.refl _ _)
        have KL7 := Lib.hid (blk_below' KL6.out hb7)
        have KM7 := Lib.hid (blk_below' KM6.out hb7)
        have HRL7 := Lib.hid (HRL6.out.below hb7)
        have HRW7 := Lib.hid (ownsRow_below HRW6.out hb7)
        have HB7 := Lib.hid ((HB6.out).trans (hb7.mono HB6.out.size))
        have hz7 := hb7.size
        rw [← hw7]
        clear hw7 hb7 l0 l1 l2 l3 hsc6
        go_wp2_with fail
        go_loopw [14, 18] (fun la j wr => ∃ q lq : Nat, q ≤ nl ∧ lq = K + q ∧ j = .int .i64 q ∧ la = .int .i64 ((lq : Int) - 1) ∧ Below w7.heap.size w7 wr) (fun _ j _ => nl - (intOf j).toNat)
        case atStart => exact ⟨0, K, Nat.zero_le _, rfl, rfl, rfl, Below.refl _ _⟩
        case round =>
          obtain ⟨q, lq, hq, hlq, rfl, rfl, hbz⟩ := hrel
          have HBZ := Lib.hid hbz
          have HLQ := Lib.hid hlq
          have KLZ := Lib.hid (blk_below' KL7.out hbz)
          have KMZ := Lib.hid (blk_below' KM7.out hbz)
          have hrz := ownsRow_below HRW7.out hbz
          have hzz := hbz.size
          obtain ⟨l0, l1, l2, l3⟩ := ncells KLZ.out
          have hllz := blk_lt KLZ.out
          have hlqN : lq ≤ N := by omega
          by_cases hqn : q < nl
          · obtain ⟨y, hy⟩ : ∃ y, ys[q]? = some y := ⟨_, List.getElem?_eq_getElem (by rw [← HNL.out]; exact hqn)⟩
            obtain ⟨p, hp, hpk, hpg⟩ := HVI.out.nd_at (K := K) (s := s) (q := q) (n := y.n) (by rw [← HYS.out, List.getElem?_map, hy]; rfl)
            obtain ⟨g2, hg2⟩ : ∃ g2, xl = some ⟨g2, 0, none⟩ := by
              rcases hrz.2 with ⟨_, h0⟩ | ⟨g2, cap, cur, e, _⟩
              · omega
              · exact ⟨g2, (sl_inj e).1⟩
            subst hg2
            have y0 : wr.cell? ⟨g2, q * 4 + 0, none⟩ = some (.int .u64 y.n.key) := ownsRow_cell NdE.cs 4 NdE.cs_len ys hrz q 0 y hy (by omega)
            rw [Nat.add_zero, hpk] at y0
            have y2 : wr.cell? ⟨g2, q * 4 + 2, none⟩ = some (.bool y.n.gone) := ownsRow_cell NdE.cs 4 NdE.cs_len ys hrz q 2 y hy (by omega)
            rw [hpg] at y2
            rw [← hlq] at hp
            obtain ⟨b, o, c', e, hblt, r0, r1, r2, r3, r4⟩ := ps_cells (HRL7.out.below hbz) hp (by omega)
            obtain ⟨rfl, -, rfl⟩ := sl_inj e
            have hne : lq < N := by omega
            have hj0' : (0 : Int) ≤ (q : Int) := by omega
            have hj1' : (q : Int) < (nl : Int) := by omega
            have hj2' : (0 : Int) ≤ (lq : Int) := by omega
            have hj3' : (lq : Int) < (N : Int) := by omega
            have hj4' : decide ((N : Int) ≤ (lq : Int)) = false := by simp; omega
            have hj5' : decide (N ≤ lq) = false := by simp; omega
            have HP := Lib.hid hp
            clear hp e hpk hpg hy
            obtain ⟨pk, po, pl, pc, pg⟩ := p
            simp only at y0 y2 r0 r4
            obtain ⟨m0, m1, m2, m3, m4, m5, m6⟩ := cells7' KMZ.out
            have hlmz := blk_lt KMZ.out
            clear hlq hrz
            go_upto_region 25 with fail
            refine wp_region_mask0 (fun w1 => w1 = _) [2, 7, 11, 13, 17, 22, 26, 28, 32] [0, 0, 2, 6, 15, 31, 63, 127, 63, 511, 1023, 2047, 63, 4159, 63, 28735, 61503, 127039, 262143, 524287, 1048575, 2097151, 4194303, 2097151, 16777215, 33554431, 67108863, 2097151, 136314879, 2097151, 941621247, 2015363071, 4162846719, 8589934591, 17179869183] (.op 0 0 (.op 1 0 (.op 2 2 (.op 3 0 (.op 4 0 (.op 5 0 (.op 6 0 (.op 7 2 (.op 8 0 (.op 9 0 (.op 10 0 (.op 11 2 (.op 12 0 (.op 13 2 (.op 14 0 (.op 15 0 (.op 16 0 (.op 17 2 (.op 18 0 (.op 19 0 (.op 20 0 (.op 21 0 (.op 22 2 (.op 23 0 (.op 24 0 (.op 25 0 (.op 26 2 (.op 27 0 (.op 28 2 (.op 29 0 (.op 30 0 (.op 31 0 (.op 32 2 (.op 33 0 (.op 34 0 .nil))))))))))))))))))))))))))))))))))) (by kernel_rfl) (by kernel_rfl) rfl (by kernel_rfl) (by kernel_rfl) rfl ?_
            refine stepM0 rfl rfl (fun K hK => ?_)
            go_simp
            refine hK _ ?_
            clear hK K
            refine stepM0 rfl rfl (fun K hK => ?_)
            go_simp
            refine hK _ ?_
            clear hK K
            refine stepM2 rfl rfl ?_ (fun w1 hS => ?_) (fun K hK => ?_)
            rotate_left
            focus (obtain rfl : w1 = _ := hS; go_simp; rfl)
            go_simp
            refine hK _ ?_
            clear hK K
            refine stepM0 rfl rfl (fun K hK => ?_)
            go_simp
            refine hK _ ?_
            clear hK K
            refine stepM0 rfl rfl (fun K hK => ?_)
            go_simp
            refine hK _ ?_
            clear hK K
            refine stepM0 rfl rfl (fun K hK => ?_)
            go_simp
            refine hK _ ?_
            clear hK K
            refine stepM0 rfl rfl (fun K hK => ?_)
            go_simp
            refine hK _ ?_
            clear hK K
            refine stepM2 rfl rfl ?_ (fun w1 hS => ?_) (fun K hK => ?_)
            rotate_left
            focus (obtain rfl : w1 = _ := hS; go_simp; rfl)
            go_simp
            refine hK _ ?_
            clear hK K
            refine stepM0 rfl rfl (fun K hK => ?_)
            go_simp
            refine hK _ ?_
            clear hK K
            refine stepM0 rfl rfl (fun K hK => ?_)
            go_simp
            refine hK _ ?_
            clear hK K
            refine stepM0 rfl rfl (fun K hK => ?_)
            go_simp
            refine hK _ ?_
            clear hK K
            refine stepM2 rfl rfl ?_ (fun w1 hS => ?_) (fun K hK => ?_)
            rotate_left
            focus (obtain rfl : w1 = _ := hS; go_simp; rfl)
            go_simp
            refine hK _ ?_
            clear hK K
            refine stepM0 rfl rfl (fun K hK => ?_)
            go_simp
            refine hK _ ?_
            clear hK K
            refine stepM2 rfl rfl ?_ (fun w1 hS => ?_) (fun K hK => ?_)
            rotate_left
            focus (obtain rfl : w1 = _ := hS; go_simp; rfl)
            go_simp
            refine hK _ ?_
            clear hK K
            refine stepM0 rfl rfl (fun K hK => ?_)
            go_simp
            refine hK _ ?_
            clear hK K
            refine stepM0 rfl rfl (fun K hK => ?_)
            go_simp
            refine hK _ ?_
            clear hK K
            refine stepM0 rfl rfl (fun K hK => ?_)
            go_simp
            refine hK _ ?_
            clear hK K
            refine stepM2 rfl rfl ?_ (fun w1 hS => ?_) (fun K hK => ?_)
            rotate_left
            focus (obtain rfl : w1 = _ := hS; go_simp; rfl)
            go_simp
            refine hK _ ?_
            clear hK K
            refine stepM0 rfl rfl (fun K hK => ?_)
            go_simp
            refine hK _ ?_
            clear hK K
            refine stepM0 rfl rfl (fun K hK => ?_)
            go_simp
            refine hK _ ?_
            clear hK K
            refine stepM0 rfl rfl (fun K hK => ?_)
            go_simp
            refine hK _ ?_
            clear hK K
            refine stepM0 rfl rfl (fun K hK => ?_)
            go_simp
            refine hK _ ?_
            clear hK K
            refine stepM2 rfl rfl ?_ (fun w1 hS => ?_) (fun K hK => ?_)
            rotate_left
            focus (obtain rfl : w1 = _ := hS; go_simp; rfl)
            go_simp
            refine hK _ ?_
            clear hK K
            refine stepM0 rfl rfl (fun K hK => ?_)
            go_simp
            refine hK _ ?_
            clear hK K
            refine stepM0 rfl rfl (fun K hK => ?_)
            go_simp
            refine hK _ ?_
            clear hK K
            refine stepM0 rfl rfl (fun K hK => ?_)
            go_simp
            refine hK _ ?_
            clear hK K
            refine stepM2 rfl rfl ?_ (fun w1 hS => ?_) (fun K hK => ?_)
            rotate_left
            focus (obtain rfl : w1 = _ := hS; go_simp; rfl)
            go_simp
            refine hK _ ?_
            clear hK K
            refine stepM0 rfl rfl (fun K hK => ?_)
            go_simp
            refine hK _ ?_
            clear hK K
            refine stepM2 rfl rfl ?_ (fun w1 hS => ?_) (fun K hK => ?_)
            rotate_left
            focus (obtain rfl : w1 = _ := hS; go_simp; rfl)
            go_simp
            refine hK _ ?_
            clear hK K
            refine stepM0 rfl rfl (fun K hK => ?_)
            go_simp
            refine hK _ ?_
            clear hK K
            refine stepM0 rfl rfl (fun K hK => ?_)
            go_simp
            refine hK _ ?_
            clear hK K
            refine stepM0 rfl rfl (fun K hK => ?_)
            go_simp
            refine hK _ ?_
            clear hK K
            refine stepM2 rfl rfl ?_ (fun w1 hS => ?_) (fun K hK => ?_)
            rotate_left
            focus (obtain rfl : w1 = _ := hS; go_simp; rfl)
            go_simp
            refine hK _ ?_
            clear hK K
            refine stepM0 rfl rfl (fun K hK => ?_)
            go_simp
            refine hK _ ?_
            clear hK K
            refine stepM0 rfl rfl (fun K hK => ?_)
            go_simp
            refine hK _ ?_
            clear hK K
            try refine stepMnil0 ?_
            go_wp2_with fail
            go_roundw
            case rel => exact ⟨q + 1, lq + 1, by omega, by have := HLQ.out; omega, by go_num, by simp, Below.drew HBZ.out⟩
            case measure => simp [intOf]; omega
          · have hqe : ¬ (q : Int) < (nl : Int) := by omega
            have hqe2 : decide ((q : Int) < (nl : Int)) = false := by simp; omega
            have hqe3 : decide (q < nl) = false := by simp; omega
            have HQE := Lib.hid (show q = nl by omega)
            have HBW := Lib.hid (show Below wm.heap.size wm wr from (HB5.out.trans ((HB7.out.trans (hbz.mono (Nat.le_trans (by have := HB6.out.size; omega) hz7))).mono hz5)))
            clear hlq hrz
            cases mo
            case true =>
              have hmo : K + s < N := by have := HMO.out; simpa using this.symm
              have hnls2 : nl = s := by have := HNL2.out; omega
              obtain ⟨p, hp⟩ : ∃ p, v.idx[K + s]? = some p := ⟨_, List.getElem?_eq_getElem (by rw [← HN.out]; exact hmo)⟩
              have hnx2 : nx = p.key := by rw [HNX.out, hp]
              have HIX2 := Lib.hid (show ixAt v.idx nx = K + s by
                rw [hnx2]
                exact ixAt_self HVI.out.srt hp)
              clear hp hnx2
              have HMO2 := Lib.hid hmo
              have HNS2 := Lib.hid hnls2
              clear hmo hnls2
              go_wp2_with fail
              go_roundw
              case rel => exact ⟨r + 1, K + s, nx, rfl, by have := HLQ.out; have := HQE.out; have := HNS2.out; congr 2; omega, by go_num, by rw [HKR2.out, Nat.add_mul]; omega, by have := HMO2.out; omega, HIX2.out, HBQ.out.trans (HBW.out.mono hzq)⟩
              case measure => simp [intOf]; omega
            case false =>
              have hmo : ¬ (K + s < N) := by have := HMO.out; simpa using this.symm
              have HLN := Lib.hid (show lq = N by have := HLQ.out; have := HQE.out; have := HNL2.out; omega)
              clear hmo
              have HKZ := Lib.hid (show Keeps (fun j => j = SB + 1) w4 wr from HKQ.out.trans (Keeps.of_below HBW.out fun j hj _ => hj) (fun _ _ e => e))
              have KCZ := Lib.hid (show wr.heap[SB + 1]? = some (.cells #[.int .i64 c0, .int .i64 c1] 51 (0, 0)) from (blk_below' (blk_below' KCR.out HBQ.out) HBW.out))
              have hcz := blk_lt KCZ.out
              have hck := (show wr.cell? ⟨SB + 1, 0, none⟩ = some (.int .i64 c0) ∧ wr.cell? ⟨SB + 1, 1, none⟩ = some (.int .i64 c1) from by constructor <;> (rw [cell_of_row wr (SB + 1) _ _ _ _ KCZ.out]; rfl))
              have hfk := (show wr.frozen? ⟨SB + 1, 0, none⟩ = false ∧ wr.frozen? ⟨SB + 1, 1, none⟩ = false from ⟨frozen_of_row wr (SB + 1) 0 _ _ KCZ.out, frozen_of_row wr (SB + 1) 1 _ _ KCZ.out⟩)
              obtain ⟨k0, k1⟩ := hck
              obtain ⟨f0, f1⟩ := hfk
              rcases (show k = 0 ∨ k = 1 by omega) with hk0 | hk1
              · subst hk0
                go_wp2_with fail
                go_roundw
                case rel => exact ⟨1, lq, c1, by omega, rfl, HKZ.out.setCell _ _ (fun _ => rfl), by simpa using heap_setCell_same wr (SB + 1) 0 _ _ (.int .i64 lq) KCZ.out, fun _ => by rw [HLN.out], fun e => absurd e (by decide)⟩
                case measure => simp [intOf]
              · subst hk1
                have HCN := Lib.hid (show c0 = N from HC0.out (Nat.le_refl _))
                go_wp2_with fail
                go_roundw
                case rel => exact ⟨2, c0, lq, by omega, rfl, HKZ.out.setCell _ _ (fun _ => rfl), by simpa using heap_setCell_same wr (SB + 1) 1 _ _ (.int .i64 lq) KCZ.out, fun _ => HCN.out, fun _ => by rw [HLN.out]⟩
                case measure => simp [intOf]
    · have HK2 := Lib.hid (show k = 2 by omega)
      have e0 : c0 = N := HC0.out (by omega)
      have e1 : c1 = N := HC1.out (by omega)
      subst e0 e1
      have hk1' : ¬ (k : Int) < 2 := by omega
      have hk2' : decide ((k : Int) < 2) = false := by simp; omega
      have hk3' : decide (k < 2) = false := by simp; omega
      have KMR := Lib.hid ((HKR.out.block MB (blk_lt KM4.out) (by omega)).trans KM4.out)
      obtain ⟨m0, m1, m2, m3, m4, m5, m6⟩ := cells7' KMR.out
      have hlmr := blk_lt KMR.out
      have hcr := blk_lt KCR.out
      have hck := (show wr.cell? ⟨SB + 1, 0, none⟩ = some (.int .i64 N) ∧ wr.cell? ⟨SB + 1, 1, none⟩ = some (.int .i64 N) from by constructor <;> (rw [cell_of_row wr (SB + 1) _ _ _ _ KCR.out]; rfl))
      obtain ⟨k0, k1⟩ := hck
      have HBE := Lib.hid (show Below w.heap.size w wr from (HB2.out.trans (HB24.out.mono (by have := HB2.out.size; omega))).trans (HKR.out.below (by have := HB24.out.size; have := HB2.out.size; omega) fun j e => by have := HMB.out; have := HB2.out.size; omega))
      go_wp2_with fail
      go_ret
      exact ⟨rfl, HBE.out⟩
end Go.Proofs.YtmaalbbclldnpaaGreatDoor
