/- DirsParts: the walk. -/
import Derived.Test.YtigkcbnlbdiimaaDirsParts
namespace Go.Proofs.Ytigkcbnlbdiimaa
open Go.RowKit
theorem cmd_info : (Try.prog.info? 32).map (fun i => (i.zero, i.size, i.bytes)) = some (some (.agg #[.int .i64 0, .int .i64 0, .int .i64 0, .int .i64 0, .int .i64 0, .int .i64 0, .int .i64 0, .int .i64 0]), 8, 64) := by kernel_rfl
/-- The cells of one command of an owned row. -/
theorem row_cmd {w : World} {base : Nat} {v : Value} {n : Nat} {cs : List Cmd} (hr : w.ownsRow base 32 8 v n (cs.flatMap Cmd.row)) (k : Nat) (x : Cmd) (hx : cs[k]? = some x) :
    ∃ g c, v = .slice (some ⟨g, 0, none⟩) n c ∧ g < w.heap.size ∧ base ≤ g ∧ k < n ∧
      w.cell? ⟨g, k * 8, none⟩ = some (.int .i64 x.kind) ∧ w.cell? ⟨g, k * 8 + 1, none⟩ = some (.int .i64 x.vol) ∧ w.cell? ⟨g, k * 8 + 2, none⟩ = some (.int .i64 x.epoch) ∧
      w.cell? ⟨g, k * 8 + 3, none⟩ = some (.int .i64 x.spot) ∧ w.cell? ⟨g, k * 8 + 4, none⟩ = some (.int .i64 x.node) ∧ w.cell? ⟨g, k * 8 + 5, none⟩ = some (.int .i64 x.n0) ∧
      w.cell? ⟨g, k * 8 + 6, none⟩ = some (.int .i64 x.n1) ∧ w.cell? ⟨g, k * 8 + 7, none⟩ = some (.int .i64 x.n2) := by
  have hk : k < cs.length := (List.getElem?_eq_some_iff.1 hx).1
  have hlen := hr.1
  rw [length_flatMap_row Cmd.row 8 Cmd.row_len] at hlen
  have hlt := hr.lt
  rcases hr.2 with ⟨_, hz⟩ | ⟨g, cap, cur, rfl, hg, _⟩
  · omega
  · have hg1 := hlt g rfl
    have hc := fun j hj => ownsRow_cell Cmd.row 8 Cmd.row_len cs hr k j x hx hj
    refine ⟨g, cap, rfl, hg1.2, hg1.1, by omega, ?_, ?_, ?_, ?_, ?_, ?_, ?_, ?_⟩
    · simpa [Cmd.row] using hc 0 (by omega)
    · simpa [Cmd.row] using hc 1 (by omega)
    · simpa [Cmd.row] using hc 2 (by omega)
    · simpa [Cmd.row] using hc 3 (by omega)
    · simpa [Cmd.row] using hc 4 (by omega)
    · simpa [Cmd.row] using hc 5 (by omega)
    · simpa [Cmd.row] using hc 6 (by omega)
    · simpa [Cmd.row] using hc 7 (by omega)
/-- .. all of them, as a contract of commands asks. -/
theorem cmds_row {w : World} {base : Nat} {a : Option Addr} {n c : Nat} {cs : List Cmd} (hr : w.ownsRow base 32 8 (.slice a n c) n (cs.flatMap Cmd.row)) (h0 : 0 < n) :
    ∃ g, a = some ⟨g, 0, none⟩ ∧ g < w.heap.size ∧ base ≤ g ∧ CmdsAt w g 0 cs := by
  have hlt := hr.lt
  rcases hr.2 with ⟨_, hz⟩ | ⟨g, cap, cur, e, hg, _⟩
  · omega
  · obtain ⟨rfl, -, rfl⟩ := slice_inj e
    have hg1 := hlt g rfl
    refine ⟨g, rfl, hg1.2, hg1.1, fun i x hx => ?_⟩
    obtain ⟨g', c', e', _, _, _, hcs⟩ := row_cmd hr i x hx
    obtain ⟨e1, -, -⟩ := slice_inj e'
    simp at e1
    subst e1
    simpa using hcs
theorem CmdsAt.take {w : World} {b off : Nat} {cs : List Cmd} (h : CmdsAt w b off cs) (k : Nat) : CmdsAt w b off (cs.take k) := fun i c hc => by
  refine h i c ?_
  rw [List.getElem?_take] at hc
  split at hc
  · exact hc
  · cases hc
theorem CmdsAt.below {w w' : World} {b off : Nat} {cs : List Cmd} (h : CmdsAt w b off cs) {B : Nat} (hb : Below B w w') (hlt : b < B) : CmdsAt w' b off cs := fun i c hc => by
  obtain ⟨h0, h1, h2, h3, h4, h5, h6, h7⟩ := h i c hc
  have e := fun o => hb.cell (p := ⟨b, o, none⟩) hlt
  exact ⟨(e _).trans h0, (e _).trans h1, (e _).trans h2, (e _).trans h3, (e _).trans h4, (e _).trans h5, (e _).trans h6, (e _).trans h7⟩
theorem flatMap_snoc {α β : Type} (f : α → List β) (l : List α) (k : Nat) (x : α) (hx : l[k]? = some x) : (l.take (k + 1)).flatMap f = (l.take k).flatMap f ++ f x := by
  rw [take_snoc_get l k x hx]
  simp
theorem emod_nat (x n : Nat) : ((x : Int) % ((n : Int) + 1)) = ((x % (n + 1) : Nat) : Int) := by
  rw [Int.natCast_emod]; rfl
set_option maxRecDepth 100000 in
set_option maxHeartbeats 8000000 in
theorem parts_any (ao : Option Addr) (n cap : Nat) (cs : List Cmd) (at0 : Nat) (hat : at0 ≤ 255) (w : World) (hl : cs.length = n) (hn : n ≤ 100) (hA : 0 < n → ∃ b off, ao = some ⟨b, off, none⟩ ∧ b < w.heap.size ∧ CmdsAt w b off cs) :
    Calls Try.prog 5 #[.slice ao n cap, .int .u8 at0] w fun e w' => e = .returned (.bool true) ∧ Below w.heap.size w w' := by
  have HL := Lib.hid hl
  have HA := Lib.hid hA
  clear hl hA
  obtain ⟨i0, hi, hz0, hz1, hz2⟩ := info_parts cmd_info
  have HI := Lib.hid hi
  have HZ0 := Lib.hid hz0
  have HZ1 := Lib.hid hz1
  have HZ2 := Lib.hid hz2
  clear hi hz0 hz1 hz2
  have hd100 : decide ((100 : Int) < (n : Int)) = false := by simp; omega
  go_enter Try.func5, Try.ntmps5
  go_wp2_with fail
  refine (alive19 _).mono ?_
  rintro e w1 ⟨rfl, hb1⟩
  have hz1 := hb1.size
  have HB1 := Lib.hid hb1
  clear hb1
  go_wp2_with fail
  go_loopw [5, 6] (fun c i wr => ∃ k : Nat, k ≤ n ∧ i = .int .i64 k ∧ wr.ownsRow w.heap.size 32 8 c k ((cs.take k).flatMap Cmd.row) ∧ Below w.heap.size w wr) (fun _ i _ => n - (intOf i).toNat)
  case atStart => exact ⟨0, Nat.zero_le _, rfl, World.ownsRow_nil _ _ _ _, HB1.out⟩
  case round =>
    obtain ⟨i, hi, rfl, hown, hbw⟩ := hrel
    have HOW := Lib.hid hown
    have HBW := Lib.hid hbw
    have hzr := hbw.size
    obtain ⟨ac, cc, rfl⟩ := ownsRow_len hown
    clear hown hbw
    by_cases hlt : i < n
    · obtain ⟨c, hc⟩ : ∃ c, cs[i]? = some c := ⟨_, List.getElem?_eq_getElem (by rw [HL.out]; exact hlt)⟩
      obtain ⟨b, off, rfl, hb, hC⟩ := HA.out (by omega)
      obtain ⟨q0, q1, q2, q3, q4, q5, q6, q7⟩ := hC i c hc
      clear hC
      have k0 := (HBW.out.cell (p := ⟨b, off + i * 8, none⟩) hb).trans q0
      have k1 := (HBW.out.cell (p := ⟨b, off + i * 8 + 1, none⟩) hb).trans q1
      have k2 := (HBW.out.cell (p := ⟨b, off + i * 8 + 2, none⟩) hb).trans q2
      have k3 := (HBW.out.cell (p := ⟨b, off + i * 8 + 3, none⟩) hb).trans q3
      have k4 := (HBW.out.cell (p := ⟨b, off + i * 8 + 4, none⟩) hb).trans q4
      have k5 := (HBW.out.cell (p := ⟨b, off + i * 8 + 5, none⟩) hb).trans q5
      have k6 := (HBW.out.cell (p := ⟨b, off + i * 8 + 6, none⟩) hb).trans q6
      have k7 := (HBW.out.cell (p := ⟨b, off + i * 8 + 7, none⟩) hb).trans q7
      have hbr : b < wr.heap.size := by omega
      have HT := Lib.hid (flatMap_snoc Cmd.row cs i c hc)
      obtain ⟨ck, cv, ce, cp, cn, c0, c1, c2⟩ := c
      clear hc q0 q1 q2 q3 q4 q5 q6 q7
      go_wp2_with (at_builtin; refine wpList_append_own _ rfl _ _ 46 rfl w.heap.size 32 i0 (.agg #[.int .i64 0, .int .i64 0, .int .i64 0, .int .i64 0, .int .i64 0, .int .i64 0, .int .i64 0, .int .i64 0]) 8 64 Try.underlying46 HI.out HZ0.out HZ1.out HZ2.out rfl (by decide) (.slice ac i cc) i _ rfl (HOW.out.alloc _) ⟨wr.heap.size, 0, none⟩ 1 1 [.int .i64 ck, .int .i64 cv, .int .i64 ce, .int .i64 cp, .int .i64 cn, .int .i64 c0, .int .i64 c1, .int .i64 c2] rfl rfl (World.news_of_block (heap_alloc_new wr _)) (by simp [Value.oneCell']) (by unfold maxLen; omega) (by omega) (by simp; omega) ?_; intro v' w5 hown' hgrow _; have HOX := Lib.hid hown'; have HGX := Lib.hid hgrow; clear hown' hgrow)
      go_roundw
      case rel => exact ⟨i + 1, by omega, by go_num, by rw [HT.out]; exact HOX.out, (HBW.out.alloc hzr _).grown HGX.out (by simp; omega) (fun g hg => (HOW.out.lt g hg).1)⟩
      case measure => simp [intOf]; omega
    · have hin : i = n := by omega
      subst hin
      have HOC := Lib.hid (show wr.ownsRow w.heap.size 32 8 (.slice ac i cc) i (cs.flatMap Cmd.row) from by
        have := HOW.out
        rwa [List.take_of_length_le (by rw [HL.out]; omega)] at this)
      clear hlt HOW
      obtain ⟨kk, hkk⟩ : ∃ kk, at0 % (i + 1) = kk := ⟨_, rfl⟩
      have hki : kk ≤ i := by have := Nat.mod_lt at0 (show 0 < i + 1 by omega); omega
      have HMC := Lib.hid (emod_nat at0 i)
      have HKK := Lib.hid hkk
      clear hkk
      have hcc : i ≤ cc := by
        rcases HOC.out.2 with ⟨e, h0⟩ | ⟨g, cap', cur, e, _, _, h1, _⟩
        · omega
        · obtain ⟨_, _, rfl⟩ := slice_inj e
          exact h1
      have hcm : cc ≤ 9223372036854775807 := by
        rcases HOC.out.2 with ⟨e, h0⟩ | ⟨g, cap', cur, e, _, _, _, h1, _⟩
        · obtain ⟨_, _, rfl⟩ := slice_inj e; omega
        · obtain ⟨_, _, rfl⟩ := slice_inj e
          exact h1
      have hkc : (kk : Int) ≤ (cc : Int) := by omega
      have HCA := Lib.hid (fun h0 => cmds_row HOC.out h0)
      go_wp2_with fail
      rw [HMC.out, HKK.out]
      refine (replay_any ac i cc cs _ HL.out (by omega) (fun h0 => by obtain ⟨g, h1, h2, _, h3⟩ := HCA.out h0; exact ⟨g, 0, h1, h2, h3⟩)).mono ?_
      rintro e w2 ⟨rfl, ⟨va, hma⟩, hb2⟩
      have HMA := Lib.hid hma
      have HB2 := Lib.hid hb2
      have hz2 := hb2.size
      have HOC2 := Lib.hid (ownsRow_below HOC.out hb2)
      clear hma hb2
      have HLA := Lib.hid (cntAll_le [] cs)
      have hta : (cntAll [] cs : Int) ≤ 100 := by have := HLA.out; have := HL.out; omega
      obtain ⟨ta, hta'⟩ : ∃ t, cntAll [] cs = t := ⟨_, rfl⟩
      have HTA := Lib.hid hta'
      rw [hta'] at hta ⊢
      clear hta'
      go_wp2_with fail
      refine (replay_any ac kk cc (cs.take kk) _ (by rw [List.length_take, HL.out]; omega) (by omega) (fun h0 => by
        obtain ⟨g, h1, h2, _, h3⟩ := HCA.out (by omega)
        exact ⟨g, 0, h1, by have := HB2.out.size; omega, (h3.below HB2.out h2).take kk⟩)).mono ?_
      rintro e w3 ⟨rfl, ⟨vb, hmb⟩, hb3⟩
      have HMB := Lib.hid hmb
      have HB3 := Lib.hid hb3
      have hz3 := hb3.size
      have HMA3 := Lib.hid (HMA.out.below hb3)
      have HOC3 := Lib.hid (ownsRow_below HOC2.out hb3)
      have HW3 := Lib.hid ((HBW.out.trans (HB2.out.mono hzr)).trans (hb3.mono (Nat.le_trans hzr hz2)))
      clear hmb hb3
      have HLB := Lib.hid (cntAll_le [] (cs.take kk))
      obtain ⟨wo, rfl⟩ : ∃ wo : World, wo = wr := ⟨_, rfl⟩
      go_wp2_with fail
      go_loopw [11, 12] (fun t j wx => ∃ k : Nat, k ≤ i ∧ j = .int .i64 k ∧ t = .int .i64 (cntAll [] (cs.take k) : Nat) ∧ (∃ v, MapAt wx w2.heap.size w2.heap.size v (doAll [] (cs.take k))) ∧ Below w2.heap.size w2 wx) (fun _ j _ => i - (intOf j).toNat)
      case atStart => exact ⟨kk, hki, rfl, rfl, ⟨_, HMB.out⟩, HB3.out⟩
      case round =>
        obtain ⟨k, hk, rfl, rfl, ⟨v, hm⟩, hbw⟩ := hrel
        have HM := Lib.hid hm
        have HBX := Lib.hid hbw
        have hzx := hbw.size
        clear hm hbw
        by_cases hlt2 : k < i
        · obtain ⟨c, hc⟩ : ∃ c, cs[k]? = some c := ⟨_, List.getElem?_eq_getElem (by rw [HL.out]; exact hlt2)⟩
          obtain ⟨g, cg, e1, hg, _, _, k0, k1, k2, k3, k4, k5, k6, k7⟩ := row_cmd (ownsRow_at HOC2.out (fun b hb => HBX.out.block b (HOC2.out.lt b hb).2)) k c hc
          obtain ⟨rfl, -, rfl⟩ := slice_inj e1
          have HT := Lib.hid (take_snoc_get cs k c hc)
          have HCS := Lib.hid (cntAll_snoc [] (cs.take k) c)
          have HDS := Lib.hid (doAll_snoc [] (cs.take k) c)
          have hcl : (cntAll [] (cs.take k) : Int) ≤ 100 := by
            have := cntAll_le [] (cs.take k)
            simp at this
            omega
          have hcl0 : (0 : Int) ≤ (cntAll [] (cs.take k) : Int) := by omega
          have hdk := doK_le (doAll [] (cs.take k)) c
          clear hc e1
          generalize cntAll [] (cs.take k) = t at *
          generalize doAll [] (cs.take k) = es at *
          obtain ⟨nd, hnd⟩ : ∃ nd, doN es c = nd := ⟨_, rfl⟩
          have HND := Lib.hid hnd
          obtain ⟨kd, hkd⟩ : ∃ kd : Nat, doK es c = kd := ⟨_, rfl⟩
          rw [hkd] at hdk
          have HKD := Lib.hid hkd
          clear hnd hkd
          go_wp2_with fail
          refine (do_at w2.heap.size w2.heap.size v es _ c nd kd _ HM.out rfl HND.out (by rw [HKD.out])).mono ?_
          rintro e w4 hd
          have HU := Lib.hid (hd.under (w0 := w2) HM.out (Nat.le_refl _) HBX.out)
          obtain ⟨rfl, v4, hm4, _, _⟩ := hd
          have HM4 := Lib.hid hm4
          clear hm4
          go_wp2_with fail
          refine (code_any _ (by omega) (by omega) _).mono ?_
          rintro e w5 ⟨rfl, rfl⟩
          by_cases hk0 : kd = 0
          · subst hk0
            go_wp2_with fail
            go_roundw
            case rel => exact ⟨k + 1, by omega, by go_num, by rw [HT.out, HCS.out, okN, if_pos HKD.out]; go_num, ⟨v4, by rw [HT.out, HDS.out]; exact HM4.out⟩, HU.out⟩
            case measure => simp [intOf]; omega
          · have hkb : ((kd : Int) == 0) = false := by rw [beq_eq_false_iff_ne]; omega
            have HK0 := Lib.hid hk0
            clear hk0
            go_wp2_with fail
            go_roundw
            case rel => exact ⟨k + 1, by omega, by go_num, by rw [HT.out, HCS.out, okN, if_neg (by rw [HKD.out]; exact HK0.out)]; rfl, ⟨v4, by rw [HT.out, HDS.out]; exact HM4.out⟩, HU.out⟩
            case measure => simp [intOf]; omega
        · have hke : cs.take k = cs := List.take_of_length_le (by rw [HL.out]; omega)
          rw [hke] at HM ⊢
          rw [HTA.out]
          clear hke
          have hgood : Good (1 + (i : Int)) (doAll [] cs) := by
            have := good_all cs 1 [] (fun i x hx => by simp at hx) (by omega) (by rw [HL.out]; omega)
            rwa [HL.out] at this
          have hsound := sound_all cs [] (fun i x hx => by simp at hx)
          have HMAx := Lib.hid (HMA.out.below (HBX.out))
          generalize doAll [] cs = es at *
          have HGD := Lib.hid hgood
          have HSD := Lib.hid hsound
          have hfew := HM.out.few
          clear hgood hsound
          go_wp2_with fail
          refine (bytes_any _ _ _ es (1 + (i : Int)) _ HMAx.out HGD.out (by omega)).mono ?_
          rintro e w4 ⟨v4, rfl, ho4, hb4⟩
          have HB4 := Lib.hid hb4
          have HR4 := Lib.hid (reads_of_owns ho4)
          have HMA4 := Lib.hid (HMAx.out.below hb4)
          have HM4 := Lib.hid (HM.out.below hb4)
          have hz4 := hb4.size
          clear ho4 hb4
          go_wp2_with fail
          refine (bytes_any _ _ _ es (1 + (i : Int)) _ HM4.out HGD.out (by omega)).mono ?_
          rintro e w5 ⟨v5, rfl, ho5, hb5⟩
          have HR5 := Lib.hid (reads_of_owns ho5)
          have HR45 := Lib.hid (HR4.out.below hb5)
          have HMA5 := Lib.hid (HMA4.out.below hb5)
          have HB5 := Lib.hid (HB4.out.trans (hb5.mono hz4))
          have hz5 := hb5.size
          clear ho5 hb5
          go_wp2_with fail
          refine (same_any _ _ _ _ _ HR45.out HR5.out).mono ?_
          rintro e w6 ⟨rfl, hb6⟩
          have HMA6 := Lib.hid (HMA5.out.below hb6)
          have HB6 := Lib.hid (HB5.out.trans (hb6.mono (Nat.le_trans hz4 hz5)))
          have hz6 := hb6.size
          clear hb6
          rw [decide_eq_true (rfl : mapBytes es = mapBytes es)]
          have HW6 := Lib.hid ((HBW.out.trans (HB2.out.mono hzr)).trans ((HBX.out.trans (HB6.out.mono hzx)).mono (Nat.le_trans hzr hz2)))
          obtain ⟨wp, hwp⟩ : ∃ wp : World, wr = wp := ⟨_, rfl⟩
          subst hwp
          go_wp2_with fail
          go_loopw [15, 16] (fun t j wx => ∃ m : Nat, m ≤ 256 ∧ j = .int .i64 m ∧ t = .int .i64 (cntOn es m : Nat) ∧ Below w6.heap.size w6 wx) (fun _ j _ => 256 - (intOf j).toNat)
          case atStart => exact ⟨0, by omega, rfl, rfl, Below.refl _ _⟩
          case round =>
            obtain ⟨m, hm, rfl, rfl, hbm⟩ := hrel
            have HBM := Lib.hid hbm
            have hzm := hbm.size
            have hcm1 : (cntOn es m : Int) ≤ 1048576 := by
              have h1 := cntOn_le es m
              have h2 : m * es.length ≤ 256 * 4096 := Nat.mul_le_mul hm hfew
              omega
            have hcm0 : (0 : Int) ≤ (cntOn es m : Int) := by omega
            clear hbm
            by_cases hlt3 : m < 256
            · have HCS := Lib.hid (show cntOn es (m + 1) = cntOn es m + (onVols (m : Int) es).length from rfl)
              go_wp2_with fail
              refine (on_any _ _ _ es (m : Int) _ (HMA6.out.below HBM.out)).mono ?_
              rintro e w7 ⟨v7, rfl, ho7, hb7⟩
              have HMA7 := Lib.hid ((HMA6.out.below HBM.out).below hb7)
              have HB7 := Lib.hid (HBM.out.trans (hb7.mono hzm))
              have HO7 := Lib.hid ho7
              have hz7 := hb7.size
              obtain ⟨a7, c7, rfl⟩ := ownsRow_len ho7
              have hol := onVols_len (m : Int) es
              clear ho7 hb7
              generalize cntOn es m = ct at *
              obtain ⟨wq, hwq⟩ : ∃ wq : World, wr = wq := ⟨_, rfl⟩
              subst hwq
              go_wp2_with fail
              go_loopw [15, 18] (fun t j wx => ∃ q : Nat, q ≤ (onVols (m : Int) es).length ∧ j = .int .i64 q ∧ t = .int .i64 ((ct + q : Nat) : Int) ∧ Below w7.heap.size w7 wx) (fun _ j _ => (onVols (m : Int) es).length - (intOf j).toNat)
              case atStart => exact ⟨0, by omega, rfl, rfl, Below.refl _ _⟩
              case round =>
                obtain ⟨q, hq, rfl, rfl, hbq⟩ := hrel
                have HBQ := Lib.hid hbq
                have hzq := hbq.size
                clear hbq
                by_cases hlt4 : q < (onVols (m : Int) es).length
                · obtain ⟨vol, hvol⟩ : ∃ vol, (onVols (m : Int) es)[q]? = some vol := ⟨_, List.getElem?_eq_getElem hlt4⟩
                  obtain ⟨kx, x, rfl, hx, hbx⟩ := onVols_at _ _ _ HGD.out q vol hvol
                  have ho7 := ownsRow_below HO7.out HBQ.out
                  have hown8 : ∃ g, a7 = some ⟨g, 0, none⟩ ∧ wr.cell? ⟨g, q, none⟩ = some (.int .i64 ((kx : Int) + 1)) := by
                    rcases ho7.2 with ⟨e, h0⟩ | ⟨g, cap', cur, e, _⟩
                    · omega
                    · obtain ⟨rfl, -, rfl⟩ := slice_inj e
                      refine ⟨g, rfl, ?_⟩
                      rw [ho7.cellAt q (by omega), List.getElem?_map, hvol]
                      rfl
                  obtain ⟨g, rfl, kq⟩ := hown8
                  rw [onB_iff] at hbx
                  have HX := Lib.hid hx
                  have HBXX := Lib.hid hbx
                  clear hx hbx hvol ho7
                  have hct : (ct : Int) + (q : Int) ≤ 2000000 := by omega
                  go_wp2_with fail
                  refine (find_yes _ _ _ es kx x _ (HMA7.out.below HBQ.out) HX.out).mono ?_
                  rintro e w8 ⟨rfl, hb8⟩
                  have HB8 := Lib.hid (HBQ.out.trans (hb8.mono hzq))
                  have hz8 := hb8.size
                  clear hb8
                  obtain ⟨xv, xe, xa, xb, xc, xs⟩ := x
                  go_wp2_with fail
                  refine (code_nil _).mono ?_
                  rintro e w9 ⟨rfl, rfl⟩
                  have hbx : (m : Int) = xa ∨ (m : Int) = xb ∨ (m : Int) = xc := HBXX.out
                  by_cases ha : xa = (m : Int)
                  · have hab : (xa != (m : Int)) = false := by rw [ha]; simp
                    clear ha hbx
                    go_wp2_with fail
                    go_roundw
                    case rel => exact ⟨q + 1, by omega, by go_num, by go_num, HB8.out.alloc (by omega) _⟩
                    case measure => simp [intOf]; omega
                  · have hab : (xa != (m : Int)) = true := by rw [bne_iff_ne]; exact ha
                    by_cases hb : xb = (m : Int)
                    · have hbb : (xb != (m : Int)) = false := by rw [hb]; simp
                      clear ha hb hbx
                      go_wp2_with fail
                      go_roundw
                      case rel => exact ⟨q + 1, by omega, by go_num, by go_num, HB8.out.alloc (by omega) _⟩
                      case measure => simp [intOf]; omega
                    · have hbb : (xb != (m : Int)) = true := by rw [bne_iff_ne]; exact hb
                      have hcb : (xc != (m : Int)) = false := by
                        have hc : xc = (m : Int) := by omega
                        rw [hc]; simp
                      clear ha hb hbx
                      go_wp2_with fail
                      go_roundw
                      case rel => exact ⟨q + 1, by omega, by go_num, by go_num, HB8.out.alloc (by omega) _⟩
                      case measure => simp [intOf]; omega
                · have hqe : q = (onVols (m : Int) es).length := by omega
                  have HQ := Lib.hid hqe
                  clear hqe
                  have hct : (ct : Int) + (q : Int) ≤ 2000000 := by omega
                  go_wp2_with fail
                  go_roundw
                  case rel => exact ⟨m + 1, by omega, by go_num, by rw [HCS.out, ← HQ.out], HB7.out.trans (HBQ.out.mono (by have := HB7.out.size; omega))⟩
                  case measure => simp [intOf]; omega
            · have hme : m = 256 := by omega
              subst hme
              rw [cntOn_all es HSD.out] at *
              go_wp2_with fail
              refine (all_any _ _ _ _ _ (HMA6.out.below HBM.out)).mono ?_
              rintro e w7 ⟨v7, rfl, ho7, _, hb7⟩
              obtain ⟨a7, c7, rfl⟩ := ownsRow_len ho7
              have HB7 := Lib.hid (HBM.out.trans (hb7.mono hzm))
              clear ho7 hb7
              go_wp2_with fail
              go_ret
              exact ⟨ret_bool (by simp), HW6.out.trans (HB7.out.mono HW6.out.size)⟩
end Go.Proofs.Ytigkcbnlbdiimaa
