/- Joined texts: PlaceEvens2, OpenU8. -/
import Derived.Test.YtigkcbnlbdiimaaEv5
import Derived.Test.YtigkcbnlbdiimaaRows
import Derived.WalkKit
import Derived.ProofKit
import Derived.OpenShut
import Derived.ShutString
import Derived.ChangeOld
/- PlaceEvens: the walk. -/
namespace Go.Proofs.Ytigkcbnlbdiimaa
open Go.RowKit
set_option maxRecDepth 100000 in
set_option maxHeartbeats 4000000 in
theorem evens_any (n v lv : Int) (w : World) (hn0 : 0 ≤ n) (hn1 : n ≤ 255) (hv0 : 0 ≤ v) (hv1 : v ≤ 255) (hl0 : 0 ≤ lv) (hl1 : lv ≤ 255) :
    Calls Try.prog 12 #[.int .u8 n, .int .u8 v, .int .u8 lv] w fun e w' => e = .returned (.bool true) ∧ Below w.heap.size w w' := by
  obtain ⟨k, hk⟩ : ∃ k : Nat, (k : Int) = 3 + n % 8 := ⟨(3 + n % 8).toNat, by omega⟩
  have hk3 : 3 ≤ k := by omega
  have hk10 : k ≤ 10 := by omega
  obtain ⟨i0, hi, hz0, hz1, hz2⟩ := info_parts int_info
  have HI := Lib.hid hi
  have HZ0 := Lib.hid hz0
  have HZ1 := Lib.hid hz1
  have HZ2 := Lib.hid hz2
  clear hi hz0 hz1 hz2
  go_enter Try.func12, Try.ntmps12
  go_wp2_with fail
  refine (alive27 _).mono ?_
  rintro e w1 ⟨rfl, hb1⟩
  have HB1 := Lib.hid hb1
  have hz1 := hb1.size
  clear hb1
  go_wp2_with fail
  rw [← hk]
  clear hk
  have hk0 : (0 : Int) < (k : Int) := by omega
  go_loopw [8, 9] (fun l i wr => ∃ j : Nat, j ≤ k ∧ i = .int .i64 j ∧ wr.ownsRow w1.heap.size 3 1 l j ((evNs j).map (Value.int .i64)) ∧ Below w1.heap.size w1 wr) (fun _ i _ => k - (intOf i).toNat)
  case atStart => exact ⟨0, Nat.zero_le _, rfl, World.ownsRow_nil _ _ _ _, Below.refl _ _⟩
  case round =>
    obtain ⟨j, hj, rfl, hown, hbw⟩ := hrel
    have HOW := Lib.hid hown
    have HBW := Lib.hid hbw
    have hzr := hbw.size
    obtain ⟨al, cl, rfl⟩ := ownsRow_len hown
    clear hown hbw
    by_cases hlt : j < k
    · have hj0 : (0 : Int) ≤ (j : Int) := by omega
      have hj1 : (j : Int) < (k : Int) := by omega
      go_wp2_with (at_builtin; refine wpList_append_own _ rfl _ _ 42 rfl w1.heap.size 3 i0 (.int .i64 0) 1 8 Try.underlying42 HI.out HZ0.out HZ1.out HZ2.out rfl (by decide) _ _ _ rfl (HOW.out.alloc _) ⟨wr.heap.size, 0, none⟩ 1 1 [.int .i64 (2 * (j : Int))] rfl rfl (by have h := cell_one_new wr (.int .i64 (2 * (j : Int))) 3; simpa using h) (by simp [Value.oneCell']) (by unfold maxLen; omega) (by omega) (by simp; omega) ?_; intro v' w5 hown' hgrow _; have HOX := Lib.hid hown'; have HGX := Lib.hid hgrow; clear hown' hgrow)
      go_roundw
      case rel => exact ⟨j + 1, by omega, by go_num, by rw [evNs_succ]; simpa using HOX.out, (HBW.out.alloc hzr _).grown HGX.out (by simp; omega) (fun g hg => (HOW.out.lt g hg).1)⟩
      case measure => simp [intOf]; omega
    · have hjk : j = k := by omega
      subst hjk
      go_wp2_with fail
      refine (new_any _).mono ?_
      rintro e w2 ⟨rfl, rfl⟩
      obtain ⟨wa, rfl⟩ : ∃ W : World, W = wr := ⟨_, rfl⟩
      obtain ⟨g, rfl⟩ : ∃ g, al = some ⟨g, 0, none⟩ := by
        rcases HOW.out.2 with ⟨_, h0⟩ | ⟨g, _, _, e, _⟩
        · omega
        · simp only [Value.slice.injEq] at e
          exact ⟨g, e.1⟩
      have HCAP := Lib.hid (show ∀ a n c, Value.slice (some ⟨g, 0, none⟩) j cl = .slice a n c → n ≤ c from fun a n c h => by have := (owns_cap HOW.out).1; simp only [Value.slice.injEq] at h; omega)
      have hgl : g < wa.heap.size := (HOW.out.lt g rfl).2
      have hzwa : w1.heap.size ≤ wa.heap.size := HBW.out.size
      have HR := Lib.hid (show ∀ W, Below wa.heap.size wa W → Reads W 1 (.slice (some ⟨g, 0, none⟩) j cl) (evNs j).length ((evNs j).map (Value.int .i64)) from fun W hb => by rw [evNs_len]; exact reads_of_owns (ownsRow_below HOW.out hb))
      have HC := Lib.hid (show ∀ W, Below wa.heap.size wa W → ∀ t : Nat, t < j → W.cell? ⟨g, t, none⟩ = some (.int .i64 (2 * (t : Int))) from fun W hb t ht => by
        rw [(ownsRow_below HOW.out hb).cellAt t (by omega), List.getElem?_map, evNs_get ht]
        rfl)
      have HN := Lib.hid (evNs_right hk10)
      have HLN := Lib.hid (evNs_len j)
      obtain ⟨V, hV⟩ : ∃ V : Nat, (V : Int) = v % 40 := ⟨(v % 40).toNat, by omega⟩
      have hV1 : V ≤ 39 := by omega
      have HVV := Lib.hid hV.symm
      clear hV
      go_wp2_with fail
      go_loopw [11] (fun i wr => ∃ (t : Nat) (vm : Value) (es : List Ent), t ≤ V ∧ i = .int .i64 t ∧ MapAt wr wa.heap.size wa.heap.size vm es ∧ EvSt (evNs j) t es ∧ Bal (evNs j) es ∧ Below wa.heap.size wa wr) (fun i _ => V - (intOf i).toNat)
      case atStart => exact ⟨0, .slice none 0 0, [], Nat.zero_le _, rfl, MapAt.made wa _ (Nat.le_refl _), ⟨nodes_nil, fun x hx => by simp at hx, rfl, fun i x hx => by simp at hx⟩, fun _ _ _ _ => Nat.zero_le _, (by repeat (first | (with_reducible exact Below.refl _ _) | (with_reducible refine Below.setCell ?_ ?_ _) | (with_reducible refine Below.alloc ?_ ?_ _) | (with_reducible refine Below.drewN ?_ _) | (with_reducible refine Below.drew ?_) | (with_reducible exact Nat.le_refl _) | (focus (simp only [World.size_alloc, World.size_setCell, World.size_drew, World.size_drewN]; omega)) | omega | exact Nat.le_refl _ | (focus (simp; done)) | (focus (simp; omega))))⟩
      case round =>
        obtain ⟨t, vm, es, ht, rfl, hm, hst, hbal, hb⟩ := hrel
        have HM := Lib.hid hm
        have HST := Lib.hid hst
        have HBAL := Lib.hid hbal
        have HB := Lib.hid hb
        have hzr := hb.size
        clear hm hst hbal hb
        by_cases hlt : t < V
        · have ht0 : (0 : Int) ≤ (t : Int) := by omega
          have ht1 : (t : Int) < v % 40 := by rw [HVV.out]; omega
          go_wp2_with fail
          refine (pnew_any wa.heap.size wa.heap.size vm _ es (evNs j) _ HM.out HST.out.nodes (HR.out _ HB.out) HCAP.out HN.out (by rw [HLN.out]; exact hk3)).mono ?_
          rintro e w5 ⟨a, b, c, w4, habc, hb4, hdo⟩
          have hmade := HST.out.made HN.out HBAL.out (by omega) habc
          have HMADE := Lib.hid hmade.2
          have HU := Lib.hid (hdo.under (w0 := wa) (HM.out.below hb4) (Nat.le_refl _) (HB.out.trans (hb4.mono hzr)))
          rw [hmade.1] at hdo
          obtain ⟨rfl, v5, hm5, _, _⟩ := hdo
          rw [show errV ((0 : Nat) : Int) = .nilIface from rfl]
          obtain ⟨dn, hdn⟩ : ∃ dn, dn = doN es ⟨1, 0, 0, 0, 0, a, b, c⟩ := ⟨_, rfl⟩
          rw [← hdn]
          have HM5 := Lib.hid hm5
          clear hmade hm5 hb4 habc hdn
          go_wp2_with fail
          refine (code_any 0 (by omega) (by omega) _).mono ?_
          rintro e w6 ⟨rfl, rfl⟩
          go_wp2_with fail
          go_roundw
          case rel => exact ⟨t + 1, v5, _, by omega, by go_num, HM5.out, HMADE.out.1, HMADE.out.2, HU.out⟩
          case measure => simp [intOf]; omega
        · have htV : t = V := by omega
          subst htV
          have ht1 : decide ((t : Int) < v % 40) = false := by rw [HVV.out]; simp
          go_wp2_with fail
          obtain ⟨wb, rfl⟩ : ∃ W : World, W = wr := ⟨_, rfl⟩
          have hlen := HST.out.len
          try rw [ht1]
          clear ht1
          go_loopw [14, 15, 16] (fun x y i wr => ∃ (q : Nat) (a b : Int), q ≤ j ∧ i = .int .i64 q ∧ x = .int .i64 a ∧ y = .int .i64 b ∧ Below wb.heap.size wb wr ∧ ((q = 0 ∧ a = 1000 ∧ b = 0) ∨ ∃ c d, c ∈ evNs j ∧ d ∈ evNs j ∧ a = (loadN es c : Int) ∧ b = (loadN es d : Int))) (fun _ _ i _ => j - (intOf i).toNat)
          case atStart => exact ⟨0, 1000, 0, Nat.zero_le _, rfl, rfl, rfl, Below.refl _ _, .inl ⟨rfl, rfl, rfl⟩⟩
          case round =>
            obtain ⟨q, a, b, hq, rfl, rfl, rfl, hb3, hab⟩ := hrel
            have HB3 := Lib.hid hb3
            have HAB := Lib.hid hab
            have hz3 := hb3.size
            clear hb3 hab
            by_cases hqlt : q < j
            · have hq0 : (0 : Int) ≤ (q : Int) := by omega
              have hq1 : (q : Int) < (j : Int) := by omega
              have hcell := HC.out wr (HB.out.trans (HB3.out.mono hzr)) q hqlt
              have hgw : g < wr.heap.size := by omega
              go_wp2_with fail
              refine (pload_any wa.heap.size wa.heap.size vm es (2 * (q : Int)) _ (HM.out.below HB3.out)).mono ?_
              rintro e w4 ⟨rfl, hb4⟩
              have HB4 := Lib.hid (HB3.out.trans (hb4.mono hz3))
              have hz4 := HB4.out.size
              have hcell4 := HC.out w4 (HB.out.trans (HB4.out.mono hzr)) q hqlt
              have hgw4 : g < w4.heap.size := by omega
              clear hb4
              go_wp2_with fail
              refine (pload_any wa.heap.size wa.heap.size vm es (2 * (q : Int)) _ (HM.out.below HB4.out)).mono ?_
              rintro e w5 ⟨rfl, hb5⟩
              have HB5 := Lib.hid (HB4.out.trans (hb5.mono hz4))
              clear hb5 hcell hcell4
              go_wp2_with fail
              go_roundw
              case rel =>
                refine ⟨q + 1, _, _, by omega, by go_num, rfl, rfl, HB5.out, .inr ?_⟩
                have hmem : 2 * (q : Int) ∈ evNs j := List.mem_of_getElem? (evNs_get hqlt)
                have hle := loadN_le es (2 * (q : Int))
                rcases HAB.out with ⟨_, rfl, rfl⟩ | ⟨c, d, hc, hd, rfl, rfl⟩
                · exact ⟨_, _, hmem, hmem, by omega, by omega⟩
                · obtain ⟨c', hc', ec⟩ : ∃ c', c' ∈ evNs j ∧ min (loadN es c : Int) (loadN es (2 * (q : Int))) = (loadN es c' : Int) := by
                    by_cases h : loadN es c ≤ loadN es (2 * (q : Int))
                    · exact ⟨c, hc, by omega⟩
                    · exact ⟨_, hmem, by omega⟩
                  obtain ⟨d', hd', ed⟩ : ∃ d', d' ∈ evNs j ∧ max (loadN es d : Int) (loadN es (2 * (q : Int))) = (loadN es d' : Int) := by
                    by_cases h : loadN es d ≤ loadN es (2 * (q : Int))
                    · exact ⟨_, hmem, by omega⟩
                    · exact ⟨d, hd, by omega⟩
                  exact ⟨c', d', hc', hd', ec, ed⟩
              case measure => simp [intOf]; omega
            · have hgap : b - a ≤ 1 ∧ -9223372036854775808 ≤ b - a := by
                rcases HAB.out with ⟨h0, _⟩ | ⟨c, d, hc, hd, rfl, rfl⟩
                · omega
                · have := HBAL.out d hd c hc
                  have := loadN_le es c
                  omega
              have hsub : IntKind.i64.wrap (b - a) = b - a := IntWalk.i64_in _ (by omega)
              have hgap1 : decide (1 < b - a) = false := by simp; omega
              obtain ⟨m, hm⟩ : ∃ m : Nat, (m : Int) = lv % (j : Int) := ⟨(lv % (j : Int)).toNat, by have := Int.emod_nonneg lv (b := (j : Int)) (by omega); omega⟩
              have hmj : m < j := by have := Int.emod_lt_of_pos lv (b := (j : Int)) (by omega); omega
              have hcell := HC.out wr (HB.out.trans (HB3.out.mono hzr)) m hmj
              have hgw : g < wr.heap.size := by omega
              have hm0 : 0 ≤ lv % (j : Int) := by omega
              have hm1 : lv % (j : Int) < (j : Int) := by omega
              have hmt : (lv % (j : Int)).toNat = m := by omega
              obtain ⟨gone, hgone⟩ : ∃ gone, gone = 2 * (m : Int) := ⟨_, rfl⟩
              rw [← hgone] at hcell
              have HGO := Lib.hid (show gone ∈ evNs j from hgone ▸ List.mem_of_getElem? (evNs_get hmj))
              rw [← hmt] at hcell
              clear hgone hm hmt
              have HB4 := Lib.hid (HB.out.trans (HB3.out.mono hzr))
              have HM4 := Lib.hid (HM.out.below HB3.out)
              have hz4 := HB4.out.size
              go_wp2_with fail
              refine (pleave_any wa.heap.size wa.heap.size vm _ es (evNs j) gone _ HM4.out HST.out.nodes (HR.out _ HB4.out) HCAP.out HN.out).mono ?_
              rintro e w6 hL
              by_cases hfull : j = 3 ∧ 0 < loadN es gone
              · rw [leave_full HN.out (by rw [HLN.out]; exact hfull.1) HST.out.ins HST.out.nodes hfull.2] at hL
                obtain ⟨rfl, hb6⟩ := hL
                have HB6 := Lib.hid hb6
                have HB46 := Lib.hid (HB4.out.trans (hb6.mono hz4))
                have hz6 := HB46.out.size
                have hpos : (0 : Int) < (loadN es gone : Int) := by have := hfull.2; omega
                have hj3 := hfull.1
                clear hb6 hfull
                go_wp2_with fail
                refine (pload_any wa.heap.size wa.heap.size vm es gone _ (HM4.out.below HB6.out)).mono ?_
                rintro e w7 ⟨rfl, hb7⟩
                have HB7 := Lib.hid (HB46.out.trans (hb7.mono hz6))
                clear hb7
                go_wp2_with fail
                refine (code_any 11 (by omega) (by omega) _).mono ?_
                rintro e w8 ⟨rfl, rfl⟩
                go_wp2_with fail
                go_ret
                exact ⟨rfl, HB1.out.trans ((HBW.out.trans (HB7.out.mono hzwa)).mono hz1)⟩
              · obtain ⟨ms, hms, hmg, hpw, hml⟩ := leave_goes HN.out (by rw [HLN.out]; exact hk3) HST.out.vols (by rw [HLN.out]; exact hfull)
                rw [hms] at hL
                obtain ⟨v6, rfl, ho6, hb6⟩ := hL
                obtain ⟨a6, c6, rfl⟩ := ownsRow_len ho6
                have HMG := Lib.hid hmg
                have HPW := Lib.hid hpw
                have HML := Lib.hid hml
                have HO6 := Lib.hid ho6
                have HB6 := Lib.hid hb6
                have HB46 := Lib.hid (HB4.out.trans (hb6.mono hz4))
                have hz6 := HB46.out.size
                clear hms hmg hpw hml ho6 hb6
                obtain ⟨Q, hq1, hq2⟩ : ∃ Q, j * Q ≤ 3 * t ∧ 3 * t < j * (Q + 1) := ⟨3 * t / j, Nat.mul_div_le _ _, Nat.lt_mul_div_succ _ (by omega)⟩
                have hq3 : 3 * Q ≤ j * Q := Nat.mul_le_mul_right Q hk3
                have HQ1 := Lib.hid hq1
                have HQ2 := Lib.hid hq2
                have hQ : Q ≤ 39 := by omega
                clear hq1 hq2 hq3
                go_wp2_with fail
                have hz0 : loadN es gone = 0 := by omega
                refine (pload_any wa.heap.size wa.heap.size vm es gone _ (HM4.out.below HB6.out)).mono ?_
                rintro e w7 ⟨rfl, hb7⟩
                rw [hz0]
                have HB67 := Lib.hid hb7
                clear hb7 hz0
                go_wp2_with fail
                rotate_left
                obtain ⟨w7, rfl⟩ : ∃ W : World, W = w6 := ⟨_, rfl⟩
                have HB67 := Lib.hid (Below.refl w7.heap.size w7)
                all_goals
                  have HB7 := Lib.hid (HB46.out.trans (HB67.out.mono hz6))
                  have hz7 := HB7.out.size
                  have HM7 := Lib.hid (HM4.out.below (HB6.out.trans (HB67.out.mono HB6.out.size)))
                  have HO7 := Lib.hid (ownsRow_below HO6.out HB67.out)
                  clear HB67
                  go_loopw [20] (fun i wr => ∃ (q2 : Nat) (vm' : Value) (es' : List Ent), q2 ≤ ms.length ∧ i = .int .i64 q2 ∧ MapAt wr wa.heap.size wa.heap.size vm' es' ∧ LvInv (evNs j) t Q gone ms q2 es' ∧ wr.ownsRow wb.heap.size 94 4 (.slice a6 ms.length c6) ms.length (ms.flatMap Mv.row) ∧ Below wa.heap.size wa wr) (fun i _ => ms.length - (intOf i).toNat)
                  case atStart => exact ⟨0, vm, es, Nat.zero_le _, rfl, HM7.out, ⟨HST.out, HMG.out, fun i hi _ => bal_low HST.out HN.out HBAL.out (by rw [HLN.out]; exact HQ1.out) hi, HML.out.symm⟩, ownsRow_mono HO7.out hz3, HB7.out⟩
                  case round =>
                    obtain ⟨q2, vm', es', hq2, rfl, hm', hlv, ho', hb'⟩ := hrel
                    have HM' := Lib.hid hm'
                    have HLV := Lib.hid hlv
                    have HO' := Lib.hid ho'
                    have HB' := Lib.hid hb'
                    have hz' := hb'.size
                    have hbig : ms.length ≤ 4096 := by have := HML.out; have := loadN_le es gone; omega
                    clear hm' hlv ho' hb'
                    by_cases hlt2 : q2 < ms.length
                    · obtain ⟨x, hx⟩ : ∃ x, ms[q2]? = some x := ⟨_, List.getElem?_eq_getElem hlt2⟩
                      obtain ⟨g6, cc6, e6, hg6, hc6, x0, x1, x2, x3⟩ := row_mv HO'.out q2 x hx
                      obtain ⟨e6', -, e6''⟩ := sl_inj e6
                      subst e6' e6''
                      have hstep := HLV.out.step HN.out HPW.out hx
                      obtain ⟨xv, xe, xa, xn⟩ := x
                      have HK := Lib.hid (show doK es' ⟨4, xv, xe, xa, xn, 0, 0, 0⟩ = 0 from hstep.1)
                      have HLV2 := Lib.hid (show LvInv (evNs j) t Q gone ms (q2 + 1) (doEs es' ⟨4, xv, xe, xa, xn, 0, 0, 0⟩) from hstep.2)
                      obtain ⟨dn, hdn⟩ : ∃ dn, dn = doN es' ⟨4, xv, xe, xa, xn, 0, 0, 0⟩ := ⟨_, rfl⟩
                      have HDN := Lib.hid hdn
                      clear hdn
                      simp only at x0 x1 x2 x3
                      have hq20 : (0 : Int) ≤ (q2 : Int) := by omega
                      have hq21 : (q2 : Int) < (ms.length : Int) := by omega
                      clear hx e6 hstep
                      go_wp2_with fail
                      refine wp_region_mask0 (fun w1 => w1 = _) [5, 10, 15, 20] [0, 0, 0, 6, 14, 30, 0, 0, 192, 448, 960, 0, 0, 6144, 14336, 30720, 0, 0, 196608, 458752, 983040, 2097150, 4194303, 8388607, 16777215, 16777215, 33554431, 134217727] (.op 0 0 (.op 1 0 (.op 2 0 (.op 3 0 (.op 4 0 (.op 5 2 (.op 6 0 (.op 7 0 (.op 8 0 (.op 9 0 (.op 10 2 (.op 11 0 (.op 12 0 (.op 13 0 (.op 14 0 (.op 15 2 (.op 16 0 (.op 17 0 (.op 18 0 (.op 19 0 (.op 20 2 (.op 21 0 (.op 22 1 (.op 23 0 (.op 24 0 (.op 25 0 (.op 26 0 (.op 27 0 .nil)))))))))))))))))))))))))))) (by kernel_rfl) (by kernel_rfl) rfl (by kernel_rfl) (by kernel_rfl) rfl ?_
                      refine stepM0 rfl rfl (fun K hK => ?_)
                      go_simp
                      refine hK _ ?_
                      clear hK K
                      refine stepM0 rfl rfl (fun K hK => ?_)
                      go_simp
                      refine hK _ ?_
                      clear hK K
                      refine stepM0 rfl rfl (fun K hK => ?_)
                      go_simp
                      refine hK _ ?_
                      clear hK K
                      refine stepM0 rfl rfl (fun K hK => ?_)
                      go_simp
                      refine hK _ ?_
                      clear hK K
                      refine stepM0 rfl rfl (fun K hK => ?_)
                      go_simp
                      refine hK _ ?_
                      clear hK K
                      refine stepM2 rfl rfl ?_ (fun w1 hS => ?_) (fun K hK => ?_)
                      rotate_left
                      focus (obtain rfl : w1 = _ := hS; go_simp; rfl)
                      go_simp
                      refine hK _ ?_
                      clear hK K
                      refine stepM0 rfl rfl (fun K hK => ?_)
                      go_simp
                      refine hK _ ?_
                      clear hK K
                      refine stepM0 rfl rfl (fun K hK => ?_)
                      go_simp
                      refine hK _ ?_
                      clear hK K
                      refine stepM0 rfl rfl (fun K hK => ?_)
                      go_simp
                      refine hK _ ?_
                      clear hK K
                      refine stepM0 rfl rfl (fun K hK => ?_)
                      go_simp
                      refine hK _ ?_
                      clear hK K
                      refine stepM2 rfl rfl ?_ (fun w1 hS => ?_) (fun K hK => ?_)
                      rotate_left
                      focus (obtain rfl : w1 = _ := hS; go_simp; rfl)
                      go_simp
                      refine hK _ ?_
                      clear hK K
                      refine stepM0 rfl rfl (fun K hK => ?_)
                      go_simp
                      refine hK _ ?_
                      clear hK K
                      refine stepM0 rfl rfl (fun K hK => ?_)
                      go_simp
                      refine hK _ ?_
                      clear hK K
                      refine stepM0 rfl rfl (fun K hK => ?_)
                      go_simp
                      refine hK _ ?_
                      clear hK K
                      refine stepM0 rfl rfl (fun K hK => ?_)
                      go_simp
                      refine hK _ ?_
                      clear hK K
                      refine stepM2 rfl rfl ?_ (fun w1 hS => ?_) (fun K hK => ?_)
                      rotate_left
                      focus (obtain rfl : w1 = _ := hS; go_simp; rfl)
                      go_simp
                      refine hK _ ?_
                      clear hK K
                      refine stepM0 rfl rfl (fun K hK => ?_)
                      go_simp
                      refine hK _ ?_
                      clear hK K
                      refine stepM0 rfl rfl (fun K hK => ?_)
                      go_simp
                      refine hK _ ?_
                      clear hK K
                      refine stepM0 rfl rfl (fun K hK => ?_)
                      go_simp
                      refine hK _ ?_
                      clear hK K
                      refine stepM0 rfl rfl (fun K hK => ?_)
                      go_simp
                      refine hK _ ?_
                      clear hK K
                      refine stepM2 rfl rfl ?_ (fun w1 hS => ?_) (fun K hK => ?_)
                      rotate_left
                      focus (obtain rfl : w1 = _ := hS; go_simp; rfl)
                      go_simp
                      refine hK _ ?_
                      clear hK K
                      refine stepM0 rfl rfl (fun K hK => ?_)
                      go_simp
                      refine hK _ ?_
                      clear hK K
                      refine stepM1 rfl rfl (by kernel_rfl) (fun K hK => ?_)
                      (go_wp2_with fail; refine Calls.mono (do_any wa.heap.size wa.heap.size vm' es' ⟨4, xv, xe, xa, xn, 0, 0, 0⟩ _ (HM'.out.below (by repeat (first | (with_reducible exact Below.refl _ _) | (with_reducible refine Below.setCell ?_ ?_ _) | (with_reducible refine Below.alloc ?_ ?_ _) | (with_reducible refine Below.drewN ?_ _) | (with_reducible refine Below.drew ?_) | (with_reducible exact Nat.le_refl _) | (focus (simp only [World.size_alloc, World.size_setCell, World.size_drew, World.size_drewN]; omega)) | omega | exact Nat.le_refl _ | (focus (simp; done)) | (focus (simp; omega)))))) ?_; rintro e w8 hdo; have hu8 := hdo.under (w0 := wa) (HM'.out.below (by repeat (first | (with_reducible exact Below.refl _ _) | (with_reducible refine Below.setCell ?_ ?_ _) | (with_reducible refine Below.alloc ?_ ?_ _) | (with_reducible refine Below.drewN ?_ _) | (with_reducible refine Below.drew ?_) | (with_reducible exact Nat.le_refl _) | (focus (simp only [World.size_alloc, World.size_setCell, World.size_drew, World.size_drewN]; omega)) | omega | exact Nat.le_refl _ | (focus (simp; done)) | (focus (simp; omega))))) (Nat.le_refl _) (Below.trans HB'.out (by repeat (first | (with_reducible exact Below.refl _ _) | (with_reducible refine Below.setCell ?_ ?_ _) | (with_reducible refine Below.alloc ?_ ?_ _) | (with_reducible refine Below.drewN ?_ _) | (with_reducible refine Below.drew ?_) | (with_reducible exact Nat.le_refl _) | (focus (simp only [World.size_alloc, World.size_setCell, World.size_drew, World.size_drewN]; omega)) | omega | exact Nat.le_refl _ | (focus (simp; done)) | (focus (simp; omega))))); have hs8 := hdo.besideM (HM'.out.below (by repeat (first | (with_reducible exact Below.refl _ _) | (with_reducible refine Below.setCell ?_ ?_ _) | (with_reducible refine Below.alloc ?_ ?_ _) | (with_reducible refine Below.drewN ?_ _) | (with_reducible refine Below.drew ?_) | (with_reducible exact Nat.le_refl _) | (focus (simp only [World.size_alloc, World.size_setCell, World.size_drew, World.size_drewN]; omega)) | omega | exact Nat.le_refl _ | (focus (simp; done)) | (focus (simp; omega))))) (ownsRow_below HO'.out (by repeat (first | (with_reducible exact Below.refl _ _) | (with_reducible refine Below.setCell ?_ ?_ _) | (with_reducible refine Below.alloc ?_ ?_ _) | (with_reducible refine Below.drewN ?_ _) | (with_reducible refine Below.drew ?_) | (with_reducible exact Nat.le_refl _) | (focus (simp only [World.size_alloc, World.size_setCell, World.size_drew, World.size_drewN]; omega)) | omega | exact Nat.le_refl _ | (focus (simp; done)) | (focus (simp; omega))))); rw [HK.out, ← HDN.out] at hdo; obtain ⟨rfl, v8, hm8, _, _⟩ := hdo; rw [show errV ((0 : Nat) : Int) = .nilIface from rfl]; have HU8 := Lib.hid hu8; have HS8 := Lib.hid hs8; have HM8 := Lib.hid hm8; clear hu8 hs8 hm8; go_wp2)
                      refine stepM0 rfl rfl (fun K hK => ?_)
                      go_simp
                      refine hK _ ?_
                      clear hK K
                      refine stepM0 rfl rfl (fun K hK => ?_)
                      go_simp
                      refine hK _ ?_
                      clear hK K
                      refine stepM0 rfl rfl (fun K hK => ?_)
                      go_simp
                      refine hK _ ?_
                      clear hK K
                      refine stepM0 rfl rfl (fun K hK => ?_)
                      go_simp
                      refine hK _ ?_
                      clear hK K
                      refine stepM0 rfl rfl (fun K hK => ?_)
                      go_simp
                      refine hK _ ?_
                      clear hK K
                      try refine stepMnil0 ?_
                      go_wp2_with fail
                      refine (code_any 0 (by omega) (by omega) _).mono ?_
                      rintro e w9 ⟨rfl, rfl⟩
                      go_wp2_with fail
                      go_roundw
                      case rel => exact ⟨q2 + 1, v8, _, by omega, by go_num, HM8.out, HLV2.out, HS8.out, HU8.out⟩
                      case measure => simp [intOf]; omega
                    · obtain ⟨wc, rfl⟩ : ∃ W : World, W = wr := ⟨_, rfl⟩
                      have hdone := (show LvInv (evNs j) t Q gone ms ms.length es' by have := HLV.out; rwa [show q2 = ms.length by omega] at this).done HN.out HGO.out (by rw [HLN.out]; exact HQ2.out)
                      rw [HLN.out] at hdone
                      have HD0 := Lib.hid hdone.1
                      have hmu : muL Q (evNs j) es' < 88 := by have := hdone.2; omega
                      clear hdone
                      go_wp2_with fail
                      refine (code_any 0 (by omega) (by omega) _).mono ?_
                      rintro e w8 ⟨rfl, rfl⟩
                      go_wp2_with fail
                      refine (pload_any wa.heap.size wa.heap.size vm' es' gone _ HM'.out).mono ?_
                      rintro e w8 ⟨rfl, hb8⟩
                      rw [HD0.out]
                      have HM8 := Lib.hid (HM'.out.below hb8)
                      have HB8 := Lib.hid (HB'.out.trans (hb8.mono hz'))
                      clear hb8
                      go_wp2_with fail
                      go_loopw [23] (fun i wr => ∃ (q3 : Nat) (vm3 : Value) (es3 : List Ent), i = .int .i64 q3 ∧ MapAt wr wa.heap.size wa.heap.size vm3 es3 ∧ EvSt (evNs j) t es3 ∧ muL Q (evNs j) es3 + q3 < 200 ∧ Below wa.heap.size wa wr) (fun i _ => 200 - (intOf i).toNat)
                      case atStart => exact ⟨0, vm', es', rfl, HM8.out, HLV.out.st, by omega, HB8.out⟩
                      case round =>
                        obtain ⟨q3, vm3, es3, rfl, hm3, hst3, hmu3, hb3⟩ := hrel
                        have HM3 := Lib.hid hm3
                        have HST3 := Lib.hid hst3
                        have HB3 := Lib.hid hb3
                        have hzr3 := hb3.size
                        have hq3 : (q3 : Int) < 200 := by omega
                        clear hm3 hst3 hb3
                        go_wp2_with fail
                        refine (peven_any wa.heap.size wa.heap.size vm3 _ es3 (evNs j) _ HM3.out HST3.out.nodes (HR.out _ HB3.out) HCAP.out HN.out (by rw [HLN.out]; omega)).mono ?_
                        rintro e w9 ⟨rfl, hb9⟩
                        have HM9 := Lib.hid (HM3.out.below hb9)
                        have HB9 := Lib.hid (HB3.out.trans (hb9.mono hzr3))
                        have hz9 := HB9.out.size
                        clear hb9
                        rcases hev : evenI es3 (evNs j) with _ | ⟨xv, xe, xa, xn⟩
                        · rw [show mvVal none = .agg #[.int .i64 0, .int .i64 0, .int .i64 0, .int .i64 0] from rfl, show (none : Option Mv).isSome = false from rfl]
                          clear hev
                          go_wp2_with fail
                          refine (code_any 0 (by omega) (by omega) _).mono ?_
                          rintro e w10 ⟨rfl, rfl⟩
                          go_wp2_with fail
                          refine (porder_nil _ _ _ _).mono ?_
                          rintro e w10 ⟨rfl, rfl⟩
                          go_wp2_with fail
                          refine (pnew_nil _ _ _ _).mono ?_
                          rintro e w11 ⟨rfl, hb11⟩
                          have HB11 := Lib.hid (show Below wa.heap.size wa w11 from (HB9.out.alloc hz9 _).trans (hb11.mono (by simp; omega)))
                          clear hb11
                          go_wp2_with fail
                          refine (code_any 15 (by omega) (by omega) _).mono ?_
                          rintro e w12 ⟨rfl, rfl⟩
                          go_wp2_with fail
                          refine (code_any 15 (by omega) (by omega) _).mono ?_
                          rintro e w12 ⟨rfl, rfl⟩
                          go_wp2_with fail
                          refine (pload_nil _ _).mono ?_
                          rintro e w12 ⟨rfl, rfl⟩
                          go_wp2_with fail
                          go_ret
                          exact ⟨rfl, HB1.out.trans ((HBW.out.trans (HB11.out.mono hzwa)).mono hz1)⟩
                        · have hes := even_step (q := Q) HST3.out HN.out (by rw [HLN.out]; omega) (by rw [HLN.out]; exact HQ1.out) (by rw [HLN.out]; exact HQ2.out) hev
                          have HK := Lib.hid (show doK es3 ⟨4, xv, xe, xa, xn, 0, 0, 0⟩ = 0 from hes.1)
                          have HST4 := Lib.hid (show EvSt (evNs j) t (doEs es3 ⟨4, xv, xe, xa, xn, 0, 0, 0⟩) from hes.2.1)
                          have hmu4 : muL Q (evNs j) (doEs es3 ⟨4, xv, xe, xa, xn, 0, 0, 0⟩) + 1 ≤ muL Q (evNs j) es3 := hes.2.2
                          obtain ⟨dn, hdn⟩ : ∃ dn, dn = doN es3 ⟨4, xv, xe, xa, xn, 0, 0, 0⟩ := ⟨_, rfl⟩
                          have HDN := Lib.hid hdn
                          rw [show mvVal (some ⟨xv, xe, xa, xn⟩) = .agg #[.int .i64 xv, .int .i64 xe, .int .i64 xa, .int .i64 xn] from rfl, show (some (⟨xv, xe, xa, xn⟩ : Mv)).isSome = true from rfl]
                          clear hev hes hdn
                          go_wp2_with fail
                          refine (code_any 0 (by omega) (by omega) _).mono ?_
                          rintro e w10 ⟨rfl, rfl⟩
                          go_wp2_with fail
                          refine (do_any wa.heap.size wa.heap.size vm3 es3 ⟨4, xv, xe, xa, xn, 0, 0, 0⟩ _ (HM9.out.below (by repeat (first | (with_reducible exact Below.refl _ _) | (with_reducible refine Below.setCell ?_ ?_ _) | (with_reducible refine Below.alloc ?_ ?_ _) | (with_reducible refine Below.drewN ?_ _) | (with_reducible refine Below.drew ?_) | (with_reducible exact Nat.le_refl _) | (focus (simp only [World.size_alloc, World.size_setCell, World.size_drew, World.size_drewN]; omega)) | omega | exact Nat.le_refl _ | (focus (simp; done)) | (focus (simp; omega)))))).mono ?_
                          rintro e w11 hdo
                          have hu11 := hdo.under (w0 := wa) (HM9.out.below (by repeat (first | (with_reducible exact Below.refl _ _) | (with_reducible refine Below.setCell ?_ ?_ _) | (with_reducible refine Below.alloc ?_ ?_ _) | (with_reducible refine Below.drewN ?_ _) | (with_reducible refine Below.drew ?_) | (with_reducible exact Nat.le_refl _) | (focus (simp only [World.size_alloc, World.size_setCell, World.size_drew, World.size_drewN]; omega)) | omega | exact Nat.le_refl _ | (focus (simp; done)) | (focus (simp; omega))))) (Nat.le_refl _) (HB9.out.alloc hz9 _)
                          rw [HK.out, ← HDN.out] at hdo
                          obtain ⟨rfl, v11, hm11, _, _⟩ := hdo
                          rw [show errV ((0 : Nat) : Int) = .nilIface from rfl]
                          have HU11 := Lib.hid hu11
                          have HM11 := Lib.hid hm11
                          clear hu11 hm11
                          go_wp2_with fail
                          refine (code_any 0 (by omega) (by omega) _).mono ?_
                          rintro e w12 ⟨rfl, rfl⟩
                          go_wp2_with fail
                          go_roundw
                          case rel => exact ⟨q3 + 1, v11, _, by go_num, HM11.out, HST4.out, by omega, HU11.out⟩
                          case measure => simp [intOf]; omega
end Go.Proofs.Ytigkcbnlbdiimaa

/- An argument that is a byte: its bounds; an argument that is an int: its bounds. -/
namespace Go.Proofs.Ytigkcbnlbdiimaa
open Go.ChangeShapes Go.WideShapes Go.ChangeAt Go.RowKit
theorem u8_of {H : Type} {enc : TypeId × Value → H} {W : World} {base : Nat} {spare : Nat → Bool} {held : Bool} {v : Value} {d : DataW H} {p : List MemPlace} (h : DataW.Trod enc Try.prog W base spare held 5 v d p) (n : Int) (hv : v = .int .u8 n) :
    0 ≤ n ∧ n ≤ 255 := by
  obtain ⟨fuel, hf⟩ := h
  obtain ⟨k, hk, _, hw⟩ := DataW.trod_int Try.underlying5 hf
  subst hv
  simp [Value.cells] at hk
  subst hk
  simp [Lit.wf] at hw
  have e1 : IntKind.u8.min = 0 := by decide
  have e2 : IntKind.u8.max = 255 := by decide
  exact ⟨by omega, by omega⟩
theorem i64_of {H : Type} {enc : TypeId × Value → H} {W : World} {base : Nat} {spare : Nat → Bool} {held : Bool} {v : Value} {d : DataW H} {p : List MemPlace} (h : DataW.Trod enc Try.prog W base spare held 3 v d p) (n : Int) (hv : v = .int .i64 n) :
    -9223372036854775808 ≤ n ∧ n ≤ 9223372036854775807 := by
  obtain ⟨fuel, hf⟩ := h
  obtain ⟨k, hk, _, hw⟩ := DataW.trod_int Try.underlying3 hf
  subst hv
  simp [Value.cells] at hk
  subst hk
  simp [Lit.wf] at hw
  have e1 : IntKind.i64.min = -9223372036854775808 := by decide
  have e2 : IntKind.i64.max = 9223372036854775807 := by decide
  exact ⟨by omega, by omega⟩
end Go.Proofs.Ytigkcbnlbdiimaa
