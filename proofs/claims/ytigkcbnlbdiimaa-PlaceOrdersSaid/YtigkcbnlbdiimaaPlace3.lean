/- corncribref27.Right; corncriblaw27.made. -/
import Derived.Test.YtigkcbnlbdiimaaPlace2
namespace Go.Proofs.Ytigkcbnlbdiimaa
open Go.RowKit
set_option maxRecDepth 100000 in
set_option maxHeartbeats 4000000 in
theorem rright_any (v : Value) (ns : List Int) (w : World) (h : Reads w 1 v ns.length (ns.map (Value.int .i64))) :
    Calls Try.prog 47 #[v] w fun e w' => e = .returned (.bool (rightB ns)) ∧ Below w.heap.size w w' := by
  obtain ⟨ao, cap, rfl⟩ := reads_len h
  have H := Lib.hid h
  clear h
  go_enter Try.func47, Try.ntmps47
  go_wp2_with fail
  go_loopw [3, 4] (fun i _ wr => ∃ k : Nat, k ≤ ns.length ∧ i = .int .i64 k ∧ prefOk ns k = true ∧ Below w.heap.size w wr) (fun i _ _ => ns.length - (intOf i).toNat)
  case atStart => exact ⟨0, Nat.zero_le _, rfl, rfl, Below.refl _ _⟩
  case round =>
    obtain ⟨k, hk, rfl, hp, hbw⟩ := hrel
    have HP := Lib.hid hp
    have HBW := Lib.hid hbw
    have hzr := hbw.size
    clear hp hbw
    by_cases hlt : k < ns.length
    · obtain ⟨b, o, c, e1, hb, hm, hc⟩ := ints_at H.out (by omega)
      obtain ⟨rfl, -, rfl⟩ := sl_inj e1
      unfold maxLen at hm
      have kc := (HBW.out.cell (p := ⟨b, o + k, none⟩) hb).trans (hc k hlt)
      have HC := Lib.hid hc
      have HS := Lib.hid (prefOk_succ ns k)
      have HF := Lib.hid (fun h => prefOk_false (ns := ns) (k := k + 1) (m := ns.length) h (by omega))
      clear hc e1
      obtain ⟨x, hx⟩ : ∃ x, ns.getD k 0 = x := ⟨_, rfl⟩
      rw [hx] at kc
      have HX := Lib.hid hx
      clear hx
      have hk0 : (0 : Int) ≤ (k : Int) := by omega
      have hk1 : (k : Int) < (ns.length : Int) := by omega
      by_cases hx0 : x < 0
      · have HPL := Lib.hid (show placeB x = false by simp [placeB]; omega)
        go_wp2_with fail
        go_ret
        exact ⟨by unfold rightB; rw [HF.out (by rw [HS.out, HX.out, HPL.out]; simp)]; simp, HBW.out⟩
      have hx0' : decide (x < 0) = false := by simpa using hx0
      by_cases hx1 : 255 < x
      · have HPL := Lib.hid (show placeB x = false by simp [placeB]; omega)
        clear hx0
        go_wp2_with fail
        go_ret
        exact ⟨by unfold rightB; rw [HF.out (by rw [HS.out, HX.out, HPL.out]; simp)]; simp, HBW.out⟩
      have hx1' : decide (255 < x) = false := by simpa using hx1
      have HPL := Lib.hid (show placeB x = true by simp [placeB]; omega)
      clear hx0 hx1
      obtain ⟨wo, rfl⟩ : ∃ wo : World, wo = wr := ⟨_, rfl⟩
      go_wp2_with fail
      go_loopw [4] (fun i wx => ∃ j : Nat, j ≤ k ∧ i = .int .i64 j ∧ (∀ m, m < j → ns.getD m 0 ≠ x) ∧ Below w.heap.size w wx) (fun i _ => k - (intOf i).toNat)
      case atStart => exact ⟨0, Nat.zero_le _, rfl, fun m hm => absurd hm (by omega), HBW.out⟩
      case round =>
        obtain ⟨j, hj, rfl, hall, hbx⟩ := hrel
        have HALL := Lib.hid hall
        have HBX := Lib.hid hbx
        clear hall hbx kc
        by_cases hjk : j < k
        · obtain ⟨y, hy⟩ : ∃ y, ns.getD j 0 = y := ⟨_, rfl⟩
          have kc := (HBX.out.cell (p := ⟨b, o + k, none⟩) hb).trans (HC.out k hlt)
          have kj := (HBX.out.cell (p := ⟨b, o + j, none⟩) hb).trans (HC.out j (by omega))
          rw [HX.out] at kc
          rw [hy] at kj
          have HY := Lib.hid hy
          clear hy
          have hj0 : (0 : Int) ≤ (j : Int) := by omega
          have hj1 : (j : Int) < (ns.length : Int) := by omega
          by_cases hxy : y = x
          · have hyx : (y == x) = true := by simpa using hxy
            have HXY := Lib.hid hxy
            have HIN := Lib.hid (show (ns.take k).contains x = true by
              rw [List.contains_iff_mem, List.mem_take_iff_getElem]
              refine ⟨j, by omega, ?_⟩
              rw [← hxy, ← HY.out]
              simp [show j < ns.length by omega])
            clear hxy
            go_wp2_with fail
            refine wp_region_now0 [3, 7] [(0, 0), (1, 0), (2, 0), (3, 2), (4, 0), (5, 0), (6, 0), (7, 2), (8, 0)] (by kernel_rfl) (by kernel_rfl) rfl (by kernel_rfl) ?_
            refine stepE0 rfl rfl (fun K hK => ?_)
            go_simp
            refine hK _ ?_
            clear hK K
            refine stepE0 rfl rfl (fun K hK => ?_)
            go_simp
            refine hK _ ?_
            clear hK K
            refine stepE0 rfl rfl (fun K hK => ?_)
            go_simp
            refine hK _ ?_
            clear hK K
            refine stepE2 rfl rfl ?_ (fun w1 hS => ?_) (fun K hK => ?_)
            rotate_left
            focus (obtain rfl : w1 = _ := hS; go_simp; rfl)
            go_simp
            refine hK _ ?_
            clear hK K
            refine stepE0 rfl rfl (fun K hK => ?_)
            go_simp
            refine hK _ ?_
            clear hK K
            refine stepE0 rfl rfl (fun K hK => ?_)
            go_simp
            refine hK _ ?_
            clear hK K
            refine stepE0 rfl rfl (fun K hK => ?_)
            go_simp
            refine hK _ ?_
            clear hK K
            refine stepE2 rfl rfl ?_ (fun w1 hS => ?_) (fun K hK => ?_)
            rotate_left
            focus (obtain rfl : w1 = _ := hS; go_simp; rfl)
            go_simp
            refine hK _ ?_
            clear hK K
            refine stepE0 rfl rfl (fun K hK => ?_)
            go_simp
            refine hK _ ?_
            clear hK K
            try refine stepEnil0 ?_
            go_wp2_with fail
            go_ret
            exact ⟨by unfold rightB; rw [HF.out (by rw [HS.out, HX.out, HIN.out]; simp)]; simp, HBX.out.drew⟩
          · have hyx : (y == x) = false := by simpa using hxy
            have HXY := Lib.hid hxy
            clear hxy
            go_wp2_with fail
            refine wp_region_now0 [3, 7] [(0, 0), (1, 0), (2, 0), (3, 2), (4, 0), (5, 0), (6, 0), (7, 2), (8, 0)] (by kernel_rfl) (by kernel_rfl) rfl (by kernel_rfl) ?_
            refine stepE0 rfl rfl (fun K hK => ?_)
            go_simp
            refine hK _ ?_
            clear hK K
            refine stepE0 rfl rfl (fun K hK => ?_)
            go_simp
            refine hK _ ?_
            clear hK K
            refine stepE0 rfl rfl (fun K hK => ?_)
            go_simp
            refine hK _ ?_
            clear hK K
            refine stepE2 rfl rfl ?_ (fun w1 hS => ?_) (fun K hK => ?_)
            rotate_left
            focus (obtain rfl : w1 = _ := hS; go_simp; rfl)
            go_simp
            refine hK _ ?_
            clear hK K
            refine stepE0 rfl rfl (fun K hK => ?_)
            go_simp
            refine hK _ ?_
            clear hK K
            refine stepE0 rfl rfl (fun K hK => ?_)
            go_simp
            refine hK _ ?_
            clear hK K
            refine stepE0 rfl rfl (fun K hK => ?_)
            go_simp
            refine hK _ ?_
            clear hK K
            refine stepE2 rfl rfl ?_ (fun w1 hS => ?_) (fun K hK => ?_)
            rotate_left
            focus (obtain rfl : w1 = _ := hS; go_simp; rfl)
            go_simp
            refine hK _ ?_
            clear hK K
            refine stepE0 rfl rfl (fun K hK => ?_)
            go_simp
            refine hK _ ?_
            clear hK K
            try refine stepEnil0 ?_
            go_wp2_with fail
            go_roundw
            case rel =>
              refine ⟨j + 1, by omega, by go_num, fun m hm => ?_, HBX.out.drew⟩
              by_cases hmj : m = j
              · rw [hmj, HY.out]; exact HXY.out
              · exact HALL.out m (by omega)
            case measure => simp [intOf]; omega
        · have HNI := Lib.hid (show (ns.take k).contains x = false by
            rw [Bool.eq_false_iff]
            intro h
            rw [List.contains_iff_mem, List.mem_take_iff_getElem] at h
            obtain ⟨m, hm, he⟩ := h
            refine HALL.out m (by omega) ?_
            rw [← he]
            simp [show m < ns.length by omega])
          go_wp2_with fail
          go_roundw
          case rel => exact ⟨k + 1, by omega, by go_num, by rw [HS.out, HP.out, HX.out, HPL.out, HNI.out]; rfl, HBX.out⟩
          case measure => simp [intOf]; omega
    · have HKK := Lib.hid (show k = ns.length by omega)
      by_cases hl : ns.length ≤ 64
      · have hd : decide ((ns.length : Int) ≤ 64) = true := by simp; omega
        have HL := Lib.hid hl
        clear hl
        go_wp2_with fail
        go_ret
        exact ⟨by unfold rightB; rw [← HKK.out, HP.out]; have := HL.out; rw [← HKK.out] at this; simp [this], HBW.out⟩
      · have hd : decide ((ns.length : Int) ≤ 64) = false := by simp; omega
        have HL := Lib.hid hl
        clear hl
        go_wp2_with fail
        go_ret
        exact ⟨by unfold rightB; have := HL.out; simp [this], HBW.out⟩
end Go.Proofs.Ytigkcbnlbdiimaa
