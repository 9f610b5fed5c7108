/- Bytes read from memory, and corncribref01.Same at any two lists of bytes. No condition but that they are read. -/
import Derived.Test.YtmaalbbclldnpaaGreatDoorLy2
import Derived.Test.YtmaalbbclldnpaaGreatDoorRows
namespace Go.Proofs.YtmaalbbclldnpaaGreatDoor
set_option maxRecDepth 100000
set_option maxHeartbeats 8000000
open Go.RowKit
theorem same_any (va vb : Value) (xs ys : List UInt8) (w : World) (ha : Reads w 1 va xs.length (xs.map bv)) (hb : Reads w 1 vb ys.length (ys.map bv)) :
    Calls Tryz.prog 34 #[va, vb] w fun e w' => e = .returned (.bool (decide (xs = ys))) ∧ Below w.heap.size w w' := by
  obtain ⟨a1, c1, rfl⟩ := reads_len ha
  obtain ⟨a2, c2, rfl⟩ := reads_len hb
  by_cases hl : xs.length = ys.length
  · have hdl : ((xs.length : Int) != (ys.length : Int)) = false := by rw [hl]; simp
    have HL := Lib.hid hl
    have HA := Lib.hid ha
    have HB := Lib.hid hb
    clear hl ha hb
    go_enter Tryz.func34, Tryz.ntmps34
    go_wp2
    go_loopw [5] (fun i wr => ∃ k : Nat, k ≤ xs.length ∧ i = .int .i64 k ∧ xs.take k = ys.take k ∧ Below w.heap.size w wr) (fun i _ => xs.length - (intOf i).toNat)
    case atStart => exact ⟨0, Nat.zero_le _, rfl, rfl, Below.refl _ _⟩
    case round =>
      obtain ⟨k, hk, rfl, ht, hbw⟩ := hrel
      have HT := Lib.hid ht
      have HBW := Lib.hid hbw
      clear ht hbw
      by_cases hlt : k < xs.length
      · have hlt2 : k < ys.length := by have := HL.out; omega
        obtain ⟨b1, o1, _, e1, hb1, hm1, hc1⟩ := reads_addr HA.out (by omega)
        obtain ⟨b2, o2, _, e2, hb2, hm2, hc2⟩ := reads_addr HB.out (by omega)
        obtain ⟨rfl, -, rfl⟩ := sl_inj e1
        obtain ⟨rfl, -, rfl⟩ := sl_inj e2
        have k1 := (HBW.out.cell (p := ⟨b1, o1 + k, none⟩) hb1).trans (hc1 k (bv xs[k]) (by rw [List.getElem?_map, List.getElem?_eq_getElem hlt]; rfl))
        have k2 := (HBW.out.cell (p := ⟨b2, o2 + k, none⟩) hb2).trans (hc2 k (bv ys[k]) (by rw [List.getElem?_map, List.getElem?_eq_getElem hlt2]; rfl))
        unfold maxLen at hm1 hm2
        clear e1 e2 hc1 hc2
        have hi0 : (0 : Int) ≤ (k : Int) := by omega
        have hi1 : (k : Int) < (xs.length : Int) := by omega
        have hi2 : (k : Int) < (ys.length : Int) := by omega
        have HX := Lib.hid (show xs.take (k + 1) = xs.take k ++ [xs[k]] by rw [List.take_succ_eq_append_getElem hlt])
        have HY := Lib.hid (show ys.take (k + 1) = ys.take k ++ [ys[k]] by rw [List.take_succ_eq_append_getElem hlt2])
        unfold bv at k1 k2
        obtain ⟨x, hx⟩ : ∃ x, xs[k] = x := ⟨_, rfl⟩
        obtain ⟨y, hy⟩ : ∃ y, ys[k] = y := ⟨_, rfl⟩
        have HXX := Lib.hid hx
        have HYY := Lib.hid hy
        rw [hx] at k1
        rw [hy] at k2
        clear hx hy
        by_cases hxy : x = y
        · have hxe : ((x.toNat : Int) != (y.toNat : Int)) = false := by rw [hxy]; simp
          have HXY := Lib.hid hxy
          clear hxy
          go_wp2_with fail
          refine wp_region_now0 [3, 7] [(0, 0), (1, 0), (2, 0), (3, 2), (4, 0), (5, 0), (6, 0), (7, 2), (8, 0)] (by kernel_rfl) (by kernel_rfl) rfl (by kernel_rfl) ?_
          refine stepE0 rfl rfl fun K hK => ?_; go_simp; refine hK _ ?_; clear hK K; refine stepE0 rfl rfl fun K hK => ?_; go_simp; refine hK _ ?_; clear hK K; refine stepE0 rfl rfl fun K hK => ?_; go_simp; refine hK _ ?_; clear hK K; refine stepE2 rfl rfl ?_ (fun w1 hS => ?_) fun K hK => ?_; rotate_left; (focus (obtain rfl : w1 = _ := hS; go_simp; rfl)); go_simp; refine hK _ ?_; clear hK K; refine stepE0 rfl rfl fun K hK => ?_; go_simp; refine hK _ ?_; clear hK K; refine stepE0 rfl rfl fun K hK => ?_; go_simp; refine hK _ ?_; clear hK K; refine stepE0 rfl rfl fun K hK => ?_; go_simp; refine hK _ ?_; clear hK K; refine stepE2 rfl rfl ?_ (fun w1 hS => ?_) fun K hK => ?_; rotate_left; (focus (obtain rfl : w1 = _ := hS; go_simp; rfl)); go_simp; refine hK _ ?_; clear hK K; refine stepE0 rfl rfl fun K hK => ?_; go_simp; refine hK _ ?_; clear hK K
          try refine stepEnil0 ?_
          go_wp2_with fail
          go_roundw
          case rel => exact ⟨k + 1, by omega, by go_num, by rw [HX.out, HY.out, HT.out, HXX.out, HYY.out, HXY.out], HBW.out.drew⟩
          case measure => simp [intOf]; omega
        · have hxe : ((x.toNat : Int) != (y.toNat : Int)) = true := by
            rw [bne_iff_ne]
            intro h
            exact hxy (UInt8.toNat_inj.1 (by omega))
          have HXY := Lib.hid hxy
          clear hxy
          go_wp2_with fail
          refine wp_region_now0 [3, 7] [(0, 0), (1, 0), (2, 0), (3, 2), (4, 0), (5, 0), (6, 0), (7, 2), (8, 0)] (by kernel_rfl) (by kernel_rfl) rfl (by kernel_rfl) ?_
          refine stepE0 rfl rfl fun K hK => ?_; go_simp; refine hK _ ?_; clear hK K; refine stepE0 rfl rfl fun K hK => ?_; go_simp; refine hK _ ?_; clear hK K; refine stepE0 rfl rfl fun K hK => ?_; go_simp; refine hK _ ?_; clear hK K; refine stepE2 rfl rfl ?_ (fun w1 hS => ?_) fun K hK => ?_; rotate_left; (focus (obtain rfl : w1 = _ := hS; go_simp; rfl)); go_simp; refine hK _ ?_; clear hK K; refine stepE0 rfl rfl fun K hK => ?_; go_simp; refine hK _ ?_; clear hK K; refine stepE0 rfl rfl fun K hK => ?_; go_simp; refine hK _ ?_; clear hK K; refine stepE0 rfl rfl fun K hK => ?_; go_simp; refine hK _ ?_; clear hK K; refine stepE2 rfl rfl ?_ (fun w1 hS => ?_) fun K hK => ?_; rotate_left; (focus (obtain rfl : w1 = _ := hS; go_simp; rfl)); go_simp; refine hK _ ?_; clear hK K; refine stepE0 rfl rfl fun K hK => ?_; go_simp; refine hK _ ?_; clear hK K
          try refine stepEnil0 ?_
          go_wp2_with fail
          go_ret
          refine ⟨ret_bool (decide_eq_false fun h => HXY.out ?_).symm, HBW.out.drew⟩
          subst h
          rw [← HXX.out, ← HYY.out]
      · go_wp2_with fail
        go_ret
        refine ⟨ret_bool (decide_eq_true ?_).symm, HBW.out⟩
        have := HT.out
        rwa [List.take_of_length_le (by omega), List.take_of_length_le (by have := HL.out; omega)] at this
  · have hdl : ((xs.length : Int) != (ys.length : Int)) = true := by rw [bne_iff_ne]; omega
    have HL := Lib.hid hl
    clear hl ha hb
    go_enter Tryz.func34, Tryz.ntmps34
    go_wp2
    go_ret
    exact ⟨ret_bool (decide_eq_false fun h => HL.out (by rw [h])).symm, Below.refl _ _⟩
end Go.Proofs.YtmaalbbclldnpaaGreatDoor
