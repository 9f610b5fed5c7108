/- corncriblaw27.same; place.right, corncribref27.Right. -/
import Derived.Test.YtigkcbnlbdiimaaPlace
import Derived.Test.YtigkcbnlbdiimaaSame
namespace Go.Proofs.Ytigkcbnlbdiimaa
open Go.RowKit
set_option maxRecDepth 100000 in
set_option maxHeartbeats 1000000 in
theorem samei_any (va vb : Value) (xs ys : List Int) (w : World) (ha : Reads w 1 va xs.length (xs.map (Value.int .i64))) (hb : Reads w 1 vb ys.length (ys.map (Value.int .i64))) :
    Calls Try.prog 50 #[va, vb] w fun e w' => e = .returned (.bool (decide (xs = ys))) ∧ Below w.heap.size w w' := by
  obtain ⟨a1, c1, rfl⟩ := reads_len ha
  obtain ⟨a2, c2, rfl⟩ := reads_len hb
  by_cases hl : xs.length = ys.length
  · have hdl : ((xs.length : Int) != (ys.length : Int)) = false := by rw [hl]; simp
    have HL := Lib.hid hl
    have HA := Lib.hid ha
    have HB := Lib.hid hb
    clear hl ha hb
    go_enter Try.func50, Try.ntmps50
    go_wp2
    go_loopw [5] (fun i wr => ∃ k : Nat, k ≤ xs.length ∧ i = .int .i64 k ∧ xs.take k = ys.take k ∧ Below w.heap.size w wr) (fun i _ => xs.length - (intOf i).toNat)
    case atStart => exact ⟨0, Nat.zero_le _, rfl, rfl, Below.refl _ _⟩
    case round =>
      obtain ⟨k, hk, rfl, ht, hbw⟩ := hrel
      have HT := Lib.hid ht
      have HBW := Lib.hid hbw
      clear ht hbw
      by_cases hlt : k < xs.length
      · have hlt2 : k < ys.length := by have := HL.out; omega
        obtain ⟨b1, o1, _, e1, hb1, hm1, hc1⟩ := reads_addr HA.out (by omega)
        obtain ⟨b2, o2, _, e2, hb2, hm2, hc2⟩ := reads_addr HB.out (by omega)
        obtain ⟨rfl, -, rfl⟩ := sl_inj e1
        obtain ⟨rfl, -, rfl⟩ := sl_inj e2
        have k1 := (HBW.out.cell (p := ⟨b1, o1 + k, none⟩) hb1).trans (hc1 k (Value.int .i64 xs[k]) (by rw [List.getElem?_map, List.getElem?_eq_getElem hlt]; rfl))
        have k2 := (HBW.out.cell (p := ⟨b2, o2 + k, none⟩) hb2).trans (hc2 k (Value.int .i64 ys[k]) (by rw [List.getElem?_map, List.getElem?_eq_getElem hlt2]; rfl))
        unfold maxLen at hm1 hm2
        clear e1 e2 hc1 hc2
        have hi0 : (0 : Int) ≤ (k : Int) := by omega
        have hi1 : (k : Int) < (xs.length : Int) := by omega
        have hi2 : (k : Int) < (ys.length : Int) := by omega
        have HX := Lib.hid (show xs.take (k + 1) = xs.take k ++ [xs[k]] by rw [List.take_succ_eq_append_getElem hlt])
        have HY := Lib.hid (show ys.take (k + 1) = ys.take k ++ [ys[k]] by rw [List.take_succ_eq_append_getElem hlt2])
        obtain ⟨x, hx⟩ : ∃ x, xs[k] = x := ⟨_, rfl⟩
        obtain ⟨y, hy⟩ : ∃ y, ys[k] = y := ⟨_, rfl⟩
        have HXX := Lib.hid hx
        have HYY := Lib.hid hy
        rw [hx] at k1
        rw [hy] at k2
        clear hx hy
        by_cases hxy : x = y
        · have hxe : (x != y) = false := by rw [hxy]; simp
          have HXY := Lib.hid hxy
          clear hxy
          go_wp2_with fail
          refine wp_region_now0 [3, 7] [(0, 0), (1, 0), (2, 0), (3, 2), (4, 0), (5, 0), (6, 0), (7, 2), (8, 0)] (by kernel_rfl) (by kernel_rfl) rfl (by kernel_rfl) ?_
          refine stepE0 rfl rfl (fun K hK => ?_)
          go_simp
          refine hK _ ?_
          clear hK K
          refine stepE0 rfl rfl (fun K hK => ?_)
          go_simp
          refine hK _ ?_
          clear hK K
          refine stepE0 rfl rfl (fun K hK => ?_)
          go_simp
          refine hK _ ?_
          clear hK K
          refine stepE2 rfl rfl ?_ (fun w1 hS => ?_) (fun K hK => ?_)
          rotate_left
          focus (obtain rfl : w1 = _ := hS; go_simp; rfl)
          go_simp
          refine hK _ ?_
          clear hK K
          refine stepE0 rfl rfl (fun K hK => ?_)
          go_simp
          refine hK _ ?_
          clear hK K
          refine stepE0 rfl rfl (fun K hK => ?_)
          go_simp
          refine hK _ ?_
          clear hK K
          refine stepE0 rfl rfl (fun K hK => ?_)
          go_simp
          refine hK _ ?_
          clear hK K
          refine stepE2 rfl rfl ?_ (fun w1 hS => ?_) (fun K hK => ?_)
          rotate_left
          focus (obtain rfl : w1 = _ := hS; go_simp; rfl)
          go_simp
          refine hK _ ?_
          clear hK K
          refine stepE0 rfl rfl (fun K hK => ?_)
          go_simp
          refine hK _ ?_
          clear hK K
          try refine stepEnil0 ?_
          go_wp2_with fail
          go_roundw
          case rel => exact ⟨k + 1, by omega, by go_num, by rw [HX.out, HY.out, HT.out, HXX.out, HYY.out, HXY.out], HBW.out.drew⟩
          case measure => simp [intOf]; omega
        · have hxe : (x != y) = true := by rw [bne_iff_ne]; exact hxy
          have HXY := Lib.hid hxy
          clear hxy
          go_wp2_with fail
          refine wp_region_now0 [3, 7] [(0, 0), (1, 0), (2, 0), (3, 2), (4, 0), (5, 0), (6, 0), (7, 2), (8, 0)] (by kernel_rfl) (by kernel_rfl) rfl (by kernel_rfl) ?_
          refine stepE0 rfl rfl (fun K hK => ?_)
          go_simp
          refine hK _ ?_
          clear hK K
          refine stepE0 rfl rfl (fun K hK => ?_)
          go_simp
          refine hK _ ?_
          clear hK K
          refine stepE0 rfl rfl (fun K hK => ?_)
          go_simp
          refine hK _ ?_
          clear hK K
          refine stepE2 rfl rfl ?_ (fun w1 hS => ?_) (fun K hK => ?_)
          rotate_left
          focus (obtain rfl : w1 = _ := hS; go_simp; rfl)
          go_simp
          refine hK _ ?_
          clear hK K
          refine stepE0 rfl rfl (fun K hK => ?_)
          go_simp
          refine hK _ ?_
          clear hK K
          refine stepE0 rfl rfl (fun K hK => ?_)
          go_simp
          refine hK _ ?_
          clear hK K
          refine stepE0 rfl rfl (fun K hK => ?_)
          go_simp
          refine hK _ ?_
          clear hK K
          refine stepE2 rfl rfl ?_ (fun w1 hS => ?_) (fun K hK => ?_)
          rotate_left
          focus (obtain rfl : w1 = _ := hS; go_simp; rfl)
          go_simp
          refine hK _ ?_
          clear hK K
          refine stepE0 rfl rfl (fun K hK => ?_)
          go_simp
          refine hK _ ?_
          clear hK K
          try refine stepEnil0 ?_
          go_wp2_with fail
          go_ret
          refine ⟨ret_bool (decide_eq_false fun h => HXY.out ?_).symm, HBW.out.drew⟩
          subst h
          rw [← HXX.out, ← HYY.out]
      · go_wp2_with fail
        go_ret
        refine ⟨ret_bool (decide_eq_true ?_).symm, HBW.out⟩
        have := HT.out
        rwa [List.take_of_length_le (by omega), List.take_of_length_le (by have := HL.out; omega)] at this
  · have hdl : ((xs.length : Int) != (ys.length : Int)) = true := by rw [bne_iff_ne]; omega
    have HL := Lib.hid hl
    clear hl ha hb
    go_enter Try.func50, Try.ntmps50
    go_wp2
    go_ret
    exact ⟨ret_bool (decide_eq_false fun h => HL.out (by rw [h])).symm, Below.refl _ _⟩
/-- The first k numbers may be nodes, no two alike. -/
def prefOk (ns : List Int) (k : Nat) : Bool := (List.range k).all fun i => placeB (ns.getD i 0) && !(ns.take i).contains (ns.getD i 0)
def rightB (ns : List Int) : Bool := decide (ns.length ≤ 64) && prefOk ns ns.length
theorem prefOk_succ (ns : List Int) (k : Nat) : prefOk ns (k + 1) = (prefOk ns k && (placeB (ns.getD k 0) && !(ns.take k).contains (ns.getD k 0))) := by
  unfold prefOk
  rw [List.range_succ, List.all_append]
  simp
theorem prefOk_false {ns : List Int} {k m : Nat} (h : prefOk ns k = false) (hm : k ≤ m) : prefOk ns m = false := by
  induction m with
  | zero => simpa [show k = 0 by omega] using h
  | succ m ih =>
    by_cases hk : k = m + 1
    · rw [← hk]; exact h
    · rw [prefOk_succ, ih (by omega)]; rfl
theorem ints_at {w : World} {v : Value} {ns : List Int} (h : Reads w 1 v ns.length (ns.map (Value.int .i64))) (hn : 0 < ns.length) :
    ∃ b o c, v = .slice (some ⟨b, o, none⟩) ns.length c ∧ b < w.heap.size ∧ ns.length ≤ maxLen ∧ ∀ i, i < ns.length → w.cell? ⟨b, o + i, none⟩ = some (.int .i64 (ns.getD i 0)) := by
  obtain ⟨b, o, c, h1, h2, h3, h4⟩ := reads_addr h hn
  exact ⟨b, o, c, h1, h2, h3, fun i hi => h4 i _ (by rw [List.getElem?_map, List.getElem?_eq_getElem hi]; simp [hi])⟩
set_option maxRecDepth 100000 in
set_option maxHeartbeats 2000000 in
theorem right27_any (v : Value) (ns : List Int) (cap : Nat) (ao : Option Addr) (w : World) (hv : v = .slice ao ns.length cap) (h : Reads w 1 v ns.length (ns.map (Value.int .i64))) (hcap : ns.length ≤ cap) :
    Calls Try.prog 71 #[v] w fun e w' => e = .returned (.bool (rightB ns)) ∧ w = w' := by
  subst hv
  by_cases hl : ns.length ≤ 64
  · have hd : decide ((64 : Int) < (ns.length : Int)) = false := by simp; omega
    have HR := Lib.hid (show rightB ns = prefOk ns ns.length by simp [rightB, hl])
    have H := Lib.hid h
    clear h
    go_enter Try.func71, Try.ntmps71
    go_wp2_with fail
    go_loop [10] (fun i => ∃ k : Nat, k ≤ ns.length ∧ i = .int .i64 k ∧ prefOk ns k = true) (fun i => ns.length - (intOf i).toNat)
    case atStart => exact ⟨0, Nat.zero_le _, rfl, rfl⟩
    case round =>
      obtain ⟨k, hk, rfl, hp⟩ := hrel
      have HP := Lib.hid hp
      clear hp
      by_cases hlt : k < ns.length
      · obtain ⟨b, o, c, e1, hb, hm, hc⟩ := ints_at H.out (by omega)
        obtain ⟨rfl, -, rfl⟩ := sl_inj e1
        unfold maxLen at hm
        have kc := hc k hlt
        have HC := Lib.hid hc
        have HS := Lib.hid (prefOk_succ ns k)
        have HF := Lib.hid (fun h => prefOk_false (ns := ns) (k := k + 1) (m := ns.length) h (by omega))
        clear hc e1
        obtain ⟨x, hx⟩ : ∃ x, ns.getD k 0 = x := ⟨_, rfl⟩
        rw [hx] at kc
        have HX := Lib.hid hx
        clear hx
        have hk0 : (0 : Int) ≤ (k : Int) := by omega
        have hk1 : (k : Int) < (ns.length : Int) := by omega
        have hk2 : (k : Int) ≤ (cap : Int) := by omega
        by_cases hx0 : x < 0
        · have hpl : placeB x = false := by simp [placeB]; omega
          have HPL := Lib.hid hpl
          clear hpl
          go_wp2_with fail
          go_ret
          exact ⟨by rw [HR.out, HF.out (by rw [HS.out, HX.out, HPL.out]; simp)]; rfl, rfl⟩
        have hx0' : decide (x < 0) = false := by simpa using hx0
        by_cases hx1 : 255 < x
        · have hpl : placeB x = false := by simp [placeB]; omega
          have HPL := Lib.hid hpl
          clear hpl hx0
          go_wp2_with fail
          go_ret
          exact ⟨by rw [HR.out, HF.out (by rw [HS.out, HX.out, HPL.out]; simp)]; rfl, rfl⟩
        have hx1' : decide (255 < x) = false := by simpa using hx1
        have HPL := Lib.hid (show placeB x = true by simp [placeB]; omega)
        clear hx0 hx1
        go_wp2_with fail
        refine (contains_any b o k cap (ns.take k) x _ (by rw [List.length_take]; omega) (fun i hi => ?_) (by unfold maxLen; omega)).mono ?_
        · have h1 := HC.out i (by omega)
          rw [h1]
          congr 2
          simp [hi]
        rintro e w' ⟨rfl, rfl⟩
        cases hct : (ns.take k).contains x
        · have HCT := Lib.hid hct
          clear hct
          go_wp2_with fail
          go_round
          case rel => exact ⟨k + 1, by omega, by go_num, by rw [HS.out, HP.out, HX.out, HPL.out, HCT.out]; rfl⟩
          case measure => simp [intOf]; omega
        · have HCT := Lib.hid hct
          clear hct
          go_wp2_with fail
          go_ret
          exact ⟨by rw [HR.out, HF.out (by rw [HS.out, HX.out, HCT.out]; simp)]; rfl, rfl⟩
      · have HKK := Lib.hid (show k = ns.length by omega)
        go_wp2_with fail
        go_ret
        exact ⟨by rw [HR.out, ← HKK.out, HP.out]; rfl, rfl⟩
  · have hd : decide ((64 : Int) < (ns.length : Int)) = true := by simp; omega
    have HR := Lib.hid (show rightB ns = false by simp [rightB]; omega)
    clear h
    go_enter Try.func71, Try.ntmps71
    go_wp2_with fail
    go_ret
    exact ⟨by rw [HR.out]; rfl, rfl⟩
end Go.Proofs.Ytigkcbnlbdiimaa
