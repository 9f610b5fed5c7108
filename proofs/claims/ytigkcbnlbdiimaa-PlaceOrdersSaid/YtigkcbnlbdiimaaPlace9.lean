/- PlaceOrders: the walk, three nodes and more. -/
import Derived.Test.YtigkcbnlbdiimaaPlace8
namespace Go.Proofs.Ytigkcbnlbdiimaa
open Go.RowKit
set_option maxRecDepth 100000 in
set_option maxHeartbeats 4000000 in
theorem orders_many (ao : Option Addr) (n cap : Nat) (cs : List Cmd) (va : Value) (ns : List Int) (node : Int) (w : World) (hl : cs.length = n) (hn : n ≤ 60) (hA : 0 < n → ∃ b off, ao = some ⟨b, off, none⟩ ∧ b < w.heap.size ∧ CmdsAt w b off cs)
    (hr : Reads w 1 va ns.length (ns.map (Value.int .i64))) (hcap : ∀ a n c, va = .slice a n c → n ≤ c) (hm : ns.length ≤ 100) (hok : rightB ns = true) (hfw : ¬ ns.length < 3) :
    Calls Try.prog 10 #[.slice ao n cap, va, .int .i64 node] w fun e w' => e = .returned (.bool true) ∧ Below w.heap.size w w' := by
  have HFW := Lib.hid hfw
  have hd3 : decide ((ns.length : Int) < 3) = false := by simp; omega
  have hn3 : (3 : Int) ≤ (ns.length : Int) := by omega
  clear hfw
  obtain ⟨an, capn, rfl⟩ := reads_len hr
  have HL := Lib.hid hl
  have HA := Lib.hid hA
  have HR := Lib.hid hr
  have HCAP := Lib.hid hcap
  have HOK := Lib.hid hok
  have hd60 : decide ((60 : Int) < (n : Int)) = false := by simp; omega
  have hd100 : decide ((100 : Int) < (ns.length : Int)) = false := by simp; omega
  clear hl hA hr hcap hok
  go_enter Try.func10, Try.ntmps10
  go_wp2_with fail
  refine (alive27 _).mono ?_
  rintro e w1 ⟨rfl, hb1⟩
  have HB1 := Lib.hid hb1
  have hz1 := hb1.size
  clear hb1
  go_wp2_with fail
  refine (made_any ao n cap cs _ HL.out hn (fun h0 => by obtain ⟨b, off, h1, h2, h3⟩ := HA.out h0; exact ⟨b, off, h1, by omega, CmdsAt.below h3 HB1.out h2⟩)).mono ?_
  rintro e w2 ⟨bm, v, xv, rfl, hm2, hx2, hb2⟩
  obtain ⟨es, hes⟩ : ∃ es, es = doAll [] cs := ⟨_, rfl⟩
  have hfew : es.length ≤ 60 := by have := doAll_few cs []; rw [← hes] at this; simp at this; have := HL.out; omega
  have hno : NodesOk es := by rw [hes]; exact nodes_all cs [] nodes_nil
  rw [← hes] at hm2 hx2
  obtain ⟨ax, cx, rfl⟩ := ownsRow_len hx2
  have HM2 := Lib.hid hm2
  have HX2 := Lib.hid hx2
  have HNO := Lib.hid hno
  have HB2 := Lib.hid (HB1.out.trans (hb2.mono hz1))
  have hz2 := HB2.out.size
  clear hm2 hx2 hno hb2 hes hd100
  obtain ⟨so, hso⟩ : ∃ so, so = sortI (fun k => (loadN es k : Int)) ns := ⟨_, rfl⟩
  have HLEN := Lib.hid (show so.length = ns.length by rw [hso]; simp [sortI])
  have HSO := Lib.hid hso
  clear hso
  go_wp2_with fail
  refine (porder_any w1.heap.size bm v _ es ns _ HM2.out HNO.out (HR.out.below HB2.out) HCAP.out HOK.out).mono ?_
  rintro e w3 ⟨v3, rfl, ho3, hb3⟩
  rw [← HSO.out] at ho3
  have HO3 := Lib.hid ho3
  have HB3 := Lib.hid hb3
  have hz3 := hb3.size
  clear ho3 hb3
  go_wp2_with fail
  refine (pick_any w1.heap.size bm v _ es ns _ (HM2.out.below HB3.out) HNO.out (HR.out.below (HB2.out.trans (HB3.out.mono hz2))) HCAP.out HOK.out).mono ?_
  rintro e w4 ⟨a, b, c, rfl, habc, hb4⟩
  rw [if_neg HFW.out] at habc ⊢
  have HTH := Lib.hid (three_sort (f := fun k => (loadN es k : Int)) HOK.out habc)
  rw [← HSO.out] at habc
  have HABC := Lib.hid habc
  clear habc
  rw [errV_zero]
  have HB4 := Lib.hid (show Below w2.heap.size w2 w4 from HB3.out.trans (hb4.mono hz3))
  have HB34 := Lib.hid hb4
  have hz4 := HB4.out.size
  have hz34 := hb4.size
  clear hb4
  go_wp2_with fail
  refine (pload_any w1.heap.size bm v es node _ (HM2.out.below (by exact Below.alloc HB4.out hz4 _))).mono ?_
  rintro e w5 ⟨rfl, hb5⟩
  have HB5 := Lib.hid (show Below w2.heap.size w2 w5 from (HB4.out.alloc hz4 _).trans (hb5.mono (by simp; omega)))
  have HB45 := Lib.hid (show Below w4.heap.size w4 w5 from ((Below.refl _ _).alloc (Nat.le_refl _) _).trans (hb5.mono (by simp)))
  have hbk5 := hb5.block w4.heap.size (by simp)
  rw [heap_alloc_new] at hbk5
  have HK5 := Lib.hid hbk5
  have hz5 := HB5.out.size
  have hz45 := hb5.size
  simp only [World.size_alloc] at hz45
  clear hb5 hbk5
  go_wp2_with fail
  refine (rload_any w1.heap.size _ es node _ (ownsRow_below HX2.out HB5.out) (by omega)).mono ?_
  rintro e w6 ⟨rfl, hb6⟩
  have HB6 := Lib.hid (show Below w2.heap.size w2 w6 from HB5.out.trans (hb6.mono hz5))
  have HB56 := Lib.hid hb6
  have hz6 := HB6.out.size
  have hz56 := hb6.size
  clear hb6
  go_wp2_with fail
  refine (rright_any _ ns _ (HR.out.below (HB2.out.trans (HB6.out.mono hz2)))).mono ?_
  rintro e w7 ⟨rfl, hb7⟩
  rw [HOK.out]
  have HB7 := Lib.hid (show Below w2.heap.size w2 w7 from HB6.out.trans (hb7.mono hz6))
  have HB57 := Lib.hid (HB56.out.trans (hb7.mono hz56))
  have hz7 := HB7.out.size
  have hz57 := HB57.out.size
  clear hb7
  go_wp2_with fail
  refine (rorder_any w1.heap.size _ _ es ns _ (ownsRow_below HX2.out HB7.out) (by omega) (HR.out.below (HB2.out.trans (HB7.out.mono hz2))) hm).mono ?_
  rintro e w8 ⟨v8, rfl, ho8, hb8⟩
  rw [← HSO.out] at ho8
  obtain ⟨a8, c8, rfl⟩ := ownsRow_len ho8
  obtain ⟨g8, hg8⟩ : ∃ g, a8 = some ⟨g, 0, none⟩ := by
    rcases ho8.2 with ⟨e, h0⟩ | ⟨g, _, _, e, _⟩
    · have := HFW.out; omega
    · simp only [Value.slice.injEq] at e
      exact ⟨g, e.1⟩
  subst hg8
  have HO8 := Lib.hid ho8
  have HB8 := Lib.hid (show Below w2.heap.size w2 w8 from HB7.out.trans (hb8.mono hz7))
  have HB58 := Lib.hid (HB57.out.trans (hb8.mono hz57))
  have hz8 := HB8.out.size
  have hz58 := HB58.out.size
  clear ho8 hb8
  go_wp2_with fail
  refine (code_any 0 (by omega) (by omega) _).mono ?_
  rintro e w9 ⟨rfl, rfl⟩
  have HR3 := Lib.hid (show Reads w8 1 v3 so.length (so.map (Value.int .i64)) by rw [HLEN.out]; exact (reads_of_owns HO3.out).below ((HB34.out.trans (HB45.out.mono hz34)).trans (HB58.out.mono (by omega))))
  have HR8 := Lib.hid (show Reads w8 1 (.slice (some ⟨g8, 0, none⟩) ns.length c8) so.length (so.map (Value.int .i64)) by rw [HLEN.out]; exact reads_of_owns HO8.out)
  go_wp2_with fail
  refine (samei_any _ _ so so _ HR3.out HR8.out).mono ?_
  rintro e w9 ⟨rfl, hb9⟩
  rw [decide_eq_true (rfl : so = so)]
  have HB9 := Lib.hid (show Below w2.heap.size w2 w9 from HB8.out.trans (hb9.mono hz8))
  have HB59 := Lib.hid (HB58.out.trans (hb9.mono hz58))
  have HO9 := Lib.hid (ownsRow_below HO8.out hb9)
  have hz9 := HB9.out.size
  have hz59 := HB59.out.size
  clear hb9
  go_wp2_with fail
  refine (pnew_any w1.heap.size bm v _ es ns _ (HM2.out.below HB9.out) HNO.out (HR.out.below (HB2.out.trans (HB9.out.mono hz2))) HCAP.out HOK.out (by have := HFW.out; omega)).mono ?_
  rintro e w11 ⟨a', b', c', w10, habc', hb10, rfl, v11, hm11, _, hk11⟩
  rw [← HSO.out, ← HABC.out] at habc'
  simp only [List.cons.injEq, and_true] at habc'
  obtain ⟨rfl, rfl, rfl⟩ := habc'
  have e1 : doEs es ⟨1, 0, 0, 0, 0, a', b', c'⟩ = es ++ [⟨(es.length : Int) + 1, 1, a', b', c', false⟩] := by simp [doEs, HTH.out]; omega
  have e2 : doN es ⟨1, 0, 0, 0, 0, a', b', c'⟩ = (es.length : Int) + 1 := by simp [doN, HTH.out]; omega
  have e3 : doK es ⟨1, 0, 0, 0, 0, a', b', c'⟩ = 0 := by simp [doK, HTH.out]; omega
  rw [e1] at hm11
  rw [e2, e3, show errV ((0 : Nat) : Int) = .nilIface from rfl]
  have hg8 := HO9.out.lt g8 rfl
  have hvb : ∀ g, v.ownBlock = some g → w1.heap.size ≤ g ∧ g < w2.heap.size := fun g hg => HM2.out.row.lt g hg
  have hbm := HM2.out.lt
  have hbl := HM2.out.low
  have hz10 := hb10.size
  have HO11 := Lib.hid (ownsRow_keeps (ownsRow_below HO9.out hb10) hk11 (fun k hk hf => by
    simp only [Value.ownBlock, Option.some.injEq] at hk
    subst hk
    rcases hf with hf | hf
    · omega
    · have := hvb _ hf; omega))
  have HT := Lib.hid ((hk11.block w4.heap.size (by omega) (fun hf => by
    rcases hf with hf | hf
    · omega
    · have := hvb _ hf; omega)).trans (((HB59.out.trans (hb10.mono hz59)).block w4.heap.size (by omega)).trans HK5.out))
  have HB11 := Lib.hid (show Below w.heap.size w w11 from (HB2.out.trans ((HB9.out.trans (hb10.mono hz9)).mono hz2)).trans (hk11.below (by omega) (fun k hf => by
    rcases hf with hf | hf
    · omega
    · have := hvb _ hf; omega)))
  have hz11 := HB11.out.size
  have hz1011 := hk11.size
  have HM11 := Lib.hid hm11
  clear hm11 hk11 hb10 hvb e1 e2 e3
  go_wp2_with fail
  refine (find_yes w1.heap.size bm v11 (es ++ [⟨(es.length : Int) + 1, 1, a', b', c', false⟩]) es.length ⟨(es.length : Int) + 1, 1, a', b', c', false⟩ _ HM11.out (by simp)).mono ?_
  rintro e w12 ⟨rfl, hb12⟩
  have HO12 := Lib.hid (ownsRow_below HO11.out hb12)
  have HT12 := Lib.hid ((hb12.block w4.heap.size (by omega)).trans HT.out)
  have HB12 := Lib.hid (HB11.out.trans (hb12.mono hz11))
  have hz12 := HB12.out.size
  have hz1112 := hb12.size
  have hcc := owns_cap HO12.out
  have hc83 : (3 : Int) ≤ (c8 : Int) := by omega
  have hl60 : (es.length : Int) ≤ 60 := by omega
  have hT13 := (Below.heap_alloc w12 (.cells #[.int .i64 ((es.length : Int) + 1), .int .i64 1, .int .i64 a', .int .i64 b', .int .i64 c', .bool false] 37) w4.heap.size (by omega)).trans HT12.out
  have HS13 := Lib.hid (And.intro hT13 (heap_alloc_new w12 (.cells #[.int .i64 ((es.length : Int) + 1), .int .i64 1, .int .i64 a', .int .i64 b', .int .i64 c', .bool false] 37)))
  have h412 : w4.heap.size < w12.heap.size := by omega
  clear hb12 hcc hT13
  go_wp2_with fail
  obtain ⟨SS, HSD⟩ : ∃ SS : World → Prop, Hid (SS = fun w' => w'.heap[w4.heap.size]? = some (.cells #[.int .i64 a', .int .i64 b', .int .i64 c'] 30 (0, 0)) ∧ w'.heap[w12.heap.size]? = some (.cells #[.int .i64 ((es.length : Int) + 1), .int .i64 1, .int .i64 a', .int .i64 b', .int .i64 c', .bool false] 37 (0, 0))) := ⟨_, Lib.hid rfl⟩
  refine wp_region_mask0 SS [24, 25] [0, 1, 0, 7, 15, 0, 47, 127, 255, 511, 1023, 1023, 3071, 8191, 16383, 32767, 65535, 65535, 196607, 458751, 1048575, 2097151, 4194303, 8388607, 16777215, 8388607, 67108863, 134217727, 268435455] (.op 0 0 (.op 2 0 (.op 5 0 (.op 1 1 (.op 3 1 (.op 4 0 (.op 6 1 (.op 7 0 (.op 8 0 (.op 9 0 (.op 10 0 (.op 11 0 (.op 12 0 (.op 13 1 (.op 14 0 (.op 15 0 (.op 16 0 (.op 17 0 (.op 18 0 (.op 19 0 (.op 20 0 (.op 21 0 (.op 22 0 (.op 23 0 (.op 24 2 (.op 25 2 (.op 26 0 (.op 27 0 (.op 28 0 .nil))))))))))))))))))))))))))))) (by kernel_rfl) (by kernel_rfl) rfl (by kernel_rfl) (by kernel_rfl) ?_ ?_
  focus (rw [HSD.out]; exact HS13.out)
  refine stepM0 rfl rfl (fun K hK => ?_)
  go_simp
  refine hK _ ?_
  clear hK K
  refine stepM0 rfl rfl (fun K hK => ?_)
  go_simp
  refine hK _ ?_
  clear hK K
  refine stepM0 rfl rfl (fun K hK => ?_)
  go_simp
  refine hK _ ?_
  clear hK K
  refine stepM1S rfl rfl (fun K hK => ?_)
  (go_wp2_with fail; refine Calls.mono (code_any 0 (by omega) (by omega) _) ?_; rintro e w15 ⟨rfl, rfl⟩; go_wp2)
  refine ⟨by rw [HSD.out]; exact (HS13.out), ?_⟩
  refine stepM1S rfl rfl (fun K hK => ?_)
  (go_wp2_with fail; refine Calls.mono (code_any 0 (by omega) (by omega) _) ?_; rintro e w15 ⟨rfl, rfl⟩; go_wp2)
  refine ⟨by rw [HSD.out]; exact (HS13.out), ?_⟩
  refine stepM0 rfl rfl (fun K hK => ?_)
  go_simp
  refine hK _ ?_
  clear hK K
  refine stepM1S rfl rfl (fun K hK => ?_)
  (go_wp2_with fail; refine Calls.mono (code_any 0 (by omega) (by omega) _) ?_; rintro e w15 ⟨rfl, rfl⟩; go_wp2)
  refine ⟨by rw [HSD.out]; exact (HS13.out), ?_⟩
  refine stepM0 rfl rfl (fun K hK => ?_)
  go_simp
  refine hK _ ?_
  clear hK K
  refine stepM0 rfl rfl (fun K hK => ?_)
  go_simp
  refine hK _ ?_
  clear hK K
  refine stepM0 rfl rfl (fun K hK => ?_)
  go_simp
  refine hK _ ?_
  clear hK K
  refine stepM0 rfl rfl (fun K hK => ?_)
  go_simp
  refine hK _ ?_
  clear hK K
  refine stepM0 rfl rfl (fun K hK => ?_)
  go_simp
  refine hK _ ?_
  clear hK K
  refine stepM0 rfl rfl (fun K hK => ?_)
  go_simp
  refine hK _ ?_
  clear hK K
  refine stepM1S rfl rfl (fun K hK => ?_)
  (go_wp2_with fail; refine Calls.mono (samei_any _ _ [a', b', c'] [a', b', c'] _ (by exact reads_three HS13.out.1) (by rw [HABC.out]; exact reads_take3 HO12.out HLEN.out (by omega) (by repeat (first | (with_reducible exact Below.refl _ _) | (with_reducible refine Below.setCell ?_ ?_ _) | (with_reducible refine Below.alloc ?_ ?_ _) | (with_reducible refine Below.drewN ?_ _) | (with_reducible refine Below.drew ?_) | (with_reducible exact Nat.le_refl _) | (focus (simp only [World.size_alloc, World.size_setCell, World.size_drew, World.size_drewN]; omega)) | omega | exact Nat.le_refl _ | (focus (simp; done)) | (focus (simp; omega)))))) ?_; rintro e w16 ⟨rfl, hb16⟩; rw [decide_eq_true (rfl : [a', b', c'] = [a', b', c'])]; have HB16 := Lib.hid hb16; clear hb16; go_wp2)
  refine ⟨by rw [HSD.out]; exact (⟨(HB16.out.block _ (by simp; omega)).trans HS13.out.1, (HB16.out.block _ (by simp)).trans HS13.out.2⟩), ?_⟩
  refine stepM0 rfl rfl (fun K hK => ?_)
  go_simp
  refine hK _ ?_
  clear hK K
  refine stepM0 rfl rfl (fun K hK => ?_)
  go_simp
  refine hK _ ?_
  clear hK K
  refine stepM0 rfl rfl (fun K hK => ?_)
  go_simp
  refine hK _ ?_
  clear hK K
  refine stepM0 rfl rfl (fun K hK => ?_)
  go_simp
  refine hK _ ?_
  clear hK K
  refine stepM0 rfl rfl (fun K hK => ?_)
  go_simp
  refine hK _ ?_
  clear hK K
  have hws : IntKind.i64.wrap ((es.length : Int) + 1) = (es.length : Int) + 1 := IntWalk.i64_in _ (by omega); refine stepM0 rfl rfl (fun K hK => ?_); go_simp; refine hK _ ?_; clear hK K hws
  refine stepM0 rfl rfl (fun K hK => ?_)
  go_simp
  refine hK _ ?_
  clear hK K
  refine stepM0 rfl rfl (fun K hK => ?_)
  go_simp
  refine hK _ ?_
  clear hK K
  refine stepM0 rfl rfl (fun K hK => ?_)
  go_simp
  refine hK _ ?_
  clear hK K
  refine stepM0 rfl rfl (fun K hK => ?_)
  go_simp
  refine hK _ ?_
  clear hK K
  refine stepM2 rfl rfl ?_ (fun w1 hS => ?_) (fun K hK => ?_)
  rotate_left
  focus (rw [HSD.out] at hS; obtain ⟨s1, s2⟩ := hS; have t0 := cell_of_row w1 _ 0 _ _ _ s1; have t1 := cell_of_row w1 _ 1 _ _ _ s1; have t2 := cell_of_row w1 _ 2 _ _ _ s1; have y2 := cell_of_row w1 _ 2 _ _ _ s2; have y3 := cell_of_row w1 _ 3 _ _ _ s2; have y4 := cell_of_row w1 _ 4 _ _ _ s2; simp at t0 t1 t2 y2 y3 y4; go_simp; rfl)
  go_simp
  refine hK _ ?_
  clear hK K
  refine stepM2 rfl rfl ?_ (fun w1 hS => ?_) (fun K hK => ?_)
  rotate_left
  focus (rw [HSD.out] at hS; obtain ⟨s1, s2⟩ := hS; have t0 := cell_of_row w1 _ 0 _ _ _ s1; have t1 := cell_of_row w1 _ 1 _ _ _ s1; have t2 := cell_of_row w1 _ 2 _ _ _ s1; have y2 := cell_of_row w1 _ 2 _ _ _ s2; have y3 := cell_of_row w1 _ 3 _ _ _ s2; have y4 := cell_of_row w1 _ 4 _ _ _ s2; simp at t0 t1 t2 y2 y3 y4; go_simp; rfl)
  go_simp
  refine hK _ ?_
  clear hK K
  refine stepM0 rfl rfl (fun K hK => ?_)
  go_simp
  refine hK _ ?_
  clear hK K
  refine stepM0 rfl rfl (fun K hK => ?_)
  go_simp
  refine hK _ ?_
  clear hK K
  refine stepM0 rfl rfl (fun K hK => ?_)
  go_simp
  refine hK _ ?_
  clear hK K
  try refine stepMnil0 ?_
  clear HSD SS
  go_wp2_with fail
  go_ret
  exact ⟨rfl, HB12.out.trans ((Below.trans (by repeat (first | (with_reducible exact Below.refl _ _) | (with_reducible refine Below.setCell ?_ ?_ _) | (with_reducible refine Below.alloc ?_ ?_ _) | (with_reducible refine Below.drewN ?_ _) | (with_reducible refine Below.drew ?_) | (with_reducible exact Nat.le_refl _) | (focus (simp only [World.size_alloc, World.size_setCell, World.size_drew, World.size_drewN]; omega)) | omega | exact Nat.le_refl _ | (focus (simp; done)) | (focus (simp; omega)))) (HB16.out.mono (by simp))).mono hz12)⟩
end Go.Proofs.Ytigkcbnlbdiimaa
