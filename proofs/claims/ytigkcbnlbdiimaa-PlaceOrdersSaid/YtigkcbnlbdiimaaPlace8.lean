/- PlaceOrders: the walk. -/
import Derived.Test.YtigkcbnlbdiimaaPlaceAlive
import Derived.Test.YtigkcbnlbdiimaaDirsParts2
namespace Go.Proofs.Ytigkcbnlbdiimaa
open Go.RowKit
theorem right_nodup {ns : List Int} (h : rightB ns = true) : ns.Nodup := by
  simp only [rightB, prefOk, Bool.and_eq_true, decide_eq_true_eq, List.all_eq_true, List.mem_range] at h
  rw [List.nodup_iff_pairwise_ne, List.pairwise_iff_getElem]
  intro i j hi hj hij e
  have h1 := (h.2 j hj).2
  simp only [Bool.not_eq_true', List.contains_eq_mem, decide_eq_false_iff_not] at h1
  apply h1
  have e2 : ns.getD j 0 = ns[j] := by simp [hj]
  rw [e2, ← e]
  exact List.mem_take_iff_getElem.2 ⟨i, by omega, rfl⟩
theorem reads_three {w : World} {b : Nat} {x y z : Int} {T : Nat} (h : w.heap[b]? = some (.cells #[.int .i64 x, .int .i64 y, .int .i64 z] T (0, 0))) : Reads w 1 (.slice (some ⟨b, 0, none⟩) 3 3) 3 ([x, y, z].map (Value.int .i64)) :=
  ⟨rfl, .inr ⟨_, _, rfl, by unfold maxLen; omega, World.news_of_block (cs := #[.int .i64 x, .int .i64 y, .int .i64 z]) h⟩⟩
theorem reads_take3 {w w' : World} {base g n c : Nat} {l : List Int} (h : w.ownsRow base 3 1 (.slice (some ⟨g, 0, none⟩) n c) n (l.map (Value.int .i64))) (hl : l.length = n) (hn : 3 ≤ n) (hb : Below w.heap.size w w') :
    Reads w' 1 (.slice (some ⟨g, 0, none⟩) 3 c) (l.take 3).length ((l.take 3).map (Value.int .i64)) := by
  have e : (l.take 3).length = 3 := by rw [List.length_take]; omega
  rw [e, List.map_take]
  exact (reads_pre h hn).below hb
theorem sort_nodes {f : Int → Int} {ns : List Int} (h : rightB ns = true) : (sortI f ns).Nodup ∧ ∀ x ∈ sortI f ns, placeB x = true := by
  have hp : (sortI f ns).Perm ns := List.mergeSort_perm _ _
  exact ⟨hp.nodup_iff.2 (right_nodup h), fun x hx => (right_nodes h).2 x (hp.mem_iff.1 hx)⟩
theorem three_sort {f : Int → Int} {ns : List Int} {a b c : Int} (h : rightB ns = true) (ht : [a, b, c] = (sortI f ns).take 3) : threeB a b c = true := by
  obtain ⟨h1, h2⟩ := sort_nodes (f := f) h
  have h3 : [a, b, c].Nodup := by rw [ht]; exact h1.sublist (List.take_sublist _ _)
  have h4 : ∀ x ∈ [a, b, c], placeB x = true := fun x hx => h2 x (List.mem_of_mem_take (by rw [← ht]; exact hx))
  have ha := h4 a (by simp)
  have hb := h4 b (by simp)
  have hc := h4 c (by simp)
  simp at h3
  simp [threeB, ha, hb, hc, h3.1.1, h3.1.2, h3.2]
set_option maxRecDepth 100000 in
set_option maxHeartbeats 4000000 in
theorem orders_bad (ao : Option Addr) (n cap : Nat) (cs : List Cmd) (va : Value) (ns : List Int) (node : Int) (w : World) (hl : cs.length = n) (hn : n ≤ 60) (hA : 0 < n → ∃ b off, ao = some ⟨b, off, none⟩ ∧ b < w.heap.size ∧ CmdsAt w b off cs)
    (hr : Reads w 1 va ns.length (ns.map (Value.int .i64))) (hcap : ∀ a n c, va = .slice a n c → n ≤ c) (hm : ns.length ≤ 100) (hok : rightB ns = false) :
    Calls Try.prog 10 #[.slice ao n cap, va, .int .i64 node] w fun e w' => e = .returned (.bool true) ∧ Below w.heap.size w w' := by
  obtain ⟨an, capn, rfl⟩ := reads_len hr
  have HL := Lib.hid hl
  have HA := Lib.hid hA
  have HR := Lib.hid hr
  have HCAP := Lib.hid hcap
  have HOK := Lib.hid hok
  have hd60 : decide ((60 : Int) < (n : Int)) = false := by simp; omega
  have hd100 : decide ((100 : Int) < (ns.length : Int)) = false := by simp; omega
  clear hl hA hr hcap hok
  go_enter Try.func10, Try.ntmps10
  go_wp2_with fail
  refine (alive27 _).mono ?_
  rintro e w1 ⟨rfl, hb1⟩
  have HB1 := Lib.hid hb1
  have hz1 := hb1.size
  clear hb1
  go_wp2_with fail
  refine (made_any ao n cap cs _ HL.out hn (fun h0 => by obtain ⟨b, off, h1, h2, h3⟩ := HA.out h0; exact ⟨b, off, h1, by omega, CmdsAt.below h3 HB1.out h2⟩)).mono ?_
  rintro e w2 ⟨bm, v, xv, rfl, hm2, hx2, hb2⟩
  obtain ⟨es, hes⟩ : ∃ es, es = doAll [] cs := ⟨_, rfl⟩
  have hfew : es.length ≤ 60 := by have := doAll_few cs []; rw [← hes] at this; simp at this; have := HL.out; omega
  have hno : NodesOk es := by rw [hes]; exact nodes_all cs [] nodes_nil
  rw [← hes] at hm2 hx2
  obtain ⟨ax, cx, rfl⟩ := ownsRow_len hx2
  have HM2 := Lib.hid hm2
  have HX2 := Lib.hid hx2
  have HNO := Lib.hid hno
  have HB2 := Lib.hid (HB1.out.trans (hb2.mono hz1))
  have hz2 := HB2.out.size
  clear hm2 hx2 hno hb2 hes hd100
  go_wp2_with fail
  refine (porder_bad w1.heap.size bm v _ es ns _ HM2.out (HR.out.below HB2.out) HCAP.out HOK.out).mono ?_
  rintro e w3 ⟨rfl, rfl⟩
  go_wp2_with fail
  refine (pick_bad w1.heap.size bm v _ es ns _ HM2.out (HR.out.below HB2.out) HCAP.out HOK.out).mono ?_
  rintro e w3 ⟨rfl, hb3⟩
  have HB3 := Lib.hid hb3
  have HBW3 := Lib.hid (HB2.out.trans (hb3.mono hz2))
  have hz3 := hb3.size
  clear hb3
  go_wp2_with fail
  refine (pload_any w1.heap.size bm v es node _ (HM2.out.below (by exact Below.alloc HB3.out hz3 _))).mono ?_
  rintro e w4 ⟨rfl, hb4⟩
  have HB4 := Lib.hid (show Below w2.heap.size w2 w4 from (HB3.out.alloc hz3 _).trans (hb4.mono (by simp; omega)))
  have hz4 := HB4.out.size
  clear hb4
  go_wp2_with fail
  refine (rload_any w1.heap.size _ es node _ (ownsRow_below HX2.out HB4.out) (by omega)).mono ?_
  rintro e w5 ⟨rfl, hb5⟩
  have HB5 := Lib.hid (show Below w2.heap.size w2 w5 from HB4.out.trans (hb5.mono hz4))
  have hz5 := HB5.out.size
  clear hb5
  go_wp2_with fail
  refine (rright_any _ ns _ (HR.out.below (HB2.out.trans (HB5.out.mono hz2)))).mono ?_
  rintro e w6 ⟨rfl, hb6⟩
  rw [HOK.out]
  have HB6 := Lib.hid (show Below w2.heap.size w2 w6 from HB5.out.trans (hb6.mono hz5))
  have hz6 := HB6.out.size
  clear hb6
  go_wp2_with fail
  refine (pnew_bad w1.heap.size bm v _ es ns _ (HM2.out.below HB6.out) (HR.out.below (HB2.out.trans (HB6.out.mono hz2))) HCAP.out HOK.out).mono ?_
  rintro e w7 ⟨rfl, hb7⟩
  have HB7 := Lib.hid (show Below w2.heap.size w2 w7 from HB6.out.trans (hb7.mono hz6))
  clear hb7
  go_wp2_with fail
  refine (code_any 1 (by omega) (by omega) _).mono ?_
  rintro e w8 ⟨rfl, rfl⟩
  go_wp2_with fail
  refine (code_any 1 (by omega) (by omega) _).mono ?_
  rintro e w8 ⟨rfl, rfl⟩
  go_wp2_with fail
  refine (code_any 1 (by omega) (by omega) _).mono ?_
  rintro e w8 ⟨rfl, rfl⟩
  go_wp2_with fail
  go_ret
  exact ⟨rfl, HB2.out.trans (HB7.out.mono hz2)⟩
set_option maxRecDepth 100000 in
set_option maxHeartbeats 4000000 in
theorem orders_few (ao : Option Addr) (n cap : Nat) (cs : List Cmd) (va : Value) (ns : List Int) (node : Int) (w : World) (hl : cs.length = n) (hn : n ≤ 60) (hA : 0 < n → ∃ b off, ao = some ⟨b, off, none⟩ ∧ b < w.heap.size ∧ CmdsAt w b off cs)
    (hr : Reads w 1 va ns.length (ns.map (Value.int .i64))) (hcap : ∀ a n c, va = .slice a n c → n ≤ c) (hm : ns.length ≤ 100) (hok : rightB ns = true) (hfw : ns.length < 3) :
    Calls Try.prog 10 #[.slice ao n cap, va, .int .i64 node] w fun e w' => e = .returned (.bool true) ∧ Below w.heap.size w w' := by
  have HFW := Lib.hid hfw
  have hd3 : decide ((ns.length : Int) < 3) = true := by simp; omega
  clear hfw
  obtain ⟨an, capn, rfl⟩ := reads_len hr
  have HL := Lib.hid hl
  have HA := Lib.hid hA
  have HR := Lib.hid hr
  have HCAP := Lib.hid hcap
  have HOK := Lib.hid hok
  have hd60 : decide ((60 : Int) < (n : Int)) = false := by simp; omega
  have hd100 : decide ((100 : Int) < (ns.length : Int)) = false := by simp; omega
  clear hl hA hr hcap hok
  go_enter Try.func10, Try.ntmps10
  go_wp2_with fail
  refine (alive27 _).mono ?_
  rintro e w1 ⟨rfl, hb1⟩
  have HB1 := Lib.hid hb1
  have hz1 := hb1.size
  clear hb1
  go_wp2_with fail
  refine (made_any ao n cap cs _ HL.out hn (fun h0 => by obtain ⟨b, off, h1, h2, h3⟩ := HA.out h0; exact ⟨b, off, h1, by omega, CmdsAt.below h3 HB1.out h2⟩)).mono ?_
  rintro e w2 ⟨bm, v, xv, rfl, hm2, hx2, hb2⟩
  obtain ⟨es, hes⟩ : ∃ es, es = doAll [] cs := ⟨_, rfl⟩
  have hfew : es.length ≤ 60 := by have := doAll_few cs []; rw [← hes] at this; simp at this; have := HL.out; omega
  have hno : NodesOk es := by rw [hes]; exact nodes_all cs [] nodes_nil
  rw [← hes] at hm2 hx2
  obtain ⟨ax, cx, rfl⟩ := ownsRow_len hx2
  have HM2 := Lib.hid hm2
  have HX2 := Lib.hid hx2
  have HNO := Lib.hid hno
  have HB2 := Lib.hid (HB1.out.trans (hb2.mono hz1))
  have hz2 := HB2.out.size
  clear hm2 hx2 hno hb2 hes hd100
  obtain ⟨so, hso⟩ : ∃ so, so = sortI (fun k => (loadN es k : Int)) ns := ⟨_, rfl⟩
  have HLEN := Lib.hid (show so.length = ns.length by rw [hso]; simp [sortI])
  have HSO := Lib.hid hso
  clear hso
  go_wp2_with fail
  refine (porder_any w1.heap.size bm v _ es ns _ HM2.out HNO.out (HR.out.below HB2.out) HCAP.out HOK.out).mono ?_
  rintro e w3 ⟨v3, rfl, ho3, hb3⟩
  rw [← HSO.out] at ho3
  have HO3 := Lib.hid ho3
  have HB3 := Lib.hid hb3
  have hz3 := hb3.size
  clear ho3 hb3
  go_wp2_with fail
  refine (pick_any w1.heap.size bm v _ es ns _ (HM2.out.below HB3.out) HNO.out (HR.out.below (HB2.out.trans (HB3.out.mono hz2))) HCAP.out HOK.out).mono ?_
  rintro e w4 ⟨a, b, c, rfl, habc, hb4⟩
  rw [if_pos HFW.out] at habc ⊢
  obtain ⟨rfl, rfl, rfl⟩ := habc
  have HB4 := Lib.hid (show Below w2.heap.size w2 w4 from HB3.out.trans (hb4.mono hz3))
  have HB34 := Lib.hid hb4
  have hz4 := HB4.out.size
  have hz34 := hb4.size
  clear hb4
  go_wp2_with fail
  refine (pload_any w1.heap.size bm v es node _ (HM2.out.below (by exact Below.alloc HB4.out hz4 _))).mono ?_
  rintro e w5 ⟨rfl, hb5⟩
  have HB5 := Lib.hid (show Below w2.heap.size w2 w5 from (HB4.out.alloc hz4 _).trans (hb5.mono (by simp; omega)))
  have HB45 := Lib.hid (show Below w4.heap.size w4 w5 from ((Below.refl _ _).alloc (Nat.le_refl _) _).trans (hb5.mono (by simp)))
  have hbk5 := hb5.block w4.heap.size (by simp)
  rw [heap_alloc_new] at hbk5
  have HK5 := Lib.hid hbk5
  have hz5 := HB5.out.size
  have hz45 := hb5.size
  simp only [World.size_alloc] at hz45
  clear hb5 hbk5
  go_wp2_with fail
  refine (rload_any w1.heap.size _ es node _ (ownsRow_below HX2.out HB5.out) (by omega)).mono ?_
  rintro e w6 ⟨rfl, hb6⟩
  have HB6 := Lib.hid (show Below w2.heap.size w2 w6 from HB5.out.trans (hb6.mono hz5))
  have HB56 := Lib.hid hb6
  have hz6 := HB6.out.size
  have hz56 := hb6.size
  clear hb6
  go_wp2_with fail
  refine (rright_any _ ns _ (HR.out.below (HB2.out.trans (HB6.out.mono hz2)))).mono ?_
  rintro e w7 ⟨rfl, hb7⟩
  rw [HOK.out]
  have HB7 := Lib.hid (show Below w2.heap.size w2 w7 from HB6.out.trans (hb7.mono hz6))
  have HB57 := Lib.hid (HB56.out.trans (hb7.mono hz56))
  have hz7 := HB7.out.size
  have hz57 := HB57.out.size
  clear hb7
  go_wp2_with fail
  refine (rorder_any w1.heap.size _ _ es ns _ (ownsRow_below HX2.out HB7.out) (by omega) (HR.out.below (HB2.out.trans (HB7.out.mono hz2))) hm).mono ?_
  rintro e w8 ⟨v8, rfl, ho8, hb8⟩
  rw [← HSO.out] at ho8
  have HO8 := Lib.hid ho8
  have HB8 := Lib.hid (show Below w2.heap.size w2 w8 from HB7.out.trans (hb8.mono hz7))
  have HB58 := Lib.hid (HB57.out.trans (hb8.mono hz57))
  have hz8 := HB8.out.size
  have hz58 := HB58.out.size
  clear ho8 hb8
  go_wp2_with fail
  refine (code_any 0 (by omega) (by omega) _).mono ?_
  rintro e w9 ⟨rfl, rfl⟩
  have HR3 := Lib.hid (show Reads w8 1 v3 so.length (so.map (Value.int .i64)) by rw [HLEN.out]; exact (reads_of_owns HO3.out).below ((HB34.out.trans (HB45.out.mono hz34)).trans (HB58.out.mono (by omega))))
  have HR8 := Lib.hid (show Reads w8 1 v8 so.length (so.map (Value.int .i64)) by rw [HLEN.out]; exact reads_of_owns HO8.out)
  go_wp2_with fail
  refine (samei_any _ _ so so _ HR3.out HR8.out).mono ?_
  rintro e w9 ⟨rfl, hb9⟩
  rw [decide_eq_true (rfl : so = so)]
  have HB9 := Lib.hid (show Below w2.heap.size w2 w9 from HB8.out.trans (hb9.mono hz8))
  have HB59 := Lib.hid (HB58.out.trans (hb9.mono hz58))
  have HO9 := Lib.hid (ownsRow_below HO8.out hb9)
  have hz9 := HB9.out.size
  have hz59 := HB59.out.size
  clear hb9
  go_wp2_with fail
  refine (pnew_few w1.heap.size bm v _ es ns _ (HM2.out.below HB9.out) HNO.out (HR.out.below (HB2.out.trans (HB9.out.mono hz2))) HCAP.out HOK.out HFW.out).mono ?_
  rintro e w10 ⟨rfl, hb10⟩
  have HB10 := Lib.hid (show Below w2.heap.size w2 w10 from HB9.out.trans (hb10.mono hz9))
  have hbk := ((HB59.out.trans (hb10.mono hz59)).block w4.heap.size (by omega)).trans HK5.out
  have z0 := cell_of_row w10 w4.heap.size 0 _ _ _ hbk
  have z1 := cell_of_row w10 w4.heap.size 1 _ _ _ hbk
  have z2 := cell_of_row w10 w4.heap.size 2 _ _ _ hbk
  simp at z0 z1 z2
  clear hb10 hbk
  go_wp2_with fail
  refine (code_any 11 (by omega) (by omega) _).mono ?_
  rintro e w11 ⟨rfl, rfl⟩
  go_wp2_with fail
  refine (code_any 11 (by omega) (by omega) _).mono ?_
  rintro e w11 ⟨rfl, rfl⟩
  go_wp2_with fail
  go_ret
  exact ⟨rfl, HB2.out.trans (HB10.out.mono hz2)⟩
end Go.Proofs.Ytigkcbnlbdiimaa
