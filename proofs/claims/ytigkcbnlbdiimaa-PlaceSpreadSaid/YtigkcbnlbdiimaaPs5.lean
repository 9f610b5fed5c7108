/- Joined texts: Place8, SpreadLaw, PlaceLeave, PlaceRLeave, PlaceMoves. -/
import Derived.Test.YtigkcbnlbdiimaaPs4
/- PlaceOrders: the walk. -/
namespace Go.Proofs.Ytigkcbnlbdiimaa
open Go.RowKit
theorem right_nodup {ns : List Int} (h : rightB ns = true) : ns.Nodup := by
  simp only [rightB, prefOk, Bool.and_eq_true, decide_eq_true_eq, List.all_eq_true, List.mem_range] at h
  rw [List.nodup_iff_pairwise_ne, List.pairwise_iff_getElem]
  intro i j hi hj hij e
  have h1 := (h.2 j hj).2
  simp only [Bool.not_eq_true', List.contains_eq_mem, decide_eq_false_iff_not] at h1
  apply h1
  have e2 : ns.getD j 0 = ns[j] := by simp [hj]
  rw [e2, ← e]
  exact List.mem_take_iff_getElem.2 ⟨i, by omega, rfl⟩
theorem reads_three {w : World} {b : Nat} {x y z : Int} {T : Nat} (h : w.heap[b]? = some (.cells #[.int .i64 x, .int .i64 y, .int .i64 z] T (0, 0))) : Reads w 1 (.slice (some ⟨b, 0, none⟩) 3 3) 3 ([x, y, z].map (Value.int .i64)) :=
  ⟨rfl, .inr ⟨_, _, rfl, by unfold maxLen; omega, World.news_of_block (cs := #[.int .i64 x, .int .i64 y, .int .i64 z]) h⟩⟩
theorem reads_take3 {w w' : World} {base g n c : Nat} {l : List Int} (h : w.ownsRow base 3 1 (.slice (some ⟨g, 0, none⟩) n c) n (l.map (Value.int .i64))) (hl : l.length = n) (hn : 3 ≤ n) (hb : Below w.heap.size w w') :
    Reads w' 1 (.slice (some ⟨g, 0, none⟩) 3 c) (l.take 3).length ((l.take 3).map (Value.int .i64)) := by
  have e : (l.take 3).length = 3 := by rw [List.length_take]; omega
  rw [e, List.map_take]
  exact (reads_pre h hn).below hb
theorem sort_nodes {f : Int → Int} {ns : List Int} (h : rightB ns = true) : (sortI f ns).Nodup ∧ ∀ x ∈ sortI f ns, placeB x = true := by
  have hp : (sortI f ns).Perm ns := List.mergeSort_perm _ _
  exact ⟨hp.nodup_iff.2 (right_nodup h), fun x hx => (right_nodes h).2 x (hp.mem_iff.1 hx)⟩
theorem three_sort {f : Int → Int} {ns : List Int} {a b c : Int} (h : rightB ns = true) (ht : [a, b, c] = (sortI f ns).take 3) : threeB a b c = true := by
  obtain ⟨h1, h2⟩ := sort_nodes (f := f) h
  have h3 : [a, b, c].Nodup := by rw [ht]; exact h1.sublist (List.take_sublist _ _)
  have h4 : ∀ x ∈ [a, b, c], placeB x = true := fun x hx => h2 x (List.mem_of_mem_take (by rw [← ht]; exact hx))
  have ha := h4 a (by simp)
  have hb := h4 b (by simp)
  have hc := h4 c (by simp)
  simp at h3
  simp [threeB, ha, hb, hc, h3.1.1, h3.1.2, h3.2]
set_option maxRecDepth 100000 in
set_option maxHeartbeats 4000000 in
theorem orders_bad (ao : Option Addr) (n cap : Nat) (cs : List Cmd) (va : Value) (ns : List Int) (node : Int) (w : World) (hl : cs.length = n) (hn : n ≤ 60) (hA : 0 < n → ∃ b off, ao = some ⟨b, off, none⟩ ∧ b < w.heap.size ∧ CmdsAt w b off cs)
    (hr : Reads w 1 va ns.length (ns.map (Value.int .i64))) (hcap : ∀ a n c, va = .slice a n c → n ≤ c) (hm : ns.length ≤ 100) (hok : rightB ns = false) :
    Calls Try.prog 10 #[.slice ao n cap, va, .int .i64 node] w fun e w' => e = .returned (.bool true) ∧ Below w.heap.size w w' := by
  obtain ⟨an, capn, rfl⟩ := reads_len hr
  have HL := Lib.hid hl
  have HA := Lib.hid hA
  have HR := Lib.hid hr
  have HCAP := Lib.hid hcap
  have HOK := Lib.hid hok
  have hd60 : decide ((60 : Int) < (n : Int)) = false := by simp; omega
  have hd100 : decide ((100 : Int) < (ns.length : Int)) = false := by simp; omega
  clear hl hA hr hcap hok
  go_enter Try.func10, Try.ntmps10
  go_wp2_with fail
  refine (alive27 _).mono ?_
  rintro e w1 ⟨rfl, hb1⟩
  have HB1 := Lib.hid hb1
  have hz1 := hb1.size
  clear hb1
  go_wp2_with fail
  refine (made_any ao n cap cs _ HL.out hn (fun h0 => by obtain ⟨b, off, h1, h2, h3⟩ := HA.out h0; exact ⟨b, off, h1, by omega, CmdsAt.below h3 HB1.out h2⟩)).mono ?_
  rintro e w2 ⟨bm, v, xv, rfl, hm2, hx2, hb2⟩
  obtain ⟨es, hes⟩ : ∃ es, es = doAll [] cs := ⟨_, rfl⟩
  have hfew : es.length ≤ 60 := by have := doAll_few cs []; rw [← hes] at this; simp at this; have := HL.out; omega
  have hno : NodesOk es := by rw [hes]; exact nodes_all cs [] nodes_nil
  rw [← hes] at hm2 hx2
  obtain ⟨ax, cx, rfl⟩ := ownsRow_len hx2
  have HM2 := Lib.hid hm2
  have HX2 := Lib.hid hx2
  have HNO := Lib.hid hno
  have HB2 := Lib.hid (HB1.out.trans (hb2.mono hz1))
  have hz2 := HB2.out.size
  clear hm2 hx2 hno hb2 hes hd100
  go_wp2_with fail
  refine (porder_bad w1.heap.size bm v _ es ns _ HM2.out (HR.out.below HB2.out) HCAP.out HOK.out).mono ?_
  rintro e w3 ⟨rfl, rfl⟩
  go_wp2_with fail
  refine (pick_bad w1.heap.size bm v _ es ns _ HM2.out (HR.out.below HB2.out) HCAP.out HOK.out).mono ?_
  rintro e w3 ⟨rfl, hb3⟩
  have HB3 := Lib.hid hb3
  have HBW3 := Lib.hid (HB2.out.trans (hb3.mono hz2))
  have hz3 := hb3.size
  clear hb3
  go_wp2_with fail
  refine (pload_any w1.heap.size bm v es node _ (HM2.out.below (by exact Below.alloc HB3.out hz3 _))).mono ?_
  rintro e w4 ⟨rfl, hb4⟩
  have HB4 := Lib.hid (show Below w2.heap.size w2 w4 from (HB3.out.alloc hz3 _).trans (hb4.mono (by simp; omega)))
  have hz4 := HB4.out.size
  clear hb4
  go_wp2_with fail
  refine (rload_any w1.heap.size _ es node _ (ownsRow_below HX2.out HB4.out) (by omega)).mono ?_
  rintro e w5 ⟨rfl, hb5⟩
  have HB5 := Lib.hid (show Below w2.heap.size w2 w5 from HB4.out.trans (hb5.mono hz4))
  have hz5 := HB5.out.size
  clear hb5
  go_wp2_with fail
  refine (rright_any _ ns _ (HR.out.below (HB2.out.trans (HB5.out.mono hz2)))).mono ?_
  rintro e w6 ⟨rfl, hb6⟩
  rw [HOK.out]
  have HB6 := Lib.hid (show Below w2.heap.size w2 w6 from HB5.out.trans (hb6.mono hz5))
  have hz6 := HB6.out.size
  clear hb6
  go_wp2_with fail
  refine (pnew_bad w1.heap.size bm v _ es ns _ (HM2.out.below HB6.out) (HR.out.below (HB2.out.trans (HB6.out.mono hz2))) HCAP.out HOK.out).mono ?_
  rintro e w7 ⟨rfl, hb7⟩
  have HB7 := Lib.hid (show Below w2.heap.size w2 w7 from HB6.out.trans (hb7.mono hz6))
  clear hb7
  go_wp2_with fail
  refine (code_any 1 (by omega) (by omega) _).mono ?_
  rintro e w8 ⟨rfl, rfl⟩
  go_wp2_with fail
  refine (code_any 1 (by omega) (by omega) _).mono ?_
  rintro e w8 ⟨rfl, rfl⟩
  go_wp2_with fail
  refine (code_any 1 (by omega) (by omega) _).mono ?_
  rintro e w8 ⟨rfl, rfl⟩
  go_wp2_with fail
  go_ret
  exact ⟨rfl, HB2.out.trans (HB7.out.mono hz2)⟩
set_option maxRecDepth 100000 in
set_option maxHeartbeats 4000000 in
theorem orders_few (ao : Option Addr) (n cap : Nat) (cs : List Cmd) (va : Value) (ns : List Int) (node : Int) (w : World) (hl : cs.length = n) (hn : n ≤ 60) (hA : 0 < n → ∃ b off, ao = some ⟨b, off, none⟩ ∧ b < w.heap.size ∧ CmdsAt w b off cs)
    (hr : Reads w 1 va ns.length (ns.map (Value.int .i64))) (hcap : ∀ a n c, va = .slice a n c → n ≤ c) (hm : ns.length ≤ 100) (hok : rightB ns = true) (hfw : ns.length < 3) :
    Calls Try.prog 10 #[.slice ao n cap, va, .int .i64 node] w fun e w' => e = .returned (.bool true) ∧ Below w.heap.size w w' := by
  have HFW := Lib.hid hfw
  have hd3 : decide ((ns.length : Int) < 3) = true := by simp; omega
  clear hfw
  obtain ⟨an, capn, rfl⟩ := reads_len hr
  have HL := Lib.hid hl
  have HA := Lib.hid hA
  have HR := Lib.hid hr
  have HCAP := Lib.hid hcap
  have HOK := Lib.hid hok
  have hd60 : decide ((60 : Int) < (n : Int)) = false := by simp; omega
  have hd100 : decide ((100 : Int) < (ns.length : Int)) = false := by simp; omega
  clear hl hA hr hcap hok
  go_enter Try.func10, Try.ntmps10
  go_wp2_with fail
  refine (alive27 _).mono ?_
  rintro e w1 ⟨rfl, hb1⟩
  have HB1 := Lib.hid hb1
  have hz1 := hb1.size
  clear hb1
  go_wp2_with fail
  refine (made_any ao n cap cs _ HL.out hn (fun h0 => by obtain ⟨b, off, h1, h2, h3⟩ := HA.out h0; exact ⟨b, off, h1, by omega, CmdsAt.below h3 HB1.out h2⟩)).mono ?_
  rintro e w2 ⟨bm, v, xv, rfl, hm2, hx2, hb2⟩
  obtain ⟨es, hes⟩ : ∃ es, es = doAll [] cs := ⟨_, rfl⟩
  have hfew : es.length ≤ 60 := by have := doAll_few cs []; rw [← hes] at this; simp at this; have := HL.out; omega
  have hno : NodesOk es := by rw [hes]; exact nodes_all cs [] nodes_nil
  rw [← hes] at hm2 hx2
  obtain ⟨ax, cx, rfl⟩ := ownsRow_len hx2
  have HM2 := Lib.hid hm2
  have HX2 := Lib.hid hx2
  have HNO := Lib.hid hno
  have HB2 := Lib.hid (HB1.out.trans (hb2.mono hz1))
  have hz2 := HB2.out.size
  clear hm2 hx2 hno hb2 hes hd100
  obtain ⟨so, hso⟩ : ∃ so, so = sortI (fun k => (loadN es k : Int)) ns := ⟨_, rfl⟩
  have HLEN := Lib.hid (show so.length = ns.length by rw [hso]; simp [sortI])
  have HSO := Lib.hid hso
  clear hso
  go_wp2_with fail
  refine (porder_any w1.heap.size bm v _ es ns _ HM2.out HNO.out (HR.out.below HB2.out) HCAP.out HOK.out).mono ?_
  rintro e w3 ⟨v3, rfl, ho3, hb3⟩
  rw [← HSO.out] at ho3
  have HO3 := Lib.hid ho3
  have HB3 := Lib.hid hb3
  have hz3 := hb3.size
  clear ho3 hb3
  go_wp2_with fail
  refine (pick_any w1.heap.size bm v _ es ns _ (HM2.out.below HB3.out) HNO.out (HR.out.below (HB2.out.trans (HB3.out.mono hz2))) HCAP.out HOK.out).mono ?_
  rintro e w4 ⟨a, b, c, rfl, habc, hb4⟩
  rw [if_pos HFW.out] at habc ⊢
  obtain ⟨rfl, rfl, rfl⟩ := habc
  have HB4 := Lib.hid (show Below w2.heap.size w2 w4 from HB3.out.trans (hb4.mono hz3))
  have HB34 := Lib.hid hb4
  have hz4 := HB4.out.size
  have hz34 := hb4.size
  clear hb4
  go_wp2_with fail
  refine (pload_any w1.heap.size bm v es node _ (HM2.out.below (by exact Below.alloc HB4.out hz4 _))).mono ?_
  rintro e w5 ⟨rfl, hb5⟩
  have HB5 := Lib.hid (show Below w2.heap.size w2 w5 from (HB4.out.alloc hz4 _).trans (hb5.mono (by simp; omega)))
  have HB45 := Lib.hid (show Below w4.heap.size w4 w5 from ((Below.refl _ _).alloc (Nat.le_refl _) _).trans (hb5.mono (by simp)))
  have hbk5 := hb5.block w4.heap.size (by simp)
  rw [heap_alloc_new] at hbk5
  have HK5 := Lib.hid hbk5
  have hz5 := HB5.out.size
  have hz45 := hb5.size
  simp only [World.size_alloc] at hz45
  clear hb5 hbk5
  go_wp2_with fail
  refine (rload_any w1.heap.size _ es node _ (ownsRow_below HX2.out HB5.out) (by omega)).mono ?_
  rintro e w6 ⟨rfl, hb6⟩
  have HB6 := Lib.hid (show Below w2.heap.size w2 w6 from HB5.out.trans (hb6.mono hz5))
  have HB56 := Lib.hid hb6
  have hz6 := HB6.out.size
  have hz56 := hb6.size
  clear hb6
  go_wp2_with fail
  refine (rright_any _ ns _ (HR.out.below (HB2.out.trans (HB6.out.mono hz2)))).mono ?_
  rintro e w7 ⟨rfl, hb7⟩
  rw [HOK.out]
  have HB7 := Lib.hid (show Below w2.heap.size w2 w7 from HB6.out.trans (hb7.mono hz6))
  have HB57 := Lib.hid (HB56.out.trans (hb7.mono hz56))
  have hz7 := HB7.out.size
  have hz57 := HB57.out.size
  clear hb7
  go_wp2_with fail
  refine (rorder_any w1.heap.size _ _ es ns _ (ownsRow_below HX2.out HB7.out) (by omega) (HR.out.below (HB2.out.trans (HB7.out.mono hz2))) hm).mono ?_
  rintro e w8 ⟨v8, rfl, ho8, hb8⟩
  rw [← HSO.out] at ho8
  have HO8 := Lib.hid ho8
  have HB8 := Lib.hid (show Below w2.heap.size w2 w8 from HB7.out.trans (hb8.mono hz7))
  have HB58 := Lib.hid (HB57.out.trans (hb8.mono hz57))
  have hz8 := HB8.out.size
  have hz58 := HB58.out.size
  clear ho8 hb8
  go_wp2_with fail
  refine (code_any 0 (by omega) (by omega) _).mono ?_
  rintro e w9 ⟨rfl, rfl⟩
  have HR3 := Lib.hid (show Reads w8 1 v3 so.length (so.map (Value.int .i64)) by rw [HLEN.out]; exact (reads_of_owns HO3.out).below ((HB34.out.trans (HB45.out.mono hz34)).trans (HB58.out.mono (by omega))))
  have HR8 := Lib.hid (show Reads w8 1 v8 so.length (so.map (Value.int .i64)) by rw [HLEN.out]; exact reads_of_owns HO8.out)
  go_wp2_with fail
  refine (samei_any _ _ so so _ HR3.out HR8.out).mono ?_
  rintro e w9 ⟨rfl, hb9⟩
  rw [decide_eq_true (rfl : so = so)]
  have HB9 := Lib.hid (show Below w2.heap.size w2 w9 from HB8.out.trans (hb9.mono hz8))
  have HB59 := Lib.hid (HB58.out.trans (hb9.mono hz58))
  have HO9 := Lib.hid (ownsRow_below HO8.out hb9)
  have hz9 := HB9.out.size
  have hz59 := HB59.out.size
  clear hb9
  go_wp2_with fail
  refine (pnew_few w1.heap.size bm v _ es ns _ (HM2.out.below HB9.out) HNO.out (HR.out.below (HB2.out.trans (HB9.out.mono hz2))) HCAP.out HOK.out HFW.out).mono ?_
  rintro e w10 ⟨rfl, hb10⟩
  have HB10 := Lib.hid (show Below w2.heap.size w2 w10 from HB9.out.trans (hb10.mono hz9))
  have hbk := ((HB59.out.trans (hb10.mono hz59)).block w4.heap.size (by omega)).trans HK5.out
  have z0 := cell_of_row w10 w4.heap.size 0 _ _ _ hbk
  have z1 := cell_of_row w10 w4.heap.size 1 _ _ _ hbk
  have z2 := cell_of_row w10 w4.heap.size 2 _ _ _ hbk
  simp at z0 z1 z2
  clear hb10 hbk
  go_wp2_with fail
  refine (code_any 11 (by omega) (by omega) _).mono ?_
  rintro e w11 ⟨rfl, rfl⟩
  go_wp2_with fail
  refine (code_any 11 (by omega) (by omega) _).mono ?_
  rintro e w11 ⟨rfl, rfl⟩
  go_wp2_with fail
  go_ret
  exact ⟨rfl, HB2.out.trans (HB10.out.mono hz2)⟩
end Go.Proofs.Ytigkcbnlbdiimaa

/- PlaceSpread: the plain law: an order has each node once, the loads rising; moves lead to nodes that the volume hasn't. -/
namespace Go.Proofs.Ytigkcbnlbdiimaa
open Go.RowKit
theorem sort_hit {f : Int → Int} {ns : List Int} (h : rightB ns = true) {i : Nat} {x : Int} (hx : (sortI f ns)[i]? = some x) : ns.countP (fun y => y == x) = 1 := by
  have hp : (sortI f ns).Perm ns := List.mergeSort_perm _ _
  have hm : x ∈ ns := hp.mem_iff.1 (List.mem_of_getElem? hx)
  have := (right_nodup h).count (a := x)
  rw [if_pos hm] at this
  exact this
theorem hit_snoc (ns : List Int) (x y : Int) (k : Nat) (hy : ns[k]? = some y) : (ns.take (k + 1)).countP (fun z => z == x) = (ns.take k).countP (fun z => z == x) + if y = x then 1 else 0 := by
  rw [List.take_add_one, hy, List.countP_append]
  by_cases h : y = x <;> simp [h]
theorem sort_rise {f : Int → Int} {ns : List Int} (h : rightB ns = true) {i : Nat} {x y : Int} (hx : (sortI f ns)[i]? = some x) (hy : (sortI f ns)[i + 1]? = some y) : f x < f y ∨ (f x = f y ∧ x < y) := by
  obtain ⟨hi, rfl⟩ := List.getElem?_eq_some_iff.1 hx
  obtain ⟨hj, rfl⟩ := List.getElem?_eq_some_iff.1 hy
  have hs := List.pairwise_iff_getElem.1 (sortI_sorted f ns) i (i + 1) hi hj (by omega)
  have hn := List.pairwise_iff_getElem.1 (sort_nodes (f := f) h).1 i (i + 1) hi hj (by omega)
  unfold leP ltP at hs
  simp at hs
  omega
/-- A move that may be: its volume is there, as it was, and hasn't the node. -/
def MoveOk (es : List Ent) (m : Mv) : Prop := ∃ (j : Nat) (x : Ent), es[j]? = some x ∧ m.vol = (j : Int) + 1 ∧ x.epoch = m.epoch ∧ hasB x m.node = false ∧ 0 ≤ m.spot ∧ m.spot ≤ 2
theorem hasI_in {x : Ent} {n : Int} (h : hasB x n = true) : 0 ≤ hasI x n ∧ hasI x n ≤ 2 := by
  have h1 := hasI_pos x n
  rw [h] at h1
  refine ⟨by simpa using h1, ?_⟩
  unfold hasI
  repeat (first | omega | split)
theorem leaveF_ok {es : List Ent} {node : Int} {ns : List Int} (hv : ∀ (i : Nat) (x : Ent), es[i]? = some x → x.vol = (i : Int) + 1) : ∀ (f k : Nat) (l : List Ent) (out : List Mv), (∀ i, k ≤ i → l[i]? = es[i]?) → leaveF node ns f k l = some out → ∀ m ∈ out, MoveOk es m
  | 0, k, l, out, _, h, m, hm => by
    simp only [leaveF, Option.some.injEq] at h
    subst h
    cases hm
  | f + 1, k, l, out, hl, h, m, hm => by
    rw [leaveF] at h
    cases hx : l[k]? with
    | none =>
      rw [hx] at h
      simp only [Option.some.injEq] at h
      subst h
      cases hm
    | some x =>
      rw [hx] at h
      dsimp only at h
      by_cases hn : hasB x node = true
      · rw [if_pos hn] at h
        cases hmay : mayOf l ns x with
        | nil => rw [hmay] at h; cases h
        | cons t r =>
          rw [hmay] at h
          dsimp only at h
          cases hr : leaveF node ns f (k + 1) (l.set k (x.mv node t)) with
          | none => rw [hr] at h; cases h
          | some out' =>
            rw [hr] at h
            simp only [Option.map_some, Option.some.injEq] at h
            subst h
            have hxe : es[k]? = some x := by rw [← hl k (Nat.le_refl _)]; exact hx
            rcases List.mem_cons.1 hm with rfl | hm
            · have ht : t ∈ mayOf l ns x := by rw [hmay]; exact List.mem_cons_self
              have ht' := (List.mem_filter.1 ht).2
              obtain ⟨a, b⟩ := hasI_in hn
              exact ⟨k, x, hxe, hv k x hxe, rfl, by simpa using ht', a, b⟩
            · refine leaveF_ok hv f (k + 1) _ out' (fun i hi => ?_) hr m hm
              rw [List.getElem?_set_ne (by omega)]
              exact hl i (by omega)
      · rw [if_neg hn] at h
        exact leaveF_ok hv f (k + 1) l out (fun i hi => hl i (by omega)) h m hm
theorem leaveI_ok {es : List Ent} {node : Int} {ns : List Int} (hv : ∀ (i : Nat) (x : Ent), es[i]? = some x → x.vol = (i : Int) + 1) {out : List Mv} (h : leaveI es node ns = some out) : ∀ m ∈ out, MoveOk es m :=
  leaveF_ok hv _ 0 es out (fun _ _ => rfl) h
theorem evenI_ok {es : List Ent} {ns : List Int} (hv : ∀ (i : Nat) (x : Ent), es[i]? = some x → x.vol = (i : Int) + 1) {m : Mv} (h : evenI es ns = some m) : MoveOk es m := by
  unfold evenI evenAB at h
  split at h
  · cases h
  · cases hf : es.find? (canGo (lightI es ns) (heavyI es ns)) with
    | none => rw [hf] at h; cases h
    | some x =>
      rw [hf] at h
      simp only [Option.map_some, Option.some.injEq] at h
      subst h
      have hc := List.find?_some hf
      obtain ⟨j, hj⟩ := List.mem_iff_getElem?.1 (List.mem_of_find?_eq_some hf)
      simp only [canGo, Bool.and_eq_true, Bool.not_eq_true'] at hc
      obtain ⟨a, b⟩ := hasI_in hc.1
      exact ⟨j, x, hj, hv j x hj, rfl, hc.2, a, b⟩
/-- All moves that are looked at. -/
def allMoves (es : List Ent) (node : Int) (ns : List Int) : List Mv := (leaveI es node ns).getD [] ++ (evenI es ns).toList
end Go.Proofs.Ytigkcbnlbdiimaa

/- place.Leave. -/
namespace Go.Proofs.Ytigkcbnlbdiimaa
open Go.RowKit Go.Maps Go.Sort
theorem move_info : (Try.prog.info? 94).map (fun i => (i.zero, i.size, i.bytes)) = some (some (.agg #[.int .i64 0, .int .i64 0, .int .i64 0, .int .i64 0]), 4, 32) := by kernel_rfl
/-- DeleteFunc at whatever row of nodes, none too. -/
theorem may_gen (so : List Int) (x : Ent) (v : Value) (bx base : Nat) (w : World) (ho : w.ownsRow base 3 1 v so.length (so.map (Value.int .i64))) (hp : ∀ n ∈ so, placeB n = true)
    (hb : bx < w.heap.size) (hne : v.ownBlock ≠ some bx) (h0 : w.cell? ⟨bx, 2, none⟩ = some (.int .i64 x.n0)) (h1 : w.cell? ⟨bx, 3, none⟩ = some (.int .i64 x.n1)) (h2 : w.cell? ⟨bx, 4, none⟩ = some (.int .i64 x.n2)) :
    Calls Try.prog 76 #[v, .func (.func 77) #[] #[.pointer (some ⟨bx, 0, none⟩)]] w
      fun e w' => ∃ am cm, e = .returned (.slice am (so.filter fun t => !hasB x t).length cm) ∧ (∀ t r, (so.filter fun t => !hasB x t) = t :: r → ∃ g, am = some ⟨g, 0, none⟩ ∧ base ≤ g ∧ v.ownBlock = some g ∧ w'.cell? ⟨g, 0, none⟩ = some (.int .i64 t)) ∧ Keeps (fun k => v.ownBlock = some k) w w' := by
  rcases ho.2 with ⟨hv, hz⟩ | ⟨g, cap, cur, hv, hg, _⟩
  · subst hv
    have hso : so = [] := List.eq_nil_of_length_eq_zero hz
    subst hso
    go_enter Try.func76, Try.ntmps76
    go_wp2_with fail
    refine (Try.slices_IndexFunc_empty (α := Fin 256) none 0 _ _).mono ?_
    rintro e w' ⟨rfl, rfl⟩
    go_wp2_with fail
    go_ret
    exact ⟨_, _, rfl, fun t r h => by simp at h, Keeps.refl _ _⟩
  · subst hv
    refine (may_any so x g cap bx base w ho hp hb (fun e => hne (by rw [e]; rfl)) h0 h1 h2).mono ?_
    rintro e w' ⟨rfl, h3, h4⟩
    exact ⟨_, _, rfl, fun t r h => ⟨g, rfl, hg, rfl, h3 t r h⟩, h4.mono fun k _ hk => by rw [hk]; rfl⟩
theorem mvs_one (l : List Mv) : ∀ u ∈ l.flatMap Mv.row, u.oneCell' = true := by
  intro u hu
  obtain ⟨m, _, hm⟩ := List.mem_flatMap.1 hu
  simp only [Mv.row, List.mem_cons, List.not_mem_nil, or_false] at hm
  rcases hm with rfl | rfl | rfl | rfl <;> rfl
theorem reads_row4 (w : World) (a b c d : Value) (T : Nat) : Reads ((w.alloc (.cells #[a, b, c, d] T)).drew) 4 (.slice (some ⟨w.heap.size, 0, none⟩) 1 1) 1 [a, b, c, d] :=
  ⟨rfl, .inr ⟨_, _, rfl, by unfold maxLen; omega, World.news_of_block (heap_alloc_new w _)⟩⟩
/-- What Leave gives. -/
def LeaveOut (w : World) (r : Option (List Mv)) (e : Ending) (w' : World) : Prop := match r with
  | none => e = .returned (.tuple #[.slice none 0 0, errV 11]) ∧ Below w.heap.size w w'
  | some l => ∃ v', e = .returned (.tuple #[v', .nilIface]) ∧ w'.ownsRow w.heap.size 94 4 v' l.length (l.flatMap Mv.row) ∧ Below w.heap.size w w'
theorem LeaveOut.no {w : World} {r : Option (List Mv)} {e : Ending} {w' : World} (h : r = none) (h1 : e = .returned (.tuple #[.slice none 0 0, errV 11])) (h2 : Below w.heap.size w w') : LeaveOut w r e w' := by subst h; exact ⟨h1, h2⟩
theorem LeaveOut.yes {w : World} {r : Option (List Mv)} {e : Ending} {w' : World} {l : List Mv} {v' : Value} (h : r = some l) (h1 : e = .returned (.tuple #[v', .nilIface])) (h3 : w'.ownsRow w.heap.size 94 4 v' l.length (l.flatMap Mv.row)) (h2 : Below w.heap.size w w') : LeaveOut w r e w' := by subst h; exact ⟨_, h1, h3, h2⟩
theorem MapIs.congr {w : World} {b n : Nat} {f g : Int → Int} (h : MapIs w b n f) (e : ∀ j, f j = g j) : MapIs w b n g := by
  have : f = g := funext e
  rw [← this]; exact h
set_option maxHeartbeats 1000000 in
theorem pleave_bad (base bm : Nat) (v va : Value) (es : List Ent) (ns : List Int) (node : Int) (w : World) (h : MapAt w base bm v es) (hr : Reads w 1 va ns.length (ns.map (Value.int .i64))) (hcap : ∀ a n c, va = .slice a n c → n ≤ c) (hok : rightB ns = false) :
    Calls Try.prog 51 #[.pointer (some ⟨bm, 0, none⟩), .int .i64 node, va] w fun e w' => e = .returned (.tuple #[.slice none 0 0, errV 1]) ∧ w = w' := by
  have HN := Lib.hid (errV_ne (k := 1) (by omega))
  have HO := Lib.hid (porder_bad base bm v va es ns w h hr hcap hok)
  clear h hr hcap hok
  go_enter Try.func51, Try.ntmps51
  go_wp2_with fail
  refine HO.out.mono ?_
  rintro e w1 ⟨rfl, rfl⟩
  rw [HN.out]
  go_wp2_with fail
  go_ret2
  exact ⟨by rw [HN.out]; rfl, rfl⟩
set_option maxRecDepth 100000 in
set_option maxHeartbeats 8000000 in
theorem pleave_any (base bm : Nat) (v va : Value) (es : List Ent) (ns : List Int) (node : Int) (w : World) (h : MapAt w base bm v es) (hno : NodesOk es) (hr : Reads w 1 va ns.length (ns.map (Value.int .i64))) (hcap : ∀ a n c, va = .slice a n c → n ≤ c) (hok : rightB ns = true) :
    Calls Try.prog 51 #[.pointer (some ⟨bm, 0, none⟩), .int .i64 node, va] w (LeaveOut w (leaveI es node ns)) := by
  have hfew := h.few
  have H := Lib.hid h
  have HNO := Lib.hid hno
  have HR := Lib.hid hr
  have HOK := Lib.hid hok
  have HO := Lib.hid (porder_any base bm v va es ns w h hno hr hcap hok)
  have HN := Lib.hid (errV_ne (k := 11) (by omega))
  obtain ⟨i0, hi, hz0, hz1, hz2⟩ := info_parts move_info
  have HI := Lib.hid hi
  have HZ0 := Lib.hid hz0
  have HZ1 := Lib.hid hz1
  have HZ2 := Lib.hid hz2
  clear h hr hcap hok hno hi hz0 hz1 hz2
  obtain ⟨res, hres⟩ : ∃ res, res = leaveI es node ns := ⟨_, rfl⟩
  rw [← hres]
  have HRES := Lib.hid hres
  clear hres
  go_enter Try.func51, Try.ntmps51
  go_wp2_with fail
  refine HO.out.mono ?_
  rintro e w1 ⟨v1, rfl, ho1, hb1⟩
  have HB1 := Lib.hid hb1
  have hz1 := hb1.size
  clear ho1 hb1
  go_wp2_with fail
  refine (all_any base bm v es _ (H.out.below HB1.out)).mono ?_
  rintro e w2 ⟨v2, rfl, ho2, _, hb2⟩
  obtain ⟨a2, c2, rfl⟩ := ownsRow_len ho2
  have HB2 := Lib.hid (HB1.out.trans (hb2.mono hz1))
  have hz2 := hb2.size
  have HO2 := Lib.hid ho2
  clear ho2 hb2
  go_wp2_with fail
  refine (loads_any _ _ es _ HO2.out hfew HNO.out).mono ?_
  rintro e w3 ⟨n3, rfl, hn3, hm3, hb3⟩
  have HB3 := Lib.hid (HB2.out.trans (hb3.mono (by omega)))
  have HO3 := Lib.hid (ownsRow_below HO2.out hb3)
  have hz3 := hb3.size
  have hlm := hm3.lt
  have HM3 := Lib.hid hm3
  have hmb := HO2.out.lt
  obtain ⟨mb, hmbe⟩ : ∃ mb, mb = w2.heap.size := ⟨_, rfl⟩
  rw [← hmbe] at HM3 hlm ⊢
  have hmw : w1.heap.size ≤ mb := by omega
  have hmne : ∀ k, (Value.slice a2 es.length c2).ownBlock = some k → k ≠ mb := fun k hk => by have := hmb k hk; omega
  have HMNE := Lib.hid hmne
  clear hm3 hb3 hmb hmne hmbe
  go_wp2_with fail
  go_loopw [12, 32] (fun ov i wr => ∃ (k : Nat) (out : List Mv) (l : List Ent) (n : Nat) (ow : Value), k ≤ es.length ∧ i = .int .i64 k ∧ ov = ow ∧ leaveI es node ns = (leaveF node ns (l.length - k) k l).map (out ++ ·) ∧ l.length = es.length ∧ (∀ j, k ≤ j → l[j]? = es[j]?) ∧ NodesOk l ∧
      MapIs wr mb n (fun j => (loadN l j : Int)) ∧ n ≤ 12288 + 2 * k ∧ out.length ≤ k ∧ wr.ownsRow w3.heap.size 94 4 ow out.length (out.flatMap Mv.row) ∧ Keeps (fun j => j = mb) w3 wr) (fun _ i _ => es.length - (intOf i).toNat)
  case atStart => exact ⟨0, [], es, n3, _, Nat.zero_le _, rfl, rfl, by simp [leaveI, Option.map_id'], rfl, fun _ _ => rfl, HNO.out, HM3.out, by omega, Nat.le_refl _, World.ownsRow_nil _ _ _ _, Keeps.refl _ _⟩
  case round =>
    obtain ⟨k, out, l, n, ow, hk, rfl, hov, hlv, hll, hle, hnl, hml, hnb, hol, hown, hkp⟩ := hrel
    have hov' := hov.symm
    clear hov
    subst hov'
    obtain ⟨ao, co, rfl⟩ := ownsRow_len hown
    have HLV := Lib.hid hlv
    have HLL := Lib.hid hll
    have HNL := Lib.hid hnl
    have HML := Lib.hid hml
    have HOW := Lib.hid hown
    have HKP := Lib.hid hkp
    have HLE := Lib.hid hle
    have hzr := hkp.size
    have hmr : mb < wr.heap.size := by omega
    clear hlv hll hle hnl hml hown hkp
    by_cases hlt : k < es.length
    · obtain ⟨x, hx⟩ : ∃ x, es[k]? = some x := ⟨_, List.getElem?_eq_getElem hlt⟩
      obtain ⟨g3, cc3, e3, hg3, _, _, x0, x1, x2, x3, x4, x5⟩ := row_ent (ownsRow_keeps HO3.out HKP.out (fun j hj => HMNE.out j hj)) k x hx
      obtain ⟨rfl, -, rfl⟩ := slice_inj e3
      have HX := Lib.hid ((HLE.out k (Nat.le_refl _)).trans hx)
      have HP := Lib.hid (hasI_pos x node)
      have HXN := Lib.hid (HNL.out x (List.mem_of_getElem? HX.out))
      clear hx e3
      have HI3 := Lib.hid (fun W h0 h1 h2 => index3 wr.heap.size 2 3 x node W h0 h1 h2)
      obtain ⟨r, hr⟩ : ∃ r, hasI x node = r := ⟨_, rfl⟩
      rw [hr] at HI3 HP
      have HR' := Lib.hid hr
      clear hr
      obtain ⟨p, hp⟩ : ∃ p, hasB x node = p := ⟨_, rfl⟩
      rw [hp] at HP
      have HPB := Lib.hid hp
      clear hp
      have hk0 : (0 : Int) ≤ (k : Int) := by omega
      have hk1 : (k : Int) < (es.length : Int) := by omega
      cases p
      · have hi : decide (r < 0) = true := by have := HP.out; simp at this ⊢; omega
        have HNX := Lib.hid (leaveF_no (node := node) (ns := ns) rfl HX.out HPB.out)
        obtain ⟨xv, xe, xa, xb, xc, xs⟩ := x
        simp only at x0 x1 x2 x3 x4 x5
        go_wp2_with fail
        refine (HI3.out _ (by go_simp) (by go_simp) (by go_simp)).mono ?_
        rintro e w5 ⟨rfl, rfl⟩
        go_wp2_with fail
        go_roundw
        case rel => exact ⟨k + 1, out, l, n, _, by omega, by go_num, rfl, by rw [HLV.out, HNX.out], HLL.out, fun j hj => HLE.out j (by omega), HNL.out, HML.out.below (by repeat (first | (with_reducible exact Below.refl _ _) | (with_reducible refine Below.setCell ?_ ?_ _) | (with_reducible refine Below.alloc ?_ ?_ _) | (with_reducible refine Below.drewN ?_ _) | (with_reducible refine Below.drew ?_) | (with_reducible exact Nat.le_refl _) | (focus (simp only [World.size_alloc, World.size_setCell, World.size_drew, World.size_drewN]; omega)) | omega | exact Nat.le_refl _ | (focus (simp; done)) | (focus (simp; omega)))), by omega, by omega, HOW.out.alloc _, HKP.out.alloc _⟩
        case measure => simp [intOf]; omega
      · have hi : decide (r < 0) = false := by have := HP.out; simp at this ⊢; omega
        obtain ⟨mo, hmo⟩ : ∃ mo, mo = mayOf l ns x := ⟨_, rfl⟩
        have HMO := Lib.hid hmo
        have HXL := Lib.hid hlt
        have HXV := Lib.hid (Eq.refl x)
        clear hmo
        obtain ⟨xv, hxv⟩ : ∃ xv, xv = x.vol := ⟨_, rfl⟩
        obtain ⟨xe, hxe⟩ : ∃ xe, xe = x.epoch := ⟨_, rfl⟩
        obtain ⟨xa, hxa⟩ : ∃ xa, xa = x.n0 := ⟨_, rfl⟩
        obtain ⟨xb, hxb⟩ : ∃ xb, xb = x.n1 := ⟨_, rfl⟩
        obtain ⟨xc, hxc⟩ : ∃ xc, xc = x.n2 := ⟨_, rfl⟩
        obtain ⟨xs, hxs⟩ : ∃ xs, xs = x.shut := ⟨_, rfl⟩
        rw [← hxv] at x0
        rw [← hxe] at x1
        rw [← hxa] at x2
        rw [← hxb] at x3
        rw [← hxc] at x4
        rw [← hxs] at x5
        rw [← hxa, ← hxb, ← hxc] at HI3
        have HXX := Lib.hid (And.intro hxv (And.intro hxe (And.intro hxa (And.intro hxb hxc))))
        clear hxv hxe hxa hxb hxc hxs
        go_wp2_with fail
        refine (HI3.out _ (by go_simp) (by go_simp) (by go_simp)).mono ?_
        rintro e w5 ⟨rfl, rfl⟩
        go_wp2_with fail
        have HSL := Lib.hid (show (sortI (fun j => (loadN l j : Int)) ns).length = ns.length by simp [sortI])
        have hBwr : Below w.heap.size w wr := HB3.out.trans (HKP.out.below (by omega) (fun j e => by omega))
        have HBWR := Lib.hid hBwr
        clear hBwr
        refine (order_any (fun j => (loadN l j : Int)) mb n ns va _ (HML.out.below (by repeat (first | (with_reducible exact Below.refl _ _) | (with_reducible refine Below.setCell ?_ ?_ _) | (with_reducible refine Below.alloc ?_ ?_ _) | (with_reducible refine Below.drewN ?_ _) | (with_reducible refine Below.drew ?_) | (with_reducible exact Nat.le_refl _) | (focus (simp only [World.size_alloc, World.size_setCell, World.size_drew, World.size_drewN]; omega)) | omega | exact Nat.le_refl _ | (focus (simp; done)) | (focus (simp; omega))))) (HR.out.below (HBWR.out.alloc (by have := HBWR.out.size; omega) _)) HOK.out).mono ?_
        rintro e w6 ⟨v6, rfl, ho6, hb6⟩
        have HB6 := Lib.hid hb6
        have HO6 := Lib.hid ho6
        have hz6 := hb6.size
        simp only [World.size_alloc] at hz6
        have HV6 := Lib.hid ho6.lt
        have HBX6 := Lib.hid ((hb6.block wr.heap.size (by simp)).trans (heap_alloc_new wr _))
        have kx2 := cell_of_row w6 wr.heap.size 2 _ _ _ HBX6.out
        have kx3 := cell_of_row w6 wr.heap.size 3 _ _ _ HBX6.out
        have kx4 := cell_of_row w6 wr.heap.size 4 _ _ _ HBX6.out
        simp at kx2 kx3 kx4
        have KX := Lib.hid (And.intro kx2 (And.intro kx3 kx4))
        clear ho6 hb6 kx2 kx3 kx4
        go_wp2_with fail
        refine (may_gen (sortI (fun j => (loadN l j : Int)) ns) x v6 wr.heap.size (wr.heap.size + 1) w6 (by rw [HSL.out]; have := HO6.out; simpa using this) (fun m hm => (right_nodes HOK.out).2 m ((List.mergeSort_perm _ _).mem_iff.1 hm)) (by omega)
          (fun e => by have := HV6.out _ e; simp only [World.size_alloc] at this; omega) (by rw [KX.out.1, HXX.out.2.2.1]) (by rw [KX.out.2.1, HXX.out.2.2.2.1]) (by rw [KX.out.2.2, HXX.out.2.2.2.2])).mono ?_
        rintro e w7 ⟨am, cm, rfl, hmay, hk7⟩
        rw [show ((sortI (fun j => (loadN l j : Int)) ns).filter fun t => !hasB x t) = mo from HMO.out.symm] at hmay ⊢
        have HSO := Lib.hid (show ∀ m, m ∈ mo → placeB m = true ∧ hasB x m = false from fun m hm => by
          rw [HMO.out] at hm
          have h1 := List.mem_filter.1 hm
          exact ⟨(right_nodes HOK.out).2 m ((List.mergeSort_perm _ _).mem_iff.1 h1.1), by simpa using h1.2⟩)
        have HK7 := Lib.hid hk7
        have hz7 := hk7.size
        have HMAY := Lib.hid hmay
        have hV6 : ∀ j, v6.ownBlock = some j → wr.heap.size + 1 ≤ j ∧ j < w6.heap.size := fun j hj => by have := HV6.out j hj; simp only [World.size_alloc] at this; exact this
        have HV6' := Lib.hid hV6
        have HK37 := Lib.hid (show Keeps (fun j => j = mb) w3 w7 from ((HKP.out.alloc _).trans (Keeps.of_below (F := fun j => j = mb) HB6.out (fun j hj _ => by simpa using hj)) (fun _ _ h => h)).trans hk7 (fun i hi h => by have := hV6 i h; omega))
        clear hmay hk7 hV6
        have hmb7 : mb < w7.heap.size := by omega
        have HBW7 := Lib.hid (show Below w.heap.size w w7 from HB3.out.trans (HK37.out.below (by omega) (fun j e => by omega)))
        have hwr7 : wr.heap.size < w7.heap.size := by omega
        have hbx := (HK7.out.block wr.heap.size (by omega) (fun h => by have := HV6'.out _ h; omega)).trans HBX6.out
        have kx0 := cell_of_row w7 wr.heap.size 0 _ _ _ hbx
        have kx1 := cell_of_row w7 wr.heap.size 1 _ _ _ hbx
        simp at kx0 kx1
        clear hbx x0 x1 x2 x3 x4 x5
        obtain ⟨ml, hml⟩ : ∃ ml, mo.length = ml := ⟨_, rfl⟩
        rw [hml]
        have HLN := Lib.hid hml
        clear hml
        rcases hmc : mo with _ | ⟨t, rest⟩
        · have h0 : ((ml : Int) == 0) = true := by have := HLN.out; rw [hmc] at this; simp at this ⊢; omega
          have HFU := Lib.hid (leaveF_full (node := node) (ns := ns) rfl HX.out HPB.out (by rw [← HMO.out, hmc]))
          clear hmc
          go_wp2_with fail
          go_ret2
          exact LeaveOut.no (by rw [HRES.out, HLV.out, HFU.out]; rfl) (by rw [HN.out]; rfl) HBW7.out
        · have hml1 : 0 < ml := by have := HLN.out; rw [hmc] at this; simp at this; omega
          have h0 : ((ml : Int) == 0) = false := by rw [beq_eq_false_iff_ne]; omega
          have HMT := Lib.hid (show mayOf l ns x = t :: rest by rw [← HMO.out, hmc])
          obtain ⟨htp, htb⟩ := HSO.out t (by rw [hmc]; exact List.mem_cons_self)
          obtain ⟨g, rfl, hg, hvg, kt⟩ := HMAY.out t rest hmc
          have hgl : g < w7.heap.size := by have := (HV6'.out g hvg).2; omega
          have HT := Lib.hid (And.intro htp htb)
          have HGO := Lib.hid (leaveF_go (node := node) (ns := ns) rfl HX.out HPB.out HMT.out)
          have hnp : placeB node = true := by
            have hb := HPB.out
            obtain ⟨p0, p1, p2, _⟩ := HXN.out
            simp only [hasB, Bool.or_eq_true, beq_iff_eq] at hb
            rcases hb with (hb | hb) | hb
            · rw [← hb]; exact p0
            · rw [← hb]; exact p1
            · rw [← hb]; exact p2
          have hne : t ≠ node := fun e => by rw [e, HPB.out] at htb; cases htb
          have HNE := Lib.hid hne
          have hwk : ∀ n, placeB n = true → (Lit.int .i64 n).wf = true := fun n h => by simp [placeB] at h; exact wf_i64 (by omega) (by omega)
          have W0 := Lib.hid (hwk _ hnp)
          have W1 := Lib.hid (hwk _ htp)
          obtain ⟨f, hf⟩ : ∃ f : Int → Int, f = (fun j => (loadN l j : Int)) := ⟨_, rfl⟩
          have hfb : ∀ j, 0 ≤ f j ∧ f j ≤ 4096 := fun j => by
            have h := loadN_le l j
            have := HLL.out
            rw [hf]
            show 0 ≤ (loadN l j : Int) ∧ (loadN l j : Int) ≤ 4096
            omega
          obtain ⟨b0, b1⟩ := hfb node
          obtain ⟨b2, b3⟩ := hfb t
          have HM7 := Lib.hid (show MapIs w7 mb n f by
            rw [hf]
            exact ((HML.out.below (w' := w6) (Below.trans (by repeat (first | (with_reducible exact Below.refl _ _) | (with_reducible refine Below.setCell ?_ ?_ _) | (with_reducible refine Below.alloc ?_ ?_ _) | (with_reducible refine Below.drewN ?_ _) | (with_reducible refine Below.drew ?_) | (with_reducible exact Nat.le_refl _) | (focus (simp only [World.size_alloc, World.size_setCell, World.size_drew, World.size_drewN]; omega)) | omega | exact Nat.le_refl _ | (focus (simp; done)) | (focus (simp; omega)))) (HB6.out.mono (by simp))))).of_block (HK7.out.block mb (by omega) (fun h => by have := HV6'.out _ h; omega)))
          have HF := Lib.hid hf
          have hoB : ∀ j, (Value.slice ao out.length co).ownBlock = some j → w3.heap.size ≤ j ∧ j < wr.heap.size := fun j hj => HOW.out.lt j hj
          have HOB := Lib.hid hoB
          have HOW7 := Lib.hid (show w7.ownsRow w3.heap.size 94 4 (.slice ao out.length co) out.length (out.flatMap Mv.row) from
            ownsRow_keeps (ownsRow_below (HOW.out.alloc _) HB6.out) HK7.out (fun j hj h => by have := HV6'.out _ h; have := hoB j hj; omega))
          clear hmc hfb hf hoB hwk htp htb hne hnp
          go_wp2_with fail
          refine wp_region_now0 [2, 4, 8] [(0, 0), (1, 0), (2, 2), (3, 0), (4, 2), (5, 0), (6, 0), (7, 0), (8, 2), (9, 0), (10, 1), (11, 1), (12, 0)] (by kernel_rfl) (by kernel_rfl) rfl (by kernel_rfl) ?_
          refine stepE0 rfl rfl (fun K hK => ?_)
          go_simp
          refine hK _ ?_
          clear hK K
          refine stepE0 rfl rfl (fun K hK => ?_)
          go_simp
          refine hK _ ?_
          clear hK K
          refine stepE2 rfl rfl ?_ (fun w1 hS => ?_) (fun K hK => ?_)
          rotate_left
          focus (obtain rfl : w1 = _ := hS; go_simp; rfl)
          go_simp
          refine hK _ ?_
          clear hK K
          refine stepE0 rfl rfl (fun K hK => ?_)
          go_simp
          refine hK _ ?_
          clear hK K
          refine stepE2 rfl rfl ?_ (fun w1 hS => ?_) (fun K hK => ?_)
          rotate_left
          focus (obtain rfl : w1 = _ := hS; go_simp; rfl)
          go_simp
          refine hK _ ?_
          clear hK K
          refine stepE0 rfl rfl (fun K hK => ?_)
          go_simp
          refine hK _ ?_
          clear hK K
          refine stepE0 rfl rfl (fun K hK => ?_)
          go_simp
          refine hK _ ?_
          clear hK K
          refine stepE0 rfl rfl (fun K hK => ?_)
          go_simp
          refine hK _ ?_
          clear hK K
          refine stepE2 rfl rfl ?_ (fun w1 hS => ?_) (fun K hK => ?_)
          rotate_left
          focus (obtain rfl : w1 = _ := hS; go_simp; rfl)
          go_simp
          refine hK _ ?_
          clear hK K
          refine stepE0 rfl rfl (fun K hK => ?_)
          go_simp
          refine hK _ ?_
          clear hK K
          refine stepE1 rfl rfl (by kernel_rfl) (fun K hK => ?_)
          go_wp2
          refine stepE1 rfl rfl (by kernel_rfl) (fun K hK => ?_)
          (refine wp_append_reads _ _ _ 90 rfl w3.heap.size 94 i0 (.agg #[.int .i64 0, .int .i64 0, .int .i64 0, .int .i64 0]) 4 32 Try.underlying90 HI.out HZ0.out HZ1.out HZ2.out rfl (by decide) (.slice ao out.length co) out.length (out.flatMap Mv.row) rfl ((HOW7.out.alloc _).drew) (.slice (some ⟨w7.heap.size, 0, none⟩) 1 1) 1 [.int .i64 xv, .int .i64 xe, .int .i64 r, .int .i64 t] rfl (reads_row4 w7 _ _ _ _ _) (by simp [Value.oneCell']) (by unfold maxLen; omega) (by omega) (by simp; omega) ?_; intro v8 w8 hown8 hg8 hat8; have HOW8 := Lib.hid hown8; have HG8 := Lib.hid hg8; clear hown8 hg8 hat8; go_wp2)
          refine stepE0 rfl rfl (fun K hK => ?_)
          go_simp
          refine hK _ ?_
          clear hK K
          try refine stepEnil0 ?_
          have hz8 := HG8.out.size
          simp only [World.size_drew, World.size_alloc] at hz8
          have hgw : g < w8.heap.size := by omega
          have HM8 := Lib.hid ((HM7.out.below (w' := (w7.alloc (.cells #[.int .i64 xv, .int .i64 xe, .int .i64 r, .int .i64 t] 94)).drew) (by repeat (first | (with_reducible exact Below.refl _ _) | (with_reducible refine Below.setCell ?_ ?_ _) | (with_reducible refine Below.alloc ?_ ?_ _) | (with_reducible refine Below.drewN ?_ _) | (with_reducible refine Below.drew ?_) | (with_reducible exact Nat.le_refl _) | (focus (simp only [World.size_alloc, World.size_setCell, World.size_drew, World.size_drewN]; omega)) | omega | exact Nat.le_refl _ | (focus (simp; done)) | (focus (simp; omega))))).kept HG8.out (fun e => by have := HOB.out mb e.symm; omega))
          have kt8 : w8.cell? ⟨g, 0, none⟩ = some (.int .i64 t) := (World.cell?_of_block (a := ⟨g, 0, none⟩) ((HG8.out.block g (by simp; omega) (fun e => by have := HOB.out g e.symm; omega)).trans (Below.heap_alloc _ _ _ hgl))).trans kt
          clear kt
          have mbg : g ≠ mb := by omega
          obtain ⟨f1, hf1⟩ : ∃ f1 : Int → Int, f1 = (fun j => if j = node then f node - 1 else f j) := ⟨_, rfl⟩
          have hft : f1 t = f t := by rw [hf1]; exact if_neg HNE.out
          have b4 : 0 ≤ f1 t := by omega
          have b5 : f1 t ≤ 4096 := by omega
          have HF1 := Lib.hid hf1
          have HFT := Lib.hid hft
          clear hf1 hft
          go_wp2_with (first
            | (at_lookup; refine wpList_look _ rfl _ _ rfl mb n f rfl HM8.out node rfl W0.out ?_)
            | (at_mapUpdate; refine wpList_mark _ rfl _ _ _ rfl mb n f rfl HM8.out (by unfold maxLen; omega) node _ rfl rfl W0.out (wf_i64 (by omega) (by omega)) ?_; intro w9 hm9 hg9; rw [← HF1.out] at hm9; have HM9 := Lib.hid hm9; have HG9 := Lib.hid hg9; have hz9 := hg9.size; have kt9 := (World.cell?_of_block (a := ⟨g, 0, none⟩) (hg9.block g hgw (fun e => mbg (Option.some.inj e)))).trans kt8; clear hm9 hg9 kt8)
            | (at_lookup; refine wpList_look _ rfl _ _ rfl mb (n + 1) f1 rfl HM9.out t rfl W1.out ?_)
            | (at_mapUpdate; refine wpList_mark _ rfl _ _ _ rfl mb (n + 1) f1 rfl HM9.out (by unfold maxLen; omega) t _ rfl rfl W1.out (wf_i64 (by omega) (by omega)) ?_; intro w10 hm10 hg10; have HM10 := Lib.hid hm10; have HG10 := Lib.hid hg10; have hz10 := hg10.size; clear hm10 hg10))
          go_roundw
          case rel =>
            have hxa : Apart3 x := ⟨HXN.out.2.2.2.1, HXN.out.2.2.2.2.1, HXN.out.2.2.2.2.2⟩
            have hv8 := HOW8.out.lt
            have hown10 : w10.ownsRow w3.heap.size 94 4 v8 (out.length + 1) (out.flatMap Mv.row ++ [.int .i64 xv, .int .i64 xe, .int .i64 r, .int .i64 t]) :=
              ownsRow_at HOW8.out fun j hj => (HG10.out.block j (by have := (hv8 j hj).2; omega) (fun e => by have := (hv8 j hj).1; have := Option.some.inj e; omega)).trans (HG9.out.block j (hv8 j hj).2 (fun e => by have := (hv8 j hj).1; have := Option.some.inj e; omega))
            refine ⟨k + 1, out ++ [⟨x.vol, x.epoch, hasI x node, t⟩], l.set k (x.mv node t), n + 1 + 1, _, by omega, by go_num, rfl, ?_, by rw [List.length_set]; exact HLL.out, fun j hj => ?_, nodes_set HNL.out HX.out HT.out.1 HPB.out HT.out.2, HM10.out.congr (fun j => ?_), by omega, by simp; omega, ?_, ?_⟩
            · rw [HLV.out, HGO.out, Option.map_map, List.length_set]
              congr 1
              funext q
              simp
            · rw [List.getElem?_set_ne (by omega)]
              exact HLE.out j (by omega)
            · rw [load_set HX.out hxa HPB.out HT.out.2 j]
              show (if j = t then f1 t + 1 else f1 j) = _
              rw [HFT.out, HF1.out]
              show (if j = t then f t + 1 else if j = node then f node - 1 else f j) = _
              rw [HF.out]
            · have e : (out ++ [(⟨x.vol, x.epoch, hasI x node, t⟩ : Mv)]).flatMap Mv.row = out.flatMap Mv.row ++ [.int .i64 xv, .int .i64 xe, .int .i64 r, .int .i64 t] := by
                rw [List.flatMap_append, HXX.out.1, HXX.out.2.1, HR'.out.symm]
                simp [Mv.row]
              rw [e, List.length_append]
              exact hown10
            · exact (((HK37.out.alloc _).drew.grown HG8.out (fun j hj hl => by have := (HOB.out j hj).1; omega)).grown HG9.out (fun j hj _ => (Option.some.inj hj).symm)).grown HG10.out (fun j hj _ => (Option.some.inj hj).symm)
          case measure => simp [intOf]; omega
    · have HEN := Lib.hid (show leaveF node ns (l.length - k) k l = some [] by rw [show l.length - k = 0 by have := HLL.out; omega]; rfl)
      go_wp2_with fail
      go_ret2
      exact LeaveOut.yes (by rw [HRES.out, HLV.out, HEN.out]; simp) rfl (ownsRow_mono HOW.out (by omega)) (HB3.out.trans (HKP.out.below (by omega) (fun j e => by omega)))
end Go.Proofs.Ytigkcbnlbdiimaa

/- corncribref27.Leave. -/
namespace Go.Proofs.Ytigkcbnlbdiimaa
open Go.RowKit Go.Maps Go.Sort
theorem rmove_info : (Try.prog.info? 100).map (fun i => (i.zero, i.size, i.bytes)) = some (some (.agg #[.int .i64 0, .int .i64 0, .int .i64 0, .int .i64 0]), 4, 32) := by kernel_rfl
/-- Rows of other elements lie in other blocks. -/
theorem rows_apart {w : World} {b1 b2 s1 s2 n1 n2 : Nat} {t1 t2 : TypeId} {v1 v2 : Value} {xs ys : List Value} (hne : t1 ≠ t2) (h1 : w.ownsRow b1 t1 s1 v1 n1 xs) (h2 : w.ownsRow b2 t2 s2 v2 n2 ys) (j : Nat) (hj1 : v1.ownBlock = some j) : v2.ownBlock ≠ some j := by
  intro hj2
  rcases h1.2 with ⟨rfl, _⟩ | ⟨g, cap, cur, rfl, _, hh, _⟩
  · cases hj1
  · rcases h2.2 with ⟨rfl, _⟩ | ⟨g', cap', cur', rfl, _, hh', _⟩
    · cases hj2
    · simp only [Value.ownBlock, Option.some.injEq] at hj1 hj2
      subst hj1 hj2
      rw [hh] at hh'
      simp only [Option.some.injEq, Obj.cells.injEq] at hh'
      exact hne hh'.2.1
theorem flatMap_cell {α : Type} (f : α → List Value) (s : Nat) (hf : ∀ x, (f x).length = s) (x y : α) (u : Value) (j : Nat) (hj : j < s) (hy : f y = (f x).set j u) : ∀ (l : List α) (i : Nat), l[i]? = some x → (l.flatMap f).set (i * s + j) u = (l.set i y).flatMap f
  | [], i, h => by simp at h
  | a :: l, 0, h => by
    simp only [List.getElem?_cons_zero, Option.some.injEq] at h
    subst h
    rw [List.set_cons_zero, List.flatMap_cons, List.flatMap_cons, hy, Nat.zero_mul, Nat.zero_add, List.set_append_left _ _ (by rw [hf]; exact hj)]
  | a :: l, i + 1, h => by
    rw [List.set_cons_succ, List.flatMap_cons, List.flatMap_cons, List.set_append_right _ _ (by rw [hf, Nat.succ_mul]; omega), hf, show (i + 1) * s + j - s = i * s + j by rw [Nat.succ_mul]; omega, flatMap_cell f s hf x y u j hj hy l i (by simpa using h)]
theorem hasI_cases {x : Ent} {n : Int} (h : hasB x n = true) : (hasI x n = 0 ∧ ∀ t, (x.mv n t).row = x.row.set 2 (.int .i64 t)) ∨ (hasI x n = 1 ∧ ∀ t, (x.mv n t).row = x.row.set 3 (.int .i64 t)) ∨ (hasI x n = 2 ∧ ∀ t, (x.mv n t).row = x.row.set 4 (.int .i64 t)) := by
  simp only [hasB, Bool.or_eq_true, beq_iff_eq] at h
  by_cases h0 : x.n0 = n
  · exact .inl ⟨by simp [hasI, h0], fun t => by simp [Ent.mv, h0, Ent.row]⟩
  · by_cases h1 : x.n1 = n
    · exact .inr (.inl ⟨by simp [hasI, h0, h1], fun t => by simp [Ent.mv, h0, h1, Ent.row]⟩)
    · have h2 : x.n2 = n := by omega
      exact .inr (.inr ⟨by simp [hasI, h0, h1, h2], fun t => by simp [Ent.mv, h0, h1, h2, Ent.row]⟩)
/-- The first node that the volume hasn't; none: -1. -/
def toV (x : Ent) (so : List Int) : Int := ((so.filter fun t => !hasB x t).head?).getD (-1)
theorem toV_step {x : Ent} {so : List Int} {j : Nat} {y : Int} (hy : so[j]? = some y) (hp : ∀ n ∈ so, placeB n = true) :
    (toV x (so.take j) < 0 ∧ toV x (so.take (j + 1)) = if hasB x y then toV x (so.take j) else y) ∨ (0 ≤ toV x (so.take j) ∧ toV x (so.take (j + 1)) = toV x (so.take j)) := by
  unfold toV
  rw [take_snoc_get so j y hy, List.filter_append]
  rcases hA : (so.take j).filter fun t => !hasB x t with _ | ⟨a, r⟩
  · refine .inl ⟨by simp, ?_⟩
    cases hb : hasB x y <;> simp [hb]
  · refine .inr ⟨?_, by simp⟩
    have ha : a ∈ so := List.mem_of_mem_take (List.mem_filter.1 (show a ∈ (so.take j).filter fun t => !hasB x t by rw [hA]; exact List.mem_cons_self)).1
    have := hp a ha
    simp [placeB] at this
    simp; omega
theorem toV_le (x : Ent) (so : List Int) (hp : ∀ n ∈ so, placeB n = true) : -1 ≤ toV x so ∧ toV x so ≤ 255 := by
  unfold toV
  rcases hA : so.filter fun t => !hasB x t with _ | ⟨a, r⟩
  · simp
  · have ha : a ∈ so := (List.mem_filter.1 (show a ∈ so.filter fun t => !hasB x t by rw [hA]; exact List.mem_cons_self)).1
    have := hp a ha
    simp [placeB] at this
    simp; omega
/-- What the reference's Leave gives. -/
def RLeaveOut (w : World) (r : Option (List Mv)) (e : Ending) (w' : World) : Prop := match r with
  | none => e = .returned (.tuple #[.slice none 0 0, .bool false]) ∧ Below w.heap.size w w'
  | some l => ∃ v', e = .returned (.tuple #[v', .bool true]) ∧ w'.ownsRow w.heap.size 100 4 v' l.length (l.flatMap Mv.row) ∧ Below w.heap.size w w'
theorem RLeaveOut.no {w : World} {r : Option (List Mv)} {e : Ending} {w' : World} (h : r = none) (h1 : e = .returned (.tuple #[.slice none 0 0, .bool false])) (h2 : Below w.heap.size w w') : RLeaveOut w r e w' := by subst h; exact ⟨h1, h2⟩
theorem RLeaveOut.yes {w : World} {r : Option (List Mv)} {e : Ending} {w' : World} {l : List Mv} {v' : Value} (h : r = some l) (h1 : e = .returned (.tuple #[v', .bool true])) (h3 : w'.ownsRow w.heap.size 100 4 v' l.length (l.flatMap Mv.row)) (h2 : Below w.heap.size w w') : RLeaveOut w r e w' := by subst h; exact ⟨_, h1, h3, h2⟩
set_option maxRecDepth 100000 in
set_option maxHeartbeats 8000000 in
theorem rleave_any (base : Nat) (v va : Value) (es : List Ent) (ns : List Int) (node : Int) (w : World) (h : w.ownsRow base 128 6 v es.length (es.flatMap Ent.row)) (hfew : es.length ≤ 4096) (hno : NodesOk es) (hr : Reads w 1 va ns.length (ns.map (Value.int .i64))) (hn : ns.length ≤ 100) (hok : rightB ns = true) :
    Calls Try.prog 53 #[v, .int .i64 node, va] w (RLeaveOut w (leaveI es node ns)) := by
  have H := Lib.hid h
  have HNO := Lib.hid hno
  have HR := Lib.hid hr
  have HOK := Lib.hid hok
  obtain ⟨i0, hi, hz0, hz1, hz2⟩ := info_parts entry19_info
  have HI := Lib.hid hi
  have HZ0 := Lib.hid hz0
  have HZ1 := Lib.hid hz1
  have HZ2 := Lib.hid hz2
  clear hi hz0 hz1 hz2
  obtain ⟨i1, hi, hz0, hz1, hz2⟩ := info_parts rmove_info
  have KI := Lib.hid hi
  have KZ0 := Lib.hid hz0
  have KZ1 := Lib.hid hz1
  have KZ2 := Lib.hid hz2
  clear h hr hok hno hi hz0 hz1 hz2
  obtain ⟨res, hres⟩ : ∃ res, res = leaveI es node ns := ⟨_, rfl⟩
  rw [← hres]
  have HRES := Lib.hid hres
  clear hres
  go_enter Try.func53, Try.ntmps53
  go_wp2_with (at_builtin; refine wpList_append_reads _ rfl _ _ 72 rfl w.heap.size 128 i0 (.agg #[.int .i64 0, .int .i64 0, .int .i64 0, .int .i64 0, .int .i64 0, .bool false]) 6 48 Try.underlying72 HI.out HZ0.out HZ1.out HZ2.out rfl (by decide) (.slice (some ⟨w.heap.size, 0, none⟩) 0 0) 0 [] rfl (World.ownsRow_lit w #[] 0 (Nat.le_refl _) (by unfold maxLen; omega) rfl) v es.length (es.flatMap Ent.row) rfl ((reads_of_owns H.out).below (by repeat (first | (with_reducible exact Below.refl _ _) | (with_reducible refine Below.setCell ?_ ?_ _) | (with_reducible refine Below.alloc ?_ ?_ _) | (with_reducible refine Below.drewN ?_ _) | (with_reducible refine Below.drew ?_) | (with_reducible exact Nat.le_refl _) | (focus (simp only [World.size_alloc, World.size_setCell, World.size_drew, World.size_drewN]; omega)) | omega | exact Nat.le_refl _ | (focus (simp; done)) | (focus (simp; omega))))) (Ent.one es) (by unfold maxLen; omega) (by omega) (by simp) ?_; intro v1 w1 hown1 hg1 _; rw [Nat.zero_add, List.nil_append] at hown1; obtain ⟨a1, c1, rfl⟩ := ownsRow_len hown1; have HO1 := Lib.hid hown1; have HG1 := Lib.hid hg1; clear hown1 hg1)
  have HB1 := Lib.hid (show Below w.heap.size w w1 from ((Below.refl _ _).alloc (Nat.le_refl _) _).grown HG1.out (by simp) (by simp [Value.ownBlock]))
  have hz1 := HB1.out.size
  clear HG1
  go_loopw [8, 9] (fun ov i wr => ∃ (k : Nat) (out : List Mv) (l : List Ent) (ow : Value), k ≤ es.length ∧ i = .int .i64 k ∧ ov = ow ∧ leaveI es node ns = (leaveF node ns (l.length - k) k l).map (out ++ ·) ∧ l.length = es.length ∧ NodesOk l ∧ out.length ≤ k ∧
      wr.ownsRow w.heap.size 128 6 (.slice a1 es.length c1) l.length (l.flatMap Ent.row) ∧ wr.ownsRow w.heap.size 100 4 ow out.length (out.flatMap Mv.row) ∧ Below w.heap.size w wr) (fun _ i _ => es.length - (intOf i).toNat)
  case atStart => exact ⟨0, [], es, _, Nat.zero_le _, rfl, rfl, by simp [leaveI, Option.map_id'], rfl, HNO.out, Nat.le_refl _, HO1.out, World.ownsRow_nil _ _ _ _, HB1.out⟩
  case round =>
    obtain ⟨k, out, l, ow, hk, rfl, hov, hlv, hll, hnl, hol, hrow, hown, hbw⟩ := hrel
    have hov' := hov.symm
    clear hov
    subst hov'
    obtain ⟨ao, co, rfl⟩ := ownsRow_len hown
    have HLV := Lib.hid hlv
    have HLL := Lib.hid hll
    have HNL := Lib.hid hnl
    have HRW := Lib.hid hrow
    have HOW := Lib.hid hown
    have HBW := Lib.hid hbw
    have hzr := hbw.size
    clear hlv hll hnl hrow hown hbw
    by_cases hlt : k < es.length
    · have hkl : k < l.length := by have := HLL.out; omega
      obtain ⟨x, hx⟩ : ∃ x, l[k]? = some x := ⟨_, List.getElem?_eq_getElem hkl⟩
      obtain ⟨g3, cc3, e3, hg3, hg3b, _, x0, x1, x2, x3, x4, x5⟩ := row_ent19 HRW.out k x hx
      obtain ⟨e3', -, e3''⟩ := sl_inj e3
      subst e3' e3''
      have HX := Lib.hid hx
      have HP := Lib.hid (hasI_pos x node)
      have HXN := Lib.hid (HNL.out x (List.mem_of_getElem? HX.out))
      clear hx e3
      have HHA := Lib.hid (fun n W => has_any x n W)
      have HI3 := Lib.hid (fun W => HHA.out node W)
      obtain ⟨r, hr⟩ : ∃ r, hasI x node = r := ⟨_, rfl⟩
      rw [hr] at HI3 HP
      have HR' := Lib.hid hr
      clear hr
      obtain ⟨p, hp⟩ : ∃ p, hasB x node = p := ⟨_, rfl⟩
      rw [hp] at HP
      have HPB := Lib.hid hp
      clear hp
      have hk0 : (0 : Int) ≤ (k : Int) := by omega
      have hk1 : (k : Int) < (es.length : Int) := by omega
      obtain ⟨xv, hxv⟩ : ∃ xv, xv = x.vol := ⟨_, rfl⟩
      obtain ⟨xe, hxe⟩ : ∃ xe, xe = x.epoch := ⟨_, rfl⟩
      obtain ⟨xa, hxa⟩ : ∃ xa, xa = x.n0 := ⟨_, rfl⟩
      obtain ⟨xb, hxb⟩ : ∃ xb, xb = x.n1 := ⟨_, rfl⟩
      obtain ⟨xc, hxc⟩ : ∃ xc, xc = x.n2 := ⟨_, rfl⟩
      obtain ⟨xs, hxs⟩ : ∃ xs, xs = x.shut := ⟨_, rfl⟩
      rw [← hxv] at x0 HHA HI3
      rw [← hxe] at x1 HHA HI3
      rw [← hxa] at x2 HHA HI3
      rw [← hxb] at x3 HHA HI3
      rw [← hxc] at x4 HHA HI3
      rw [← hxs] at x5 HHA HI3
      have HXX := Lib.hid (And.intro hxv hxe)
      clear hxv hxe hxa hxb hxc hxs
      cases p
      · have hi : decide (r < 0) = true := by have := HP.out; simp at this ⊢; omega
        have HNX := Lib.hid (leaveF_no (node := node) (ns := ns) rfl HX.out HPB.out)
        go_wp2_with fail
        refine (HI3.out _).mono ?_
        rintro e w5 ⟨rfl, hb5⟩
        have HB5 := Lib.hid hb5
        clear hb5
        go_wp2_with fail
        go_roundw
        case rel => exact ⟨k + 1, out, l, _, by omega, by go_num, rfl, by rw [HLV.out, HNX.out], HLL.out, HNL.out, by omega, ownsRow_below HRW.out HB5.out, ownsRow_below HOW.out HB5.out, HBW.out.trans (HB5.out.mono hzr)⟩
        case measure => simp [intOf]; omega
      · have hi : decide (r < 0) = false := by have := HP.out; simp at this ⊢; omega
        obtain ⟨so, hso⟩ : ∃ so, so = sortI (fun j => (loadN l j : Int)) ns := ⟨_, rfl⟩
        have hsl : so.length = ns.length := by rw [hso]; simp [sortI]
        have HSO := Lib.hid hso
        have HSL := Lib.hid hsl
        have HSP := Lib.hid (show ∀ m ∈ so, placeB m = true from fun m hm => (right_nodes HOK.out).2 m ((List.mergeSort_perm _ _).mem_iff.1 (by rw [hso] at hm; exact hm)))
        clear hso hsl
        go_wp2_with fail
        refine (HI3.out _).mono ?_
        rintro e w5 ⟨rfl, hb5⟩
        have HB5 := Lib.hid hb5
        have hz5 := hb5.size
        clear hb5
        go_wp2_with fail
        refine (rorder_any w.heap.size _ va l ns _ (by rw [HLL.out]; have := ownsRow_below HRW.out HB5.out; rw [HLL.out] at this; exact this) (by have := HLL.out; omega) (HR.out.below (HBW.out.trans (HB5.out.mono hzr))) hn).mono ?_
        rintro e w6 ⟨v6, rfl, ho6, hb6⟩
        rw [← HSO.out] at ho6
        obtain ⟨a6, c6, rfl⟩ := ownsRow_len ho6
        have HO6 := Lib.hid ho6
        have hz6 := hb6.size
        have HB6 := Lib.hid (HB5.out.trans (hb6.mono hz5))
        clear ho6 hb6
        have y0 := (HB6.out.cell (p := ⟨g3, k * 6, none⟩) hg3).trans x0
        have y1 := (HB6.out.cell (p := ⟨g3, k * 6 + 1, none⟩) hg3).trans x1
        have y2 := (HB6.out.cell (p := ⟨g3, k * 6 + 2, none⟩) hg3).trans x2
        have y3 := (HB6.out.cell (p := ⟨g3, k * 6 + 3, none⟩) hg3).trans x3
        have y4 := (HB6.out.cell (p := ⟨g3, k * 6 + 4, none⟩) hg3).trans x4
        have y5 := (HB6.out.cell (p := ⟨g3, k * 6 + 5, none⟩) hg3).trans x5
        have KY := Lib.hid (And.intro y0 (And.intro y1 (And.intro y2 (And.intro y3 (And.intro y4 y5)))))
        have hg6 : g3 < w6.heap.size := by omega
        clear x0 x1 x2 x3 x4 x5 y0 y1 y2 y3 y4 y5
        obtain ⟨wo, rfl⟩ : ∃ wo : World, wo = wr := ⟨_, rfl⟩
        go_wp2_with fail
        go_loopw [12, 13] (fun tv jv wx => ∃ j : Nat, j ≤ ns.length ∧ jv = .int .i64 j ∧ tv = .int .i64 (toV x (so.take j)) ∧ Below w6.heap.size w6 wx) (fun _ jv _ => ns.length - (intOf jv).toNat)
        case atStart => exact ⟨0, Nat.zero_le _, rfl, rfl, Below.refl _ _⟩
        case round =>
          obtain ⟨j, hj, rfl, rfl, hbx⟩ := hrel
          have HBX := Lib.hid hbx
          have hzx := hbx.size
          obtain ⟨q0, q1, q2, q3, q4, q5⟩ := KY.out
          have x0 := (hbx.cell (p := ⟨g3, k * 6, none⟩) hg6).trans q0
          have x1 := (hbx.cell (p := ⟨g3, k * 6 + 1, none⟩) hg6).trans q1
          have x2 := (hbx.cell (p := ⟨g3, k * 6 + 2, none⟩) hg6).trans q2
          have x3 := (hbx.cell (p := ⟨g3, k * 6 + 3, none⟩) hg6).trans q3
          have x4 := (hbx.cell (p := ⟨g3, k * 6 + 4, none⟩) hg6).trans q4
          have x5 := (hbx.cell (p := ⟨g3, k * 6 + 5, none⟩) hg6).trans q5
          clear q0 q1 q2 q3 q4 q5 hbx
          have hg7 : g3 < wr.heap.size := by omega
          by_cases hjl : j < ns.length
          · obtain ⟨y, hy⟩ : ∃ y, so[j]? = some y := ⟨_, List.getElem?_eq_getElem (by have := HSL.out; omega)⟩
            obtain ⟨g6, rfl⟩ : ∃ g, a6 = some ⟨g, 0, none⟩ := by
              rcases HO6.out.2 with ⟨e, h0⟩ | ⟨g, _, _, e, _⟩
              · omega
              · simp only [Value.slice.injEq] at e
                exact ⟨g, e.1⟩
            have hgl := (HO6.out.lt g6 rfl).2
            have ky := (HBX.out.cell (p := ⟨g6, j, none⟩) hgl).trans (show w6.cell? ⟨g6, j, none⟩ = some (.int .i64 y) by rw [HO6.out.cellAt j (by omega), List.getElem?_map, hy]; rfl)
            have hst := toV_step (x := x) hy HSP.out
            obtain ⟨t0, ht0⟩ : ∃ t0, toV x (so.take j) = t0 := ⟨_, rfl⟩
            rw [ht0] at hst ⊢
            have hj0 : (0 : Int) ≤ (j : Int) := by omega
            have hj1 : (j : Int) < (ns.length : Int) := by omega
            obtain ⟨hcc1, hcc2⟩ := owns_cap HO6.out
            have hcc3 : (ns.length : Int) ≤ (c6 : Int) := by omega
            clear hy ht0 hcc1 hcc2
            rcases hst with ⟨hneg, hst⟩ | ⟨hpos, hst⟩
            · have ht : decide (t0 < 0) = true := by simpa using hneg
              have HIY := Lib.hid (fun W => HHA.out y W)
              have HPY := Lib.hid (hasI_pos x y)
              obtain ⟨r2, hr2⟩ : ∃ r2, hasI x y = r2 := ⟨_, rfl⟩
              rw [hr2] at HIY HPY
              obtain ⟨p2, hp2⟩ : ∃ p2, hasB x y = p2 := ⟨_, rfl⟩
              rw [hp2] at HPY hst
              have HST := Lib.hid hst
              clear hst hr2 hp2 hneg
              cases p2
              · have hi2 : decide (r2 < 0) = true := by have := HPY.out; simp at this ⊢; omega
                go_wp2_with fail
                refine wp_region_now0 [6, 10] [(0, 0), (1, 0), (2, 0), (3, 0), (4, 0), (5, 0), (6, 2), (7, 0), (8, 0), (9, 0), (10, 2), (11, 1), (12, 0), (13, 0)] (by kernel_rfl) (by kernel_rfl) rfl (by kernel_rfl) ?_
                refine stepE0 rfl rfl (fun K hK => ?_)
                go_simp
                refine hK _ ?_
                clear hK K
                refine stepE0 rfl rfl (fun K hK => ?_)
                go_simp
                refine hK _ ?_
                clear hK K
                refine stepE0 rfl rfl (fun K hK => ?_)
                go_simp
                refine hK _ ?_
                clear hK K
                refine stepE0 rfl rfl (fun K hK => ?_)
                go_simp
                refine hK _ ?_
                clear hK K
                refine stepE0 rfl rfl (fun K hK => ?_)
                go_simp
                refine hK _ ?_
                clear hK K
                refine stepE0 rfl rfl (fun K hK => ?_)
                go_simp
                refine hK _ ?_
                clear hK K
                refine stepE2 rfl rfl ?_ (fun w1 hS => ?_) (fun K hK => ?_)
                rotate_left
                focus (obtain rfl : w1 = _ := hS; go_simp; rfl)
                go_simp
                refine hK _ ?_
                clear hK K
                refine stepE0 rfl rfl (fun K hK => ?_)
                go_simp
                refine hK _ ?_
                clear hK K
                refine stepE0 rfl rfl (fun K hK => ?_)
                go_simp
                refine hK _ ?_
                clear hK K
                refine stepE0 rfl rfl (fun K hK => ?_)
                go_simp
                refine hK _ ?_
                clear hK K
                refine stepE2 rfl rfl ?_ (fun w1 hS => ?_) (fun K hK => ?_)
                rotate_left
                focus (obtain rfl : w1 = _ := hS; go_simp; rfl)
                go_simp
                refine hK _ ?_
                clear hK K
                refine stepE1 rfl rfl (by kernel_rfl) (fun K hK => ?_)
                (go_wp2_with fail; refine Calls.mono (HIY.out _) ?_; rintro e w7 ⟨rfl, hb7⟩; have HB7 := Lib.hid (show Below w6.heap.size w6 w7 from Below.trans HBX.out.drew (hb7.mono hzx)); have ky7 := (hb7.cell (p := ⟨g6, j, none⟩) (by simp; omega)).trans ky; clear hb7; go_wp2)
                refine stepE0 rfl rfl (fun K hK => ?_)
                go_simp
                refine hK _ ?_
                clear hK K
                refine stepE0 rfl rfl (fun K hK => ?_)
                go_simp
                refine hK _ ?_
                clear hK K
                try refine stepEnil0 ?_
                go_wp2_with fail
                go_roundw
                case rel => exact ⟨j + 1, by omega, by go_num, by rw [HST.out]; rfl, HB7.out⟩
                case measure => simp [intOf]; omega
              · have hi2 : decide (r2 < 0) = false := by have := HPY.out; simp at this ⊢; omega
                go_wp2_with fail
                refine wp_region_now0 [6, 10] [(0, 0), (1, 0), (2, 0), (3, 0), (4, 0), (5, 0), (6, 2), (7, 0), (8, 0), (9, 0), (10, 2), (11, 1), (12, 0), (13, 0)] (by kernel_rfl) (by kernel_rfl) rfl (by kernel_rfl) ?_
                refine stepE0 rfl rfl (fun K hK => ?_)
                go_simp
                refine hK _ ?_
                clear hK K
                refine stepE0 rfl rfl (fun K hK => ?_)
                go_simp
                refine hK _ ?_
                clear hK K
                refine stepE0 rfl rfl (fun K hK => ?_)
                go_simp
                refine hK _ ?_
                clear hK K
                refine stepE0 rfl rfl (fun K hK => ?_)
                go_simp
                refine hK _ ?_
                clear hK K
                refine stepE0 rfl rfl (fun K hK => ?_)
                go_simp
                refine hK _ ?_
                clear hK K
                refine stepE0 rfl rfl (fun K hK => ?_)
                go_simp
                refine hK _ ?_
                clear hK K
                refine stepE2 rfl rfl ?_ (fun w1 hS => ?_) (fun K hK => ?_)
                rotate_left
                focus (obtain rfl : w1 = _ := hS; go_simp; rfl)
                go_simp
                refine hK _ ?_
                clear hK K
                refine stepE0 rfl rfl (fun K hK => ?_)
                go_simp
                refine hK _ ?_
                clear hK K
                refine stepE0 rfl rfl (fun K hK => ?_)
                go_simp
                refine hK _ ?_
                clear hK K
                refine stepE0 rfl rfl (fun K hK => ?_)
                go_simp
                refine hK _ ?_
                clear hK K
                refine stepE2 rfl rfl ?_ (fun w1 hS => ?_) (fun K hK => ?_)
                rotate_left
                focus (obtain rfl : w1 = _ := hS; go_simp; rfl)
                go_simp
                refine hK _ ?_
                clear hK K
                refine stepE1 rfl rfl (by kernel_rfl) (fun K hK => ?_)
                (go_wp2_with fail; refine Calls.mono (HIY.out _) ?_; rintro e w7 ⟨rfl, hb7⟩; have HB7 := Lib.hid (show Below w6.heap.size w6 w7 from Below.trans HBX.out.drew (hb7.mono hzx)); clear hb7; go_wp2)
                refine stepE0 rfl rfl (fun K hK => ?_)
                go_simp
                refine hK _ ?_
                clear hK K
                refine stepE0 rfl rfl (fun K hK => ?_)
                go_simp
                refine hK _ ?_
                clear hK K
                try refine stepEnil0 ?_
                go_wp2_with fail
                go_roundw
                case rel => exact ⟨j + 1, by omega, by go_num, by rw [HST.out]; rfl, HB7.out⟩
                case measure => simp [intOf]; omega
            · have ht : decide (t0 < 0) = false := by simp; omega
              have HST := Lib.hid hst
              clear hst
              go_wp2_with fail
              refine wp_region_mask0 (fun w1 => w1 = _) [6, 10] [0, 1, 3, 7, 7, 31, 63, 7, 7, 391, 903, 2047, 4095, 8191] (.op 0 0 (.op 1 0 (.op 2 0 (.op 3 0 (.op 4 0 (.op 5 0 (.op 6 2 (.op 7 0 (.op 8 0 (.op 9 0 (.op 10 2 (.op 11 1 (.op 12 0 (.op 13 0 .nil)))))))))))))) (by kernel_rfl) (by kernel_rfl) rfl (by kernel_rfl) (by kernel_rfl) rfl ?_
              refine stepM0 rfl rfl (fun K hK => ?_)
              go_simp
              refine hK _ ?_
              clear hK K
              refine stepM0 rfl rfl (fun K hK => ?_)
              go_simp
              refine hK _ ?_
              clear hK K
              refine stepM0 rfl rfl (fun K hK => ?_)
              go_simp
              refine hK _ ?_
              clear hK K
              refine stepMy0 rfl rfl (fun K hK => ?_)
              go_simp
              refine hK _ ?_
              clear hK K
              refine stepMy0 rfl rfl (fun K hK => ?_)
              go_simp
              refine hK _ ?_
              clear hK K
              refine stepMy0 rfl rfl (fun K hK => ?_)
              go_simp
              refine hK _ ?_
              clear hK K
              refine stepMy2 rfl rfl (fun K hK => ?_)
              go_simp
              refine hK _ ?_
              clear hK K
              refine stepMy0 rfl rfl (fun K hK => ?_)
              go_simp
              refine hK _ ?_
              clear hK K
              refine stepMy0 rfl rfl (fun K hK => ?_)
              go_simp
              refine hK _ ?_
              clear hK K
              refine stepMy0 rfl rfl (fun K hK => ?_)
              go_simp
              refine hK _ ?_
              clear hK K
              refine stepMy2 rfl rfl (fun K hK => ?_)
              go_simp
              refine hK _ ?_
              clear hK K
              refine stepMy1 rfl rfl (fun K hK => ?_)
              go_simp
              refine hK _ ?_
              clear hK K
              refine stepMy0 rfl rfl (fun K hK => ?_)
              go_simp
              refine hK _ ?_
              clear hK K
              refine stepM0 rfl rfl (fun K hK => ?_)
              go_simp
              refine hK _ ?_
              clear hK K
              try refine stepMnil0 ?_
              go_wp2_with fail
              go_roundw
              case rel => exact ⟨j + 1, by omega, by go_num, by rw [HST.out], HBX.out.drew⟩
              case measure => simp [intOf]; omega
          · have HTK := Lib.hid (show so.take j = so from List.take_of_length_le (by have := HSL.out; omega))
            rw [HTK.out]
            have HMO := Lib.hid (show mayOf l ns x = so.filter fun t => !hasB x t by rw [HSO.out]; rfl)
            obtain ⟨t, ht⟩ : ∃ t, toV x so = t := ⟨_, rfl⟩
            rw [ht]
            have HT := Lib.hid ht
            clear ht
            have HBWX := Lib.hid (show Below wo.heap.size wo wr from HB6.out.trans (HBX.out.mono (by omega)))
            rcases hmc : (so.filter fun t => !hasB x t) with _ | ⟨t', rest⟩
            · have hneg : decide (t < 0) = true := by have := HT.out; rw [toV, hmc] at this; simp at this ⊢; omega
              have HFU := Lib.hid (leaveF_full (node := node) (ns := ns) rfl HX.out HPB.out (by rw [HMO.out, hmc]))
              clear hmc
              go_wp2_with fail
              go_ret2
              exact RLeaveOut.no (by rw [HRES.out, HLV.out, HFU.out]; rfl) rfl (HBW.out.trans (HBWX.out.mono hzr))
            · have htt : t' = t := by have := HT.out; rw [toV, hmc] at this; simpa using this
              subst htt
              have hmem : t' ∈ so.filter fun t => !hasB x t := by rw [hmc]; exact List.mem_cons_self
              have htp := HSP.out t' (List.mem_filter.1 hmem).1
              have htb : hasB x t' = false := by simpa using (List.mem_filter.1 hmem).2
              have hneg : decide (t' < 0) = false := by simp [placeB] at htp ⊢; omega
              have HGO := Lib.hid (leaveF_go (node := node) (ns := ns) (t := t') (r := rest) rfl HX.out HPB.out (by rw [HMO.out, hmc]))
              have HTT := Lib.hid (And.intro htp htb)
              have HRW7 := Lib.hid (show wr.ownsRow w.heap.size 128 6 (.slice (some ⟨g3, 0, none⟩) es.length c1) l.length (l.flatMap Ent.row) from ownsRow_below HRW.out HBWX.out)
              have HOW7 := Lib.hid (ownsRow_below HOW.out HBWX.out)
              have HAP := Lib.hid (rows_apart (by decide) HRW7.out HOW7.out g3 rfl)
              clear hmc hmem htp htb
              go_wp2_with fail
              refine wp_region_now0 [5, 10] [(0, 0), (1, 0), (2, 0), (3, 0), (4, 0), (5, 2), (6, 0), (7, 0), (8, 0), (9, 0), (10, 2), (11, 0), (12, 0), (13, 0), (14, 1), (15, 1), (16, 0)] (by kernel_rfl) (by kernel_rfl) rfl (by kernel_rfl) ?_
              refine stepE0 rfl rfl (fun K hK => ?_)
              go_simp
              refine hK _ ?_
              clear hK K
              refine stepE0 rfl rfl (fun K hK => ?_)
              go_simp
              refine hK _ ?_
              clear hK K
              refine stepE0 rfl rfl (fun K hK => ?_)
              go_simp
              refine hK _ ?_
              clear hK K
              refine stepE0 rfl rfl (fun K hK => ?_)
              go_simp
              refine hK _ ?_
              clear hK K
              refine stepE0 rfl rfl (fun K hK => ?_)
              go_simp
              refine hK _ ?_
              clear hK K
              refine stepE2 rfl rfl ?_ (fun w1 hS => ?_) (fun K hK => ?_)
              rotate_left
              focus (obtain rfl : w1 = _ := hS; go_simp; rfl)
              go_simp
              refine hK _ ?_
              clear hK K
              refine stepE0 rfl rfl (fun K hK => ?_)
              go_simp
              refine hK _ ?_
              clear hK K
              refine stepE0 rfl rfl (fun K hK => ?_)
              go_simp
              refine hK _ ?_
              clear hK K
              refine stepE0 rfl rfl (fun K hK => ?_)
              go_simp
              refine hK _ ?_
              clear hK K
              refine stepE0 rfl rfl (fun K hK => ?_)
              go_simp
              refine hK _ ?_
              clear hK K
              refine stepE2 rfl rfl ?_ (fun w1 hS => ?_) (fun K hK => ?_)
              rotate_left
              focus (obtain rfl : w1 = _ := hS; go_simp; rfl)
              go_simp
              refine hK _ ?_
              clear hK K
              refine stepE0 rfl rfl (fun K hK => ?_)
              go_simp
              refine hK _ ?_
              clear hK K
              refine stepE0 rfl rfl (fun K hK => ?_)
              go_simp
              refine hK _ ?_
              clear hK K
              refine stepE0 rfl rfl (fun K hK => ?_)
              go_simp
              refine hK _ ?_
              clear hK K
              refine stepE1 rfl rfl (by kernel_rfl) (fun K hK => ?_)
              go_wp2
              refine stepE1 rfl rfl (by kernel_rfl) (fun K hK => ?_)
              (refine wp_append_reads _ _ _ 97 rfl w.heap.size 100 i1 (.agg #[.int .i64 0, .int .i64 0, .int .i64 0, .int .i64 0]) 4 32 Try.underlying97 KI.out KZ0.out KZ1.out KZ2.out rfl (by decide) (.slice ao out.length co) out.length (out.flatMap Mv.row) rfl ((HOW7.out.alloc _).drew) (.slice (some ⟨wr.heap.size, 0, none⟩) 1 1) 1 [.int .i64 xv, .int .i64 xe, .int .i64 r, .int .i64 t'] rfl (reads_row4 wr _ _ _ _ _) (by simp [Value.oneCell']) (by unfold maxLen; omega) (by omega) (by have := HBW.out.size; have := HBWX.out.size; simp; omega) ?_; intro v8 w8 hown8 hg8 hat8; have HOW8 := Lib.hid hown8; have HG8 := Lib.hid hg8; clear hown8 hg8 hat8; go_wp2)
              refine stepE0 rfl rfl (fun K hK => ?_)
              go_simp
              refine hK _ ?_
              clear hK K
              try refine stepEnil0 ?_
              have hz8 := HG8.out.size
              simp only [World.size_drew, World.size_alloc] at hz8
              have HRW8 := Lib.hid (show w8.ownsRow w.heap.size 128 6 (.slice (some ⟨g3, 0, none⟩) es.length c1) l.length (l.flatMap Ent.row) from
                ownsRow_at HRW7.out fun j hj => (HG8.out.block j (by have := (HRW7.out.lt j hj).2; simp; omega) (fun e => by
                  simp only [Value.ownBlock, Option.some.injEq] at hj
                  subst hj
                  exact HAP.out e.symm)).trans (Below.heap_alloc _ _ _ (HRW7.out.lt j hj).2))
              have HB8 := Lib.hid (show Below w.heap.size w w8 from (((HBW.out.trans (HBWX.out.mono hzr)).alloc (by have := HBWX.out.size; omega) _).drew).grown HG8.out (by have := HBWX.out.size; simp; omega) (fun j hj => (HOW7.out.lt j hj).1))
              have hap8 := rows_apart (by decide) HRW8.out HOW8.out g3 rfl
              have HRE8 := Lib.hid (show w8.ownsRow w.heap.size 128 6 (.slice (some ⟨g3, 0, none⟩) es.length c1) es.length (l.flatMap Ent.row) by have := HRW8.out; rw [HLL.out] at this; exact this)
              have zf : ∀ o, w8.frozen? ⟨g3, o, none⟩ = false := fun o => HRE8.out.frozenAt o
              have hg8w : g3 < w8.heap.size := (HRW8.out.lt g3 rfl).2
              obtain ⟨g9, cc9, e9, _, _, _, _, _, q2, q3, q4, _⟩ := row_ent19 HRW8.out k x HX.out
              obtain ⟨e9', -, -⟩ := sl_inj e9
              obtain rfl : g3 = g9 := by simpa using e9'
              clear e9 e9'
              have HAP8 := Lib.hid hap8
              clear hap8
              have hxa : Apart3 x := ⟨HXN.out.2.2.2.1, HXN.out.2.2.2.2.1, HXN.out.2.2.2.2.2⟩
              have HFIN := Lib.hid (show ∀ (i : Nat) (W : World), i < 6 → (x.mv node t').row = x.row.set i (.int .i64 t') → W = w8.setCell ⟨g3, k * 6 + i, none⟩ (.int .i64 t') →
                  W.ownsRow w.heap.size 128 6 (.slice (some ⟨g3, 0, none⟩) es.length c1) (l.set k (x.mv node t')).length ((l.set k (x.mv node t')).flatMap Ent.row) ∧
                  W.ownsRow w.heap.size 100 4 v8 (out ++ [(⟨x.vol, x.epoch, hasI x node, t'⟩ : Mv)]).length ((out ++ [(⟨x.vol, x.epoch, hasI x node, t'⟩ : Mv)]).flatMap Mv.row) ∧ Below w.heap.size w W from by
                intro i W hi hset hW
                subst hW
                have h1 := (HRE8.out.stored (k * 6 + i) (.int .i64 t')).1
                rw [flatMap_cell Ent.row 6 (fun _ => rfl) x (x.mv node t') (.int .i64 t') i hi hset l k HX.out] at h1
                have e : (out ++ [(⟨x.vol, x.epoch, hasI x node, t'⟩ : Mv)]).flatMap Mv.row = out.flatMap Mv.row ++ [.int .i64 xv, .int .i64 xe, .int .i64 r, .int .i64 t'] := by
                  rw [List.flatMap_append, HXX.out.1, HXX.out.2, HR'.out.symm]
                  simp [Mv.row]
                refine ⟨by rw [List.length_set, HLL.out]; exact h1, ?_, HB8.out.setCell (HRW8.out.lt g3 rfl).1 _⟩
                rw [e, List.length_append]
                exact ownsRow_setCell_other HOW8.out HAP8.out _)
              have HLV' := Lib.hid (show leaveI es node ns = (leaveF node ns ((l.set k (x.mv node t')).length - (k + 1)) (k + 1) (l.set k (x.mv node t'))).map ((out ++ [(⟨x.vol, x.epoch, hasI x node, t'⟩ : Mv)]) ++ ·) by
                rw [HLV.out, HGO.out, Option.map_map, List.length_set]
                congr 1
                funext q
                simp)
              have hcas := hasI_cases HPB.out
              rw [HR'.out] at hcas
              rcases hcas with ⟨hc, hc2⟩ | ⟨hc, hc2⟩ | ⟨hc, hc2⟩
              · have HC2 := Lib.hid (hc2 t')
                have HC := Lib.hid hc
                clear hc2
                subst hc
                go_wp2_with fail
                go_roundw
                case rel =>
                  obtain ⟨f1, f2, f3⟩ := HFIN.out 2 _ (by omega) HC2.out rfl
                  exact ⟨k + 1, _, l.set k (x.mv node t'), _, by omega, by go_num, rfl, HLV'.out, by rw [List.length_set]; exact HLL.out, nodes_set HNL.out HX.out HTT.out.1 HPB.out HTT.out.2, by simp; omega, f1, f2, f3⟩
                case measure => simp [intOf]; omega
              · have HC2 := Lib.hid (hc2 t')
                clear hc2
                subst hc
                go_wp2_with fail
                go_roundw
                case rel =>
                  obtain ⟨f1, f2, f3⟩ := HFIN.out 3 _ (by omega) HC2.out rfl
                  exact ⟨k + 1, _, l.set k (x.mv node t'), _, by omega, by go_num, rfl, HLV'.out, by rw [List.length_set]; exact HLL.out, nodes_set HNL.out HX.out HTT.out.1 HPB.out HTT.out.2, by simp; omega, f1, f2, f3⟩
                case measure => simp [intOf]; omega
              · have HC2 := Lib.hid (hc2 t')
                clear hc2
                subst hc
                go_wp2_with fail
                go_roundw
                case rel =>
                  obtain ⟨f1, f2, f3⟩ := HFIN.out 4 _ (by omega) HC2.out rfl
                  exact ⟨k + 1, _, l.set k (x.mv node t'), _, by omega, by go_num, rfl, HLV'.out, by rw [List.length_set]; exact HLL.out, nodes_set HNL.out HX.out HTT.out.1 HPB.out HTT.out.2, by simp; omega, f1, f2, f3⟩
                case measure => simp [intOf]; omega
    · have HEN := Lib.hid (show leaveF node ns (l.length - k) k l = some [] by rw [show l.length - k = 0 by have := HLL.out; omega]; rfl)
      go_wp2_with fail
      go_ret2
      exact RLeaveOut.yes (by rw [HRES.out, HLV.out, HEN.out]; simp) rfl HOW.out HBW.out
end Go.Proofs.Ytigkcbnlbdiimaa

/- PlaceMoves: the walk. -/
namespace Go.Proofs.Ytigkcbnlbdiimaa
open Go.RowKit
theorem owns_max {w : World} {base : Nat} {e : TypeId} {sz n : Nat} {v : Value} {xs : List Value} (h : w.ownsRow base e sz v n xs) : n ≤ maxLen := by
  rcases h.2 with ⟨_, rfl⟩ | ⟨_, _, _, _, _, _, h1, h2, _⟩
  · exact Nat.zero_le _
  · exact Nat.le_trans h1 h2
theorem mvVal_agg (o : Option Mv) : ∃ a b c d : Int, mvVal o = .agg #[.int .i64 a, .int .i64 b, .int .i64 c, .int .i64 d] := by
  cases o with
  | none => exact ⟨0, 0, 0, 0, rfl⟩
  | some m => exact ⟨_, _, _, _, rfl⟩
theorem row_mv {w : World} {base : Nat} {T : TypeId} {v : Value} {l : List Mv} (hr : w.ownsRow base T 4 v l.length (l.flatMap Mv.row)) (k : Nat) (x : Mv) (hx : l[k]? = some x) :
    ∃ g c, v = .slice (some ⟨g, 0, none⟩) l.length c ∧ g < w.heap.size ∧ l.length ≤ c ∧ w.cell? ⟨g, k * 4, none⟩ = some (.int .i64 x.vol) ∧ w.cell? ⟨g, k * 4 + 1, none⟩ = some (.int .i64 x.epoch) ∧ w.cell? ⟨g, k * 4 + 2, none⟩ = some (.int .i64 x.spot) ∧ w.cell? ⟨g, k * 4 + 3, none⟩ = some (.int .i64 x.node) := by
  have hk : k < l.length := (List.getElem?_eq_some_iff.1 hx).1
  obtain ⟨a, c, rfl⟩ := ownsRow_len hr
  obtain ⟨g, rfl⟩ : ∃ g, a = some ⟨g, 0, none⟩ := by
    rcases hr.2 with ⟨e, h0⟩ | ⟨g, _, _, e, _⟩
    · omega
    · simp only [Value.slice.injEq] at e
      exact ⟨g, e.1⟩
  exact ⟨g, c, rfl, (hr.lt g rfl).2, (owns_cap hr).1, ownsRow_cell Mv.row 4 Mv.row_len l hr k 0 x hx (by omega), ownsRow_cell Mv.row 4 Mv.row_len l hr k 1 x hx (by omega), ownsRow_cell Mv.row 4 Mv.row_len l hr k 2 x hx (by omega), ownsRow_cell Mv.row 4 Mv.row_len l hr k 3 x hx (by omega)⟩
set_option maxRecDepth 100000 in
set_option maxHeartbeats 4000000 in
theorem moves_bad (ao : Option Addr) (n cap : Nat) (cs : List Cmd) (va : Value) (ns : List Int) (node : Int) (w : World) (hl : cs.length = n) (hn : n ≤ 60) (hA : 0 < n → ∃ b off, ao = some ⟨b, off, none⟩ ∧ b < w.heap.size ∧ CmdsAt w b off cs)
    (hr : Reads w 1 va ns.length (ns.map (Value.int .i64))) (hcap : ∀ a n c, va = .slice a n c → n ≤ c) (hm : ns.length ≤ 100) (hok : rightB ns = false) :
    Calls Try.prog 11 #[.slice ao n cap, va, .int .i64 node] w fun e w' => e = .returned (.bool true) ∧ Below w.heap.size w w' := by
  obtain ⟨an, capn, rfl⟩ := reads_len hr
  have HL := Lib.hid hl
  have HA := Lib.hid hA
  have HR := Lib.hid hr
  have HCAP := Lib.hid hcap
  have HOK := Lib.hid hok
  have hd60 : decide ((60 : Int) < (n : Int)) = false := by simp; omega
  have hd100 : decide ((100 : Int) < (ns.length : Int)) = false := by simp; omega
  clear hl hA hr hcap hok
  go_enter Try.func11, Try.ntmps11
  go_wp2_with fail
  refine (alive27 _).mono ?_
  rintro e w1 ⟨rfl, hb1⟩
  have HB1 := Lib.hid hb1
  have hz1 := hb1.size
  clear hb1
  go_wp2_with fail
  refine (made_any ao n cap cs _ HL.out hn (fun h0 => by obtain ⟨b, off, h1, h2, h3⟩ := HA.out h0; exact ⟨b, off, h1, by omega, CmdsAt.below h3 HB1.out h2⟩)).mono ?_
  rintro e w2 ⟨bm, v, xv, rfl, hm2, hx2, hb2⟩
  obtain ⟨es, hes⟩ : ∃ es, es = doAll [] cs := ⟨_, rfl⟩
  have hfew : es.length ≤ 60 := by have := doAll_few cs []; rw [← hes] at this; simp at this; have := HL.out; omega
  have hno : NodesOk es := by rw [hes]; exact nodes_all cs [] nodes_nil
  rw [← hes] at hm2 hx2
  obtain ⟨ax, cx, rfl⟩ := ownsRow_len hx2
  have HM2 := Lib.hid hm2
  have HX2 := Lib.hid hx2
  have HNO := Lib.hid hno
  have HB2 := Lib.hid (HB1.out.trans (hb2.mono hz1))
  have hz2 := HB2.out.size
  clear hm2 hx2 hno hb2 hes hd100
  go_wp2_with fail
  refine (pleave_bad w1.heap.size bm v _ es ns node _ HM2.out (HR.out.below HB2.out) HCAP.out HOK.out).mono ?_
  rintro e w3 ⟨rfl, rfl⟩
  go_wp2_with fail
  refine (peven_bad w1.heap.size bm v _ es ns _ HM2.out (HR.out.below HB2.out) HCAP.out HOK.out).mono ?_
  rintro e w3 ⟨rfl, hb3⟩
  rw [show mvVal none = .agg #[.int .i64 0, .int .i64 0, .int .i64 0, .int .i64 0] from rfl]
  have HB3 := Lib.hid hb3
  have hz3 := hb3.size
  clear hb3
  go_wp2_with fail
  refine (rright_any _ ns _ (HR.out.below (HB2.out.trans ((HB3.out.alloc hz3 _).mono hz2)))).mono ?_
  rintro e w4 ⟨rfl, hb4⟩
  rw [HOK.out]
  have HB4 := Lib.hid (show Below w2.heap.size w2 w4 from (HB3.out.alloc hz3 _).trans (hb4.mono (by simp; omega)))
  clear hb4
  go_wp2_with fail
  refine (code_any 1 (by omega) (by omega) _).mono ?_
  rintro e w5 ⟨rfl, rfl⟩
  go_wp2_with fail
  refine (code_any 1 (by omega) (by omega) _).mono ?_
  rintro e w5 ⟨rfl, rfl⟩
  go_wp2_with fail
  go_ret
  exact ⟨rfl, HB2.out.trans (HB4.out.mono hz2)⟩
set_option maxRecDepth 100000 in
set_option maxHeartbeats 4000000 in
theorem moves_few (ao : Option Addr) (n cap : Nat) (cs : List Cmd) (va : Value) (ns : List Int) (node : Int) (w : World) (hl : cs.length = n) (hn : n ≤ 60) (hA : 0 < n → ∃ b off, ao = some ⟨b, off, none⟩ ∧ b < w.heap.size ∧ CmdsAt w b off cs)
    (hr : Reads w 1 va ns.length (ns.map (Value.int .i64))) (hcap : ∀ a n c, va = .slice a n c → n ≤ c) (hm : ns.length ≤ 100) (hok : rightB ns = true) (hfw : ns.length < 2) :
    Calls Try.prog 11 #[.slice ao n cap, va, .int .i64 node] w fun e w' => e = .returned (.bool true) ∧ Below w.heap.size w w' := by
  have HFW := Lib.hid hfw
  have hd2 : decide ((ns.length : Int) < 2) = true := by simp; omega
  clear hfw
  obtain ⟨an, capn, rfl⟩ := reads_len hr
  have HL := Lib.hid hl
  have HA := Lib.hid hA
  have HR := Lib.hid hr
  have HCAP := Lib.hid hcap
  have HOK := Lib.hid hok
  have hd60 : decide ((60 : Int) < (n : Int)) = false := by simp; omega
  have hd100 : decide ((100 : Int) < (ns.length : Int)) = false := by simp; omega
  clear hl hA hr hcap hok
  go_enter Try.func11, Try.ntmps11
  go_wp2_with fail
  refine (alive27 _).mono ?_
  rintro e w1 ⟨rfl, hb1⟩
  have HB1 := Lib.hid hb1
  have hz1 := hb1.size
  clear hb1
  go_wp2_with fail
  refine (made_any ao n cap cs _ HL.out hn (fun h0 => by obtain ⟨b, off, h1, h2, h3⟩ := HA.out h0; exact ⟨b, off, h1, by omega, CmdsAt.below h3 HB1.out h2⟩)).mono ?_
  rintro e w2 ⟨bm, v, xv, rfl, hm2, hx2, hb2⟩
  obtain ⟨es, hes⟩ : ∃ es, es = doAll [] cs := ⟨_, rfl⟩
  have hfew : es.length ≤ 60 := by have := doAll_few cs []; rw [← hes] at this; simp at this; have := HL.out; omega
  have hno : NodesOk es := by rw [hes]; exact nodes_all cs [] nodes_nil
  rw [← hes] at hm2 hx2
  obtain ⟨ax, cx, rfl⟩ := ownsRow_len hx2
  have HM2 := Lib.hid hm2
  have HX2 := Lib.hid hx2
  have HNO := Lib.hid hno
  have HB2 := Lib.hid (HB1.out.trans (hb2.mono hz1))
  have hz2 := HB2.out.size
  clear hm2 hx2 hno hb2 hes hd100
  go_wp2_with fail
  refine (pleave_any w1.heap.size bm v _ es ns node _ HM2.out HNO.out (HR.out.below HB2.out) HCAP.out HOK.out).mono ?_
  rintro e w3 hL3
  rcases hle : leaveI es node ns with _ | out
  · rw [hle] at hL3
    obtain ⟨rfl, hb3⟩ := hL3
    have HLE := Lib.hid hle
    have HB3 := Lib.hid hb3
    have hz3 := hb3.size
    clear hb3 hle
    go_wp2_with fail
    refine (peven_few w1.heap.size bm v _ es ns _ (HM2.out.below HB3.out) HNO.out (HR.out.below (HB2.out.trans (HB3.out.mono hz2))) HCAP.out HOK.out HFW.out).mono ?_
    rintro e w4 ⟨rfl, hb4⟩
    rw [show mvVal none = .agg #[.int .i64 0, .int .i64 0, .int .i64 0, .int .i64 0] from rfl]
    have HB4 := Lib.hid (HB3.out.trans (hb4.mono hz3))
    have HB34 := Lib.hid hb4
    have hz4 := HB4.out.size
    have hz34 := hb4.size
    clear hb4
    go_wp2_with fail
    refine (rright_any _ ns _ (HR.out.below (HB2.out.trans ((HB4.out.alloc hz4 _).mono hz2)))).mono ?_
    rintro e w5 ⟨rfl, hb5⟩
    rw [HOK.out]
    have HK5 := Lib.hid ((hb5.block w4.heap.size (by simp)).trans (heap_alloc_new w4 _))
    have HB5 := Lib.hid (show Below w2.heap.size w2 w5 from (HB4.out.alloc hz4 _).trans (hb5.mono (by simp; omega)))
    have HB35 := Lib.hid (show Below w3.heap.size w3 w5 from (HB34.out.alloc hz34 _).trans (hb5.mono (by simp; omega)))
    have hz5 := HB5.out.size
    have hz45 := hb5.size
    simp only [World.size_alloc] at hz45
    clear hb5
    go_wp2_with fail
    refine (rleave_any w1.heap.size _ _ es ns node _ (ownsRow_below HX2.out HB5.out) (by omega) HNO.out (HR.out.below (HB2.out.trans (HB5.out.mono hz2))) hm HOK.out).mono ?_
    rintro e w6 hL6
    rw [HLE.out] at hL6
    obtain ⟨rfl, hb6⟩ := hL6
    have HB6 := Lib.hid (HB5.out.trans (hb6.mono hz5))
    have HB36 := Lib.hid (HB35.out.trans (hb6.mono (by omega)))
    have HK6 := Lib.hid ((hb6.block w4.heap.size (by omega)).trans HK5.out)
    have hz6 := HB6.out.size
    have hz46 : w4.heap.size < w6.heap.size := by have := hb6.size; omega
    clear hb6
    go_wp2_with fail
    refine (code_any 11 (by omega) (by omega) _).mono ?_
    rintro e w7 ⟨rfl, rfl⟩
    go_wp2_with fail
    refine wp_loop_rounds 1 ?_
    rw [rounds_succ]
    have HBW := Lib.hid HB6.out
    have HKW := Lib.hid HK6.out
    have hzw : w4.heap.size < w6.heap.size := by omega
    have hzw2 := HBW.out.size
    go_wp2_with fail
    refine (code_any 11 (by omega) (by omega) _).mono ?_
    rintro e w8 ⟨rfl, rfl⟩
    go_wp2_with fail
    go_ret
    exact ⟨rfl, HB2.out.trans (HBW.out.mono hz2)⟩
  · rw [hle] at hL3
    obtain ⟨v3, rfl, ho3, hb3⟩ := hL3
    obtain ⟨a3, c3, rfl⟩ := ownsRow_len ho3
    have HO3 := Lib.hid ho3
    have hbig : (out.length : Int) ≤ 9223372036854775807 := by have := owns_max ho3; unfold maxLen at this; omega
    clear ho3
    have HLE := Lib.hid hle
    have HB3 := Lib.hid hb3
    have hz3 := hb3.size
    clear hb3 hle
    go_wp2_with fail
    refine (peven_few w1.heap.size bm v _ es ns _ (HM2.out.below HB3.out) HNO.out (HR.out.below (HB2.out.trans (HB3.out.mono hz2))) HCAP.out HOK.out HFW.out).mono ?_
    rintro e w4 ⟨rfl, hb4⟩
    rw [show mvVal none = .agg #[.int .i64 0, .int .i64 0, .int .i64 0, .int .i64 0] from rfl]
    have HB4 := Lib.hid (HB3.out.trans (hb4.mono hz3))
    have HB34 := Lib.hid hb4
    have hz4 := HB4.out.size
    have hz34 := hb4.size
    clear hb4
    go_wp2_with fail
    refine (rright_any _ ns _ (HR.out.below (HB2.out.trans ((HB4.out.alloc hz4 _).mono hz2)))).mono ?_
    rintro e w5 ⟨rfl, hb5⟩
    rw [HOK.out]
    have HK5 := Lib.hid ((hb5.block w4.heap.size (by simp)).trans (heap_alloc_new w4 _))
    have HB5 := Lib.hid (show Below w2.heap.size w2 w5 from (HB4.out.alloc hz4 _).trans (hb5.mono (by simp; omega)))
    have HB35 := Lib.hid (show Below w3.heap.size w3 w5 from (HB34.out.alloc hz34 _).trans (hb5.mono (by simp; omega)))
    have hz5 := HB5.out.size
    have hz45 := hb5.size
    simp only [World.size_alloc] at hz45
    clear hb5
    go_wp2_with fail
    refine (rleave_any w1.heap.size _ _ es ns node _ (ownsRow_below HX2.out HB5.out) (by omega) HNO.out (HR.out.below (HB2.out.trans (HB5.out.mono hz2))) hm HOK.out).mono ?_
    rintro e w6 hL6
    rw [HLE.out] at hL6
    obtain ⟨v6, rfl, ho6, hb6⟩ := hL6
    obtain ⟨a6, c6, rfl⟩ := ownsRow_len ho6
    have HO6 := Lib.hid ho6
    clear ho6
    have HB6 := Lib.hid (HB5.out.trans (hb6.mono hz5))
    have HB36 := Lib.hid (HB35.out.trans (hb6.mono (by omega)))
    have HK6 := Lib.hid ((hb6.block w4.heap.size (by omega)).trans HK5.out)
    have hz6 := HB6.out.size
    have hz46 : w4.heap.size < w6.heap.size := by have := hb6.size; omega
    clear hb6
    have hbne : ((out.length : Int) != (out.length : Int)) = false := by simp
    go_wp2_with fail
    refine (code_any 0 (by omega) (by omega) _).mono ?_
    rintro e w7 ⟨rfl, rfl⟩
    go_wp2_with fail
    obtain ⟨w6', hw6⟩ : ∃ W : World, W = w6 := ⟨_, rfl⟩
    go_loopw [16] (fun i wr => ∃ k : Nat, k ≤ out.length ∧ i = .int .i64 k ∧ Below w6.heap.size w6 wr) (fun i _ => out.length - (intOf i).toNat)
    case atStart => exact ⟨0, Nat.zero_le _, rfl, Below.refl _ _⟩
    case round =>
      obtain ⟨k, hk, rfl, hbw⟩ := hrel
      have HBR := Lib.hid hbw
      have hzr := hbw.size
      clear hbw
      by_cases hlt : k < out.length
      · obtain ⟨x, hx⟩ : ∃ x, out[k]? = some x := ⟨_, List.getElem?_eq_getElem hlt⟩
        obtain ⟨g3, cc3, e3, _, hc3, x0, x1, x2, x3⟩ := row_mv (ownsRow_below HO3.out (HB36.out.trans (HBR.out.mono (by have := HB36.out.size; omega)))) k x hx
        obtain ⟨e3', -, e3''⟩ := sl_inj e3
        subst e3' e3''
        obtain ⟨g6, cc6, e6, _, hc6, y0, y1, y2, y3⟩ := row_mv (ownsRow_below HO6.out HBR.out) k x hx
        obtain ⟨e6', -, e6''⟩ := sl_inj e6
        subst e6' e6''
        have hk0 : (0 : Int) ≤ (k : Int) := by omega
        have hk1 : (k : Int) < (out.length : Int) := by omega
        obtain ⟨xv, xe, xa, xn⟩ := x
        simp only at x0 x1 x2 x3 y0 y1 y2 y3
        clear hx e3 e6
        go_wp2_with fail
        refine wp_region_now0 [3, 7] [(0, 0), (1, 0), (2, 0), (3, 2), (4, 0), (5, 0), (6, 0), (7, 2), (8, 0)] (by kernel_rfl) (by kernel_rfl) rfl (by kernel_rfl) ?_
        refine stepE0 rfl rfl (fun K hK => ?_)
        go_simp
        refine hK _ ?_
        clear hK K
        refine stepE0 rfl rfl (fun K hK => ?_)
        go_simp
        refine hK _ ?_
        clear hK K
        refine stepE0 rfl rfl (fun K hK => ?_)
        go_simp
        refine hK _ ?_
        clear hK K
        refine stepE2 rfl rfl ?_ (fun w1 hS => ?_) (fun K hK => ?_)
        rotate_left
        focus (obtain rfl : w1 = _ := hS; go_simp; rfl)
        go_simp
        refine hK _ ?_
        clear hK K
        refine stepE0 rfl rfl (fun K hK => ?_)
        go_simp
        refine hK _ ?_
        clear hK K
        refine stepE0 rfl rfl (fun K hK => ?_)
        go_simp
        refine hK _ ?_
        clear hK K
        refine stepE0 rfl rfl (fun K hK => ?_)
        go_simp
        refine hK _ ?_
        clear hK K
        refine stepE2 rfl rfl ?_ (fun w1 hS => ?_) (fun K hK => ?_)
        rotate_left
        focus (obtain rfl : w1 = _ := hS; go_simp; rfl)
        go_simp
        refine hK _ ?_
        clear hK K
        refine stepE0 rfl rfl (fun K hK => ?_)
        go_simp
        refine hK _ ?_
        clear hK K
        try refine stepEnil0 ?_
        go_wp2_with fail
        go_roundw
        case rel => exact ⟨k + 1, by omega, by go_num, HBR.out.drew⟩
        case measure => simp [intOf]; omega
      · have HBW := Lib.hid (show Below w2.heap.size w2 wr from HB6.out.trans (HBR.out.mono hz6))
        have HKW := Lib.hid ((HBR.out.block w4.heap.size hz46).trans HK6.out)
        have hzw : w4.heap.size < wr.heap.size := by omega
        have hzw2 := HBW.out.size
        go_wp2_with fail
        refine (code_any 11 (by omega) (by omega) _).mono ?_
        rintro e w8 ⟨rfl, rfl⟩
        go_wp2_with fail
        go_ret
        exact ⟨rfl, HB2.out.trans (HBW.out.mono hz2)⟩
set_option maxRecDepth 100000 in
set_option maxHeartbeats 4000000 in
theorem moves_many (ao : Option Addr) (n cap : Nat) (cs : List Cmd) (va : Value) (ns : List Int) (node : Int) (w : World) (hl : cs.length = n) (hn : n ≤ 60) (hA : 0 < n → ∃ b off, ao = some ⟨b, off, none⟩ ∧ b < w.heap.size ∧ CmdsAt w b off cs)
    (hr : Reads w 1 va ns.length (ns.map (Value.int .i64))) (hcap : ∀ a n c, va = .slice a n c → n ≤ c) (hm : ns.length ≤ 100) (hok : rightB ns = true) (hfw : ¬ ns.length < 2) :
    Calls Try.prog 11 #[.slice ao n cap, va, .int .i64 node] w fun e w' => e = .returned (.bool true) ∧ Below w.heap.size w w' := by
  have HFW := Lib.hid hfw
  have hd2 : decide ((ns.length : Int) < 2) = false := by simp; omega
  clear hfw
  obtain ⟨an, capn, rfl⟩ := reads_len hr
  have HL := Lib.hid hl
  have HA := Lib.hid hA
  have HR := Lib.hid hr
  have HCAP := Lib.hid hcap
  have HOK := Lib.hid hok
  have hd60 : decide ((60 : Int) < (n : Int)) = false := by simp; omega
  have hd100 : decide ((100 : Int) < (ns.length : Int)) = false := by simp; omega
  clear hl hA hr hcap hok
  go_enter Try.func11, Try.ntmps11
  go_wp2_with fail
  refine (alive27 _).mono ?_
  rintro e w1 ⟨rfl, hb1⟩
  have HB1 := Lib.hid hb1
  have hz1 := hb1.size
  clear hb1
  go_wp2_with fail
  refine (made_any ao n cap cs _ HL.out hn (fun h0 => by obtain ⟨b, off, h1, h2, h3⟩ := HA.out h0; exact ⟨b, off, h1, by omega, CmdsAt.below h3 HB1.out h2⟩)).mono ?_
  rintro e w2 ⟨bm, v, xv, rfl, hm2, hx2, hb2⟩
  obtain ⟨es, hes⟩ : ∃ es, es = doAll [] cs := ⟨_, rfl⟩
  have hfew : es.length ≤ 60 := by have := doAll_few cs []; rw [← hes] at this; simp at this; have := HL.out; omega
  have hno : NodesOk es := by rw [hes]; exact nodes_all cs [] nodes_nil
  rw [← hes] at hm2 hx2
  obtain ⟨ax, cx, rfl⟩ := ownsRow_len hx2
  have HM2 := Lib.hid hm2
  have HX2 := Lib.hid hx2
  have HNO := Lib.hid hno
  have HB2 := Lib.hid (HB1.out.trans (hb2.mono hz1))
  have hz2 := HB2.out.size
  clear hm2 hx2 hno hb2 hes hd100
  obtain ⟨ev, hev⟩ : ∃ ev, evenI es ns = ev := ⟨_, rfl⟩
  obtain ⟨b0, b1, b2, b3, hmv⟩ := mvVal_agg ev
  obtain ⟨q, hq⟩ : ∃ q, ev.isSome = q := ⟨_, rfl⟩
  have HEV := Lib.hid hev
  have HMV := Lib.hid hmv
  have HQ := Lib.hid hq
  clear hev hmv hq
  go_wp2_with fail
  refine (pleave_any w1.heap.size bm v _ es ns node _ HM2.out HNO.out (HR.out.below HB2.out) HCAP.out HOK.out).mono ?_
  rintro e w3 hL3
  rcases hle : leaveI es node ns with _ | out
  · rw [hle] at hL3
    obtain ⟨rfl, hb3⟩ := hL3
    have HLE := Lib.hid hle
    have HB3 := Lib.hid hb3
    have hz3 := hb3.size
    clear hb3 hle
    go_wp2_with fail
    refine (peven_any w1.heap.size bm v _ es ns _ (HM2.out.below HB3.out) HNO.out (HR.out.below (HB2.out.trans (HB3.out.mono hz2))) HCAP.out HOK.out (by have := HFW.out; omega)).mono ?_
    rintro e w4 ⟨rfl, hb4⟩
    rw [HEV.out, HMV.out, HQ.out]
    have HB4 := Lib.hid (HB3.out.trans (hb4.mono hz3))
    have HB34 := Lib.hid hb4
    have hz4 := HB4.out.size
    have hz34 := hb4.size
    clear hb4
    go_wp2_with fail
    refine (rright_any _ ns _ (HR.out.below (HB2.out.trans ((HB4.out.alloc hz4 _).mono hz2)))).mono ?_
    rintro e w5 ⟨rfl, hb5⟩
    rw [HOK.out]
    have HK5 := Lib.hid ((hb5.block w4.heap.size (by simp)).trans (heap_alloc_new w4 _))
    have HB5 := Lib.hid (show Below w2.heap.size w2 w5 from (HB4.out.alloc hz4 _).trans (hb5.mono (by simp; omega)))
    have HB35 := Lib.hid (show Below w3.heap.size w3 w5 from (HB34.out.alloc hz34 _).trans (hb5.mono (by simp; omega)))
    have hz5 := HB5.out.size
    have hz45 := hb5.size
    simp only [World.size_alloc] at hz45
    clear hb5
    go_wp2_with fail
    refine (rleave_any w1.heap.size _ _ es ns node _ (ownsRow_below HX2.out HB5.out) (by omega) HNO.out (HR.out.below (HB2.out.trans (HB5.out.mono hz2))) hm HOK.out).mono ?_
    rintro e w6 hL6
    rw [HLE.out] at hL6
    obtain ⟨rfl, hb6⟩ := hL6
    have HB6 := Lib.hid (HB5.out.trans (hb6.mono hz5))
    have HB36 := Lib.hid (HB35.out.trans (hb6.mono (by omega)))
    have HK6 := Lib.hid ((hb6.block w4.heap.size (by omega)).trans HK5.out)
    have hz6 := HB6.out.size
    have hz46 : w4.heap.size < w6.heap.size := by have := hb6.size; omega
    clear hb6
    go_wp2_with fail
    refine (code_any 11 (by omega) (by omega) _).mono ?_
    rintro e w7 ⟨rfl, rfl⟩
    go_wp2_with fail
    refine wp_loop_rounds 1 ?_
    rw [rounds_succ]
    have HBW := Lib.hid HB6.out
    have HKW := Lib.hid HK6.out
    have hzw : w4.heap.size < w6.heap.size := by omega
    have hzw2 := HBW.out.size
    go_wp2_with fail
    refine (reven_any w1.heap.size _ _ es ns _ (ownsRow_below HX2.out HBW.out) (by omega) (HR.out.below (HB2.out.trans (HBW.out.mono hz2))) (by have := HFW.out; omega) hm).mono ?_
    rintro e w8 ⟨rfl, hb8⟩
    rw [HEV.out, HMV.out, HQ.out]
    have hk8 := (hb8.block w4.heap.size hzw).trans HKW.out
    have z0 := cell_of_row w8 w4.heap.size 0 _ _ _ hk8
    have z1 := cell_of_row w8 w4.heap.size 1 _ _ _ hk8
    have z2 := cell_of_row w8 w4.heap.size 2 _ _ _ hk8
    have z3 := cell_of_row w8 w4.heap.size 3 _ _ _ hk8
    simp at z0 z1 z2 z3
    have h48 : w4.heap.size < w8.heap.size := by have := hb8.size; omega
    have HB8 := Lib.hid (show Below w2.heap.size w2 w8 from HBW.out.trans (hb8.mono hzw2))
    clear hb8 hk8
    go_wp2_with fail
    refine (code_any 0 (by omega) (by omega) _).mono ?_
    rintro e w9 ⟨rfl, rfl⟩
    have hqq : (q == q) = true := by cases q <;> rfl
    go_wp2_with fail
    go_ret
    exact ⟨rfl, HB2.out.trans ((HB8.out.alloc HB8.out.size _).mono hz2)⟩
  · rw [hle] at hL3
    obtain ⟨v3, rfl, ho3, hb3⟩ := hL3
    obtain ⟨a3, c3, rfl⟩ := ownsRow_len ho3
    have HO3 := Lib.hid ho3
    have hbig : (out.length : Int) ≤ 9223372036854775807 := by have := owns_max ho3; unfold maxLen at this; omega
    clear ho3
    have HLE := Lib.hid hle
    have HB3 := Lib.hid hb3
    have hz3 := hb3.size
    clear hb3 hle
    go_wp2_with fail
    refine (peven_any w1.heap.size bm v _ es ns _ (HM2.out.below HB3.out) HNO.out (HR.out.below (HB2.out.trans (HB3.out.mono hz2))) HCAP.out HOK.out (by have := HFW.out; omega)).mono ?_
    rintro e w4 ⟨rfl, hb4⟩
    rw [HEV.out, HMV.out, HQ.out]
    have HB4 := Lib.hid (HB3.out.trans (hb4.mono hz3))
    have HB34 := Lib.hid hb4
    have hz4 := HB4.out.size
    have hz34 := hb4.size
    clear hb4
    go_wp2_with fail
    refine (rright_any _ ns _ (HR.out.below (HB2.out.trans ((HB4.out.alloc hz4 _).mono hz2)))).mono ?_
    rintro e w5 ⟨rfl, hb5⟩
    rw [HOK.out]
    have HK5 := Lib.hid ((hb5.block w4.heap.size (by simp)).trans (heap_alloc_new w4 _))
    have HB5 := Lib.hid (show Below w2.heap.size w2 w5 from (HB4.out.alloc hz4 _).trans (hb5.mono (by simp; omega)))
    have HB35 := Lib.hid (show Below w3.heap.size w3 w5 from (HB34.out.alloc hz34 _).trans (hb5.mono (by simp; omega)))
    have hz5 := HB5.out.size
    have hz45 := hb5.size
    simp only [World.size_alloc] at hz45
    clear hb5
    go_wp2_with fail
    refine (rleave_any w1.heap.size _ _ es ns node _ (ownsRow_below HX2.out HB5.out) (by omega) HNO.out (HR.out.below (HB2.out.trans (HB5.out.mono hz2))) hm HOK.out).mono ?_
    rintro e w6 hL6
    rw [HLE.out] at hL6
    obtain ⟨v6, rfl, ho6, hb6⟩ := hL6
    obtain ⟨a6, c6, rfl⟩ := ownsRow_len ho6
    have HO6 := Lib.hid ho6
    clear ho6
    have HB6 := Lib.hid (HB5.out.trans (hb6.mono hz5))
    have HB36 := Lib.hid (HB35.out.trans (hb6.mono (by omega)))
    have HK6 := Lib.hid ((hb6.block w4.heap.size (by omega)).trans HK5.out)
    have hz6 := HB6.out.size
    have hz46 : w4.heap.size < w6.heap.size := by have := hb6.size; omega
    clear hb6
    have hbne : ((out.length : Int) != (out.length : Int)) = false := by simp
    go_wp2_with fail
    refine (code_any 0 (by omega) (by omega) _).mono ?_
    rintro e w7 ⟨rfl, rfl⟩
    go_wp2_with fail
    obtain ⟨w6', hw6⟩ : ∃ W : World, W = w6 := ⟨_, rfl⟩
    go_loopw [16] (fun i wr => ∃ k : Nat, k ≤ out.length ∧ i = .int .i64 k ∧ Below w6.heap.size w6 wr) (fun i _ => out.length - (intOf i).toNat)
    case atStart => exact ⟨0, Nat.zero_le _, rfl, Below.refl _ _⟩
    case round =>
      obtain ⟨k, hk, rfl, hbw⟩ := hrel
      have HBR := Lib.hid hbw
      have hzr := hbw.size
      clear hbw
      by_cases hlt : k < out.length
      · obtain ⟨x, hx⟩ : ∃ x, out[k]? = some x := ⟨_, List.getElem?_eq_getElem hlt⟩
        obtain ⟨g3, cc3, e3, _, hc3, x0, x1, x2, x3⟩ := row_mv (ownsRow_below HO3.out (HB36.out.trans (HBR.out.mono (by have := HB36.out.size; omega)))) k x hx
        obtain ⟨e3', -, e3''⟩ := sl_inj e3
        subst e3' e3''
        obtain ⟨g6, cc6, e6, _, hc6, y0, y1, y2, y3⟩ := row_mv (ownsRow_below HO6.out HBR.out) k x hx
        obtain ⟨e6', -, e6''⟩ := sl_inj e6
        subst e6' e6''
        have hk0 : (0 : Int) ≤ (k : Int) := by omega
        have hk1 : (k : Int) < (out.length : Int) := by omega
        obtain ⟨xv, xe, xa, xn⟩ := x
        simp only at x0 x1 x2 x3 y0 y1 y2 y3
        clear hx e3 e6
        go_wp2_with fail
        refine wp_region_now0 [3, 7] [(0, 0), (1, 0), (2, 0), (3, 2), (4, 0), (5, 0), (6, 0), (7, 2), (8, 0)] (by kernel_rfl) (by kernel_rfl) rfl (by kernel_rfl) ?_
        refine stepE0 rfl rfl (fun K hK => ?_)
        go_simp
        refine hK _ ?_
        clear hK K
        refine stepE0 rfl rfl (fun K hK => ?_)
        go_simp
        refine hK _ ?_
        clear hK K
        refine stepE0 rfl rfl (fun K hK => ?_)
        go_simp
        refine hK _ ?_
        clear hK K
        refine stepE2 rfl rfl ?_ (fun w1 hS => ?_) (fun K hK => ?_)
        rotate_left
        focus (obtain rfl : w1 = _ := hS; go_simp; rfl)
        go_simp
        refine hK _ ?_
        clear hK K
        refine stepE0 rfl rfl (fun K hK => ?_)
        go_simp
        refine hK _ ?_
        clear hK K
        refine stepE0 rfl rfl (fun K hK => ?_)
        go_simp
        refine hK _ ?_
        clear hK K
        refine stepE0 rfl rfl (fun K hK => ?_)
        go_simp
        refine hK _ ?_
        clear hK K
        refine stepE2 rfl rfl ?_ (fun w1 hS => ?_) (fun K hK => ?_)
        rotate_left
        focus (obtain rfl : w1 = _ := hS; go_simp; rfl)
        go_simp
        refine hK _ ?_
        clear hK K
        refine stepE0 rfl rfl (fun K hK => ?_)
        go_simp
        refine hK _ ?_
        clear hK K
        try refine stepEnil0 ?_
        go_wp2_with fail
        go_roundw
        case rel => exact ⟨k + 1, by omega, by go_num, HBR.out.drew⟩
        case measure => simp [intOf]; omega
      · have HBW := Lib.hid (show Below w2.heap.size w2 wr from HB6.out.trans (HBR.out.mono hz6))
        have HKW := Lib.hid ((HBR.out.block w4.heap.size hz46).trans HK6.out)
        have hzw : w4.heap.size < wr.heap.size := by omega
        have hzw2 := HBW.out.size
        go_wp2_with fail
        refine (reven_any w1.heap.size _ _ es ns _ (ownsRow_below HX2.out HBW.out) (by omega) (HR.out.below (HB2.out.trans (HBW.out.mono hz2))) (by have := HFW.out; omega) hm).mono ?_
        rintro e w8 ⟨rfl, hb8⟩
        rw [HEV.out, HMV.out, HQ.out]
        have hk8 := (hb8.block w4.heap.size hzw).trans HKW.out
        have z0 := cell_of_row w8 w4.heap.size 0 _ _ _ hk8
        have z1 := cell_of_row w8 w4.heap.size 1 _ _ _ hk8
        have z2 := cell_of_row w8 w4.heap.size 2 _ _ _ hk8
        have z3 := cell_of_row w8 w4.heap.size 3 _ _ _ hk8
        simp at z0 z1 z2 z3
        have h48 : w4.heap.size < w8.heap.size := by have := hb8.size; omega
        have HB8 := Lib.hid (show Below w2.heap.size w2 w8 from HBW.out.trans (hb8.mono hzw2))
        clear hb8 hk8
        go_wp2_with fail
        refine (code_any 0 (by omega) (by omega) _).mono ?_
        rintro e w9 ⟨rfl, rfl⟩
        have hqq : (q == q) = true := by cases q <;> rfl
        go_wp2_with fail
        go_ret
        exact ⟨rfl, HB2.out.trans ((HB8.out.alloc HB8.out.size _).mono hz2)⟩
end Go.Proofs.Ytigkcbnlbdiimaa
