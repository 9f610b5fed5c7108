/- place.Load, Order, Pick, New. -/
import Derived.Test.YtigkcbnlbdiimaaPlaceOrd
namespace Go.Proofs.Ytigkcbnlbdiimaa
open Go.RowKit
theorem len_onVols (es : List Ent) (node : Int) : (onVols node es).length = loadN es node := by
  unfold onVols loadN
  rw [List.length_map, List.countP_eq_length_filter]
  congr 1
  apply List.filter_congr
  intro x _
  unfold onB hasB
  simp only [List.contains_cons, List.contains_nil, Bool.or_false]
  rw [BEq.comm (a := node) (b := x.n0), BEq.comm (a := node) (b := x.n1), BEq.comm (a := node) (b := x.n2), Bool.or_assoc]
set_option maxHeartbeats 400000 in
theorem pload_any (base bm : Nat) (v : Value) (es : List Ent) (node : Int) (w : World) (h : MapAt w base bm v es) :
    Calls Try.prog 45 #[.pointer (some ⟨bm, 0, none⟩), .int .i64 node] w fun e w' => e = .returned (.int .i64 (loadN es node)) ∧ Below w.heap.size w w' := by
  have HL := Lib.hid (len_onVols es node)
  have H := Lib.hid h
  clear h
  go_enter Try.func45, Try.ntmps45
  go_wp2_with fail
  refine (on_any _ _ _ _ _ _ H.out).mono ?_
  rintro e w1 ⟨v1, rfl, ho1, hb1⟩
  obtain ⟨a1, c1, rfl⟩ := ownsRow_len ho1
  have HB := Lib.hid hb1
  clear ho1 hb1
  go_wp2_with fail
  go_ret
  exact ⟨by rw [← HL.out]; rfl, HB.out⟩
set_option maxHeartbeats 1000000 in
theorem porder_bad (base bm : Nat) (v va : Value) (es : List Ent) (ns : List Int) (w : World) (h : MapAt w base bm v es) (hr : Reads w 1 va ns.length (ns.map (Value.int .i64))) (hcap : ∀ a n c, va = .slice a n c → n ≤ c) (hok : rightB ns = false) :
    Calls Try.prog 43 #[.pointer (some ⟨bm, 0, none⟩), va] w fun e w' => e = .returned (.tuple #[.slice none 0 0, errV 1]) ∧ w = w' := by
  obtain ⟨ao, cap, rfl⟩ := reads_len hr
  have HR := Lib.hid hr
  have HCAP := Lib.hid (hcap _ _ _ rfl)
  have HOK := Lib.hid hok
  have HN := Lib.hid (errV_ne (k := 1) (by omega))
  clear h hr hcap hok
  go_enter Try.func43, Try.ntmps43
  go_wp2_with fail
  refine (right27_any _ ns cap ao _ rfl HR.out HCAP.out).mono ?_
  rintro e w' ⟨rfl, rfl⟩
  rw [HOK.out]
  go_wp2_with fail
  go_ret2
  exact ⟨by rw [HN.out]; rfl, rfl⟩
set_option maxHeartbeats 1000000 in
theorem porder_any (base bm : Nat) (v va : Value) (es : List Ent) (ns : List Int) (w : World) (h : MapAt w base bm v es) (hno : NodesOk es) (hr : Reads w 1 va ns.length (ns.map (Value.int .i64))) (hcap : ∀ a n c, va = .slice a n c → n ≤ c) (hok : rightB ns = true) :
    Calls Try.prog 43 #[.pointer (some ⟨bm, 0, none⟩), va] w
      fun e w' => ∃ v', e = .returned (.tuple #[v', .nilIface]) ∧ w'.ownsRow w.heap.size 3 1 v' ns.length ((sortI (fun k => (loadN es k : Int)) ns).map (Value.int .i64)) ∧ Below w.heap.size w w' := by
  obtain ⟨ao, cap, rfl⟩ := reads_len hr
  have HR := Lib.hid hr
  have HCAP := Lib.hid (hcap _ _ _ rfl)
  have HOK := Lib.hid hok
  have HNO := Lib.hid hno
  have hfew := h.few
  have H := Lib.hid h
  clear h hr hcap hok hno
  go_enter Try.func43, Try.ntmps43
  go_wp2_with fail
  refine (right27_any _ ns cap ao _ rfl HR.out HCAP.out).mono ?_
  rintro e w' ⟨rfl, rfl⟩
  rw [HOK.out]
  go_wp2_with fail
  refine (all_any _ _ _ _ _ H.out).mono ?_
  rintro e w1 ⟨v1, rfl, ho1, _, hb1⟩
  have HO1 := Lib.hid ho1
  have HB1 := Lib.hid hb1
  have hz1 := hb1.size
  clear ho1 hb1
  go_wp2_with fail
  refine (loads_any _ _ es _ HO1.out hfew HNO.out).mono ?_
  rintro e w2 ⟨n2, rfl, _, hm2, hb2⟩
  have HM2 := Lib.hid hm2
  have HB2 := Lib.hid (HB1.out.trans (hb2.mono hz1))
  have hz2 := hb2.size
  clear hm2 hb2
  go_wp2_with fail
  refine (order_any _ _ n2 ns _ _ HM2.out (HR.out.below HB2.out) HOK.out).mono ?_
  rintro e w3 ⟨v3, rfl, ho3, hb3⟩
  have HO3 := Lib.hid ho3
  have HB3 := Lib.hid (HB2.out.trans (hb3.mono (by omega)))
  clear ho3 hb3
  go_wp2_with fail
  go_ret2
  exact ⟨_, rfl, ownsRow_mono HO3.out (by omega), HB3.out⟩
/-- What Pick gives. -/
def three (l : List Int) : Value := .agg #[.int .i64 (l.getD 0 0), .int .i64 (l.getD 1 0), .int .i64 (l.getD 2 0)]
set_option maxHeartbeats 1000000 in
theorem pick_bad (base bm : Nat) (v va : Value) (es : List Ent) (ns : List Int) (w : World) (h : MapAt w base bm v es) (hr : Reads w 1 va ns.length (ns.map (Value.int .i64))) (hcap : ∀ a n c, va = .slice a n c → n ≤ c) (hok : rightB ns = false) :
    Calls Try.prog 44 #[.pointer (some ⟨bm, 0, none⟩), va] w fun e w' => e = .returned (.tuple #[.agg #[.int .i64 0, .int .i64 0, .int .i64 0], errV 1]) ∧ Below w.heap.size w w' := by
  have HN := Lib.hid (errV_ne (k := 1) (by omega))
  have HO := Lib.hid (fun W (hb : Below w.heap.size w W) => porder_bad base bm v va es ns W (h.below hb) (hr.below hb) hcap hok)
  clear h hr hcap hok
  go_enter Try.func44, Try.ntmps44
  go_wp2_with fail
  refine (HO.out _ (by repeat (first | (with_reducible exact Below.refl _ _) | (with_reducible refine Below.setCell ?_ ?_ _) | (with_reducible refine Below.alloc ?_ ?_ _) | (with_reducible refine Below.drewN ?_ _) | (with_reducible refine Below.drew ?_) | (with_reducible exact Nat.le_refl _) | (focus (simp only [World.size_alloc, World.size_setCell, World.size_drew, World.size_drewN]; omega)) | omega | exact Nat.le_refl _ | (focus (simp; done)) | (focus (simp; omega))))).mono ?_
  rintro e w1 ⟨rfl, rfl⟩
  rw [HN.out]
  go_wp2_with fail
  refine bodyPost_ret (v := .tuple #[.agg #[.int .i64 0, .int .i64 0, .int .i64 0], .iface 106 (.int .i64 1)]) ?_ rfl ?_
  · simp [results, Try.results44, go_sem]
  · exact ⟨by rw [HN.out], (by repeat (first | (with_reducible exact Below.refl _ _) | (with_reducible refine Below.setCell ?_ ?_ _) | (with_reducible refine Below.alloc ?_ ?_ _) | (with_reducible refine Below.drewN ?_ _) | (with_reducible refine Below.drew ?_) | (with_reducible exact Nat.le_refl _) | (focus (simp only [World.size_alloc, World.size_setCell, World.size_drew, World.size_drewN]; omega)) | omega | exact Nat.le_refl _ | (focus (simp; done)) | (focus (simp; omega))))⟩
def PickOut (es : List Ent) (ns : List Int) (w : World) (e : Ending) (w' : World) : Prop :=
  ∃ a b c, e = .returned (.tuple #[.agg #[.int .i64 a, .int .i64 b, .int .i64 c], errV (if ns.length < 3 then 11 else 0)]) ∧ (if ns.length < 3 then a = 0 ∧ b = 0 ∧ c = 0 else [a, b, c] = (sortI (fun k => (loadN es k : Int)) ns).take 3) ∧ Below w.heap.size w w'
set_option maxRecDepth 100000 in
set_option maxHeartbeats 1000000 in
theorem pick_any (base bm : Nat) (v va : Value) (es : List Ent) (ns : List Int) (w : World) (h : MapAt w base bm v es) (hno : NodesOk es) (hr : Reads w 1 va ns.length (ns.map (Value.int .i64))) (hcap : ∀ a n c, va = .slice a n c → n ≤ c) (hok : rightB ns = true) :
    Calls Try.prog 44 #[.pointer (some ⟨bm, 0, none⟩), va] w
      (PickOut es ns w) := by
  have HO := Lib.hid (fun W (hb : Below w.heap.size w W) => porder_any base bm v va es ns W (h.below hb) hno (hr.below hb) hcap hok)
  clear h hr hcap hok hno
  by_cases hl : ns.length < 3
  · have HN := Lib.hid (errV_ne (k := 11) (by omega))
    have hd : decide ((ns.length : Int) < 3) = true := by simp; omega
    have HL := Lib.hid hl
    clear hl
    go_enter Try.func44, Try.ntmps44
    go_wp2_with fail
    refine (HO.out _ (by repeat (first | (with_reducible exact Below.refl _ _) | (with_reducible refine Below.setCell ?_ ?_ _) | (with_reducible refine Below.alloc ?_ ?_ _) | (with_reducible refine Below.drewN ?_ _) | (with_reducible refine Below.drew ?_) | (with_reducible exact Nat.le_refl _) | (focus (simp only [World.size_alloc, World.size_setCell, World.size_drew, World.size_drewN]; omega)) | omega | exact Nat.le_refl _ | (focus (simp; done)) | (focus (simp; omega))))).mono ?_
    rintro e w1 ⟨v1, rfl, ho1, hb1⟩
    obtain ⟨a1, c1, rfl⟩ := ownsRow_len ho1
    have hbk := hb1.block w.heap.size (by simp)
    rw [heap_alloc_new] at hbk
    have z0 := cell_of_row w1 w.heap.size 0 _ _ _ hbk
    have z1 := cell_of_row w1 w.heap.size 1 _ _ _ hbk
    have z2 := cell_of_row w1 w.heap.size 2 _ _ _ hbk
    have zf := fun o => frozen_of_row w1 w.heap.size o _ _ hbk
    simp at z0 z1 z2
    have hz1 := hb1.size
    simp only [World.size_alloc] at hz1
    have HB1 := Lib.hid (show Below w.heap.size w w1 from Below.trans (by repeat (first | (with_reducible exact Below.refl _ _) | (with_reducible refine Below.setCell ?_ ?_ _) | (with_reducible refine Below.alloc ?_ ?_ _) | (with_reducible refine Below.drewN ?_ _) | (with_reducible refine Below.drew ?_) | (with_reducible exact Nat.le_refl _) | (focus (simp only [World.size_alloc, World.size_setCell, World.size_drew, World.size_drewN]; omega)) | omega | exact Nat.le_refl _ | (focus (simp; done)) | (focus (simp; omega)))) (hb1.mono (by simp)))
    have HO1 := Lib.hid ho1
    clear ho1 hb1 hbk
    go_wp2_with fail
    refine bodyPost_ret (v := .tuple #[.agg #[.int .i64 0, .int .i64 0, .int .i64 0], .iface 106 (.int .i64 11)]) ?_ rfl ?_
    · simp [results, Try.results44, go_sem, z0, z1, z2]
    · refine ⟨0, 0, 0, by rw [if_pos HL.out, HN.out], by rw [if_pos HL.out]; exact ⟨rfl, rfl, rfl⟩, ?_⟩
      (repeat (with_reducible refine Below.setCell ?_ ?_ _; rotate_left; focus (simp; done)))
      exact HB1.out
  · have hd : decide ((ns.length : Int) < 3) = false := by simp; omega
    have hn3 : (3 : Int) ≤ (ns.length : Int) := by omega
    have hn3' : 3 ≤ ns.length := by omega
    have HL := Lib.hid hl
    clear hl
    go_enter Try.func44, Try.ntmps44
    go_wp2_with fail
    refine (HO.out _ (by repeat (first | (with_reducible exact Below.refl _ _) | (with_reducible refine Below.setCell ?_ ?_ _) | (with_reducible refine Below.alloc ?_ ?_ _) | (with_reducible refine Below.drewN ?_ _) | (with_reducible refine Below.drew ?_) | (with_reducible exact Nat.le_refl _) | (focus (simp only [World.size_alloc, World.size_setCell, World.size_drew, World.size_drewN]; omega)) | omega | exact Nat.le_refl _ | (focus (simp; done)) | (focus (simp; omega))))).mono ?_
    rintro e w1 ⟨v1, rfl, ho1, hb1⟩
    obtain ⟨a1, c1, rfl⟩ := ownsRow_len ho1
    have hbk := hb1.block w.heap.size (by simp)
    rw [heap_alloc_new] at hbk
    have z0 := cell_of_row w1 w.heap.size 0 _ _ _ hbk
    have z1 := cell_of_row w1 w.heap.size 1 _ _ _ hbk
    have z2 := cell_of_row w1 w.heap.size 2 _ _ _ hbk
    have zf := fun o => frozen_of_row w1 w.heap.size o _ _ hbk
    simp at z0 z1 z2
    have hz1 := hb1.size
    simp only [World.size_alloc] at hz1
    have HB1 := Lib.hid (show Below w.heap.size w w1 from Below.trans (by repeat (first | (with_reducible exact Below.refl _ _) | (with_reducible refine Below.setCell ?_ ?_ _) | (with_reducible refine Below.alloc ?_ ?_ _) | (with_reducible refine Below.drewN ?_ _) | (with_reducible refine Below.drew ?_) | (with_reducible exact Nat.le_refl _) | (focus (simp only [World.size_alloc, World.size_setCell, World.size_drew, World.size_drewN]; omega)) | omega | exact Nat.le_refl _ | (focus (simp; done)) | (focus (simp; omega)))) (hb1.mono (by simp)))
    have HO1 := Lib.hid ho1
    clear ho1 hb1 hbk
    have hlen : (sortI (fun k => (loadN es k : Int)) ns).length = ns.length := by simp [sortI]
    obtain ⟨l, hll⟩ : ∃ l, l = sortI (fun k => (loadN es k : Int)) ns := ⟨_, rfl⟩
    rw [← hll] at hlen HO1
    have HLL := Lib.hid hll
    clear hll
    obtain ⟨x, y, z, r, rfl⟩ : ∃ x y z r, l = x :: y :: z :: r := by
      match l, hlen with
      | [], h => simp at h; omega
      | [_], h => simp at h; omega
      | [_, _], h => simp at h; omega
      | x :: y :: z :: r, _ => exact ⟨x, y, z, r, rfl⟩
    obtain ⟨g, hg⟩ : ∃ g, a1 = some ⟨g, 0, none⟩ := by
      rcases HO1.out.2 with ⟨e, h0⟩ | ⟨g, _, _, e, _⟩
      · omega
      · simp only [Value.slice.injEq] at e
        exact ⟨g, e.1⟩
    subst hg
    have hcc := (owns_cap HO1.out).1
    have hc3 : (3 : Int) ≤ (c1 : Int) := by omega
    have k0 := HO1.out.cellAt 0 (by omega)
    have k1 := HO1.out.cellAt 1 (by omega)
    have k2 := HO1.out.cellAt 2 (by omega)
    simp at k0 k1 k2
    have hgb := (HO1.out.lt g rfl).1
    simp only [World.size_alloc] at hgb
    clear hlen hcc
    have har : ∀ W : World, (Instr.arrayAt 30 (.slice (some ⟨g, 0, none⟩) 3 c1)).run Try.prog W = .ok (.pointer (some ⟨g, 0, none⟩)) W := fun _ => by kernel_rfl
    go_wp2_with fail
    refine bodyPost_ret (v := .tuple #[.agg #[.int .i64 x, .int .i64 y, .int .i64 z], .nilIface]) ?_ rfl ?_
    · simp [results, Try.results44, go_sem, z0, z1, z2]
    · refine ⟨x, y, z, by rw [if_neg HL.out]; rfl, by rw [if_neg HL.out, ← HLL.out]; rfl, ?_⟩
      (repeat (with_reducible refine Below.setCell ?_ ?_ _; rotate_left; focus (simp; done)))
      exact HB1.out
end Go.Proofs.Ytigkcbnlbdiimaa
