/- Joined texts: PlaceOrd, Place4, Place5, PlaceLv, PlaceIns, Place7, PlaceEven, PlaceLeave. -/
import Derived.Test.YtigkcbnlbdiimaaPm3
/- place.order. -/
namespace Go.Proofs.Ytigkcbnlbdiimaa
open Go.RowKit Go.Maps Go.Sort
/-- slices.Clone at []int,int. -/
theorem clone_info_int : (Try.prog.info? 3).map (fun i => (i.zero, i.size, i.bytes)) = some (some (.int .i64 0), 1, 8) := by kernel_rfl
set_option maxRecDepth 100000 in
set_option maxHeartbeats 1000000 in
theorem clone_int (v : Value) (n : Nat) (xs : List Value) (w : World) (h : Reads w 1 v n xs) (h1 : ∀ u ∈ xs, u.oneCell' = true) (hb : n * 8 ≤ 140737488355328) :
    Calls Try.prog 86 #[v] w (CloneOut w 3 1 v n xs) := by
  obtain ⟨i0, hi, hz0, hz1, hz2⟩ := info_parts clone_info_int
  obtain ⟨hlen, ⟨rfl, rfl⟩ | ⟨a, c, rfl, hm, hcell⟩⟩ := h
  · have hx : xs = [] := List.eq_nil_of_length_eq_zero (by simpa using hlen)
    subst hx
    clear hi hz0 hz1 hz2 hlen h1 hb
    have hne := fun (wx : World) => Lib.run_eql_slice_nil (P := Try.prog) wx 42 3 none 0 0 0 0 Try.underlying42
    go_enter Try.func86, Try.ntmps86
    go_wp2
    go_ret
    exact ⟨_, rfl, World.ownsRow_nil _ _ _ _, Iff.rfl, Below.refl _ _⟩
  · have hne := fun (wx : World) => Lib.run_eql_slice_nil (P := Try.prog) wx 42 3 (some a) n c 0 0 Try.underlying42
    have HI := Lib.hid hi
    have HZ0 := Lib.hid hz0
    have HZ1 := Lib.hid hz1
    have HZ2 := Lib.hid hz2
    have HL := Lib.hid hlen
    have HC := Lib.hid hcell
    have H1 := Lib.hid h1
    clear hi hz0 hz1 hz2 hlen hcell h1
    go_enter Try.func86, Try.ntmps86
    go_wp2_with (at_builtin; refine wpList_append_own _ rfl _ _ 42 rfl w.heap.size 3 i0 (.int .i64 0) 1 8 Try.underlying42 HI.out HZ0.out HZ1.out HZ2.out rfl (by decide) (.slice (some ⟨w.heap.size, 0, none⟩) 0 0) 0 [] rfl (World.ownsRow_lit w #[] 0 (Nat.le_refl _) (by unfold maxLen; omega) rfl) a n c xs rfl HL.out (fun j u hu => cell_later ((Below.refl _ _).alloc (Nat.le_refl _) _) (HC.out j u hu)) H1.out (by omega) (by omega) (by simp) ?_; intro v' w1 hown' hgrow hnil)
    go_ret
    exact ⟨_, rfl, by simpa using hown', by simpa using hnil, (((Below.refl _ _).alloc (Nat.le_refl _) _).grown hgrow (by simp) (by simp [Value.ownBlock]))⟩
def sortI (f : Int → Int) (ns : List Int) : List Int := ns.mergeSort fun x y => !ltP f y x
def toN (n : Int) : Fin 256 := Fin.ofNat 256 n.toNat
theorem toN_val {n : Int} (h : placeB n = true) : ((toN n).val : Int) = n := by
  simp [placeB] at h
  unfold toN
  simp only [Fin.ofNat]
  omega
theorem encN_toN {n : Int} (h : placeB n = true) : encN (toN n) = .int .i64 n := by
  unfold encN
  rw [toN_val h]
theorem right_nodes {ns : List Int} (h : rightB ns = true) : ns.length ≤ 64 ∧ ∀ x ∈ ns, placeB x = true := by
  simp only [rightB, prefOk, Bool.and_eq_true, decide_eq_true_eq, List.all_eq_true, List.mem_range] at h
  refine ⟨h.1, fun x hx => ?_⟩
  obtain ⟨i, hi, rfl⟩ := List.getElem_of_mem hx
  have := (h.2 i hi).1
  simpa [hi] using this
theorem sort_map (f : Int → Int) (ns : List Int) (h : ∀ x ∈ ns, placeB x = true) : ((ns.map toN).mergeSort fun x y => !(ltOf (cfP f)) y x).map encN = (sortI f ns).map (Value.int .i64) := by
  have e : ns = (ns.map toN).map (fun i => (i.val : Int)) := by
    rw [List.map_map]
    conv => lhs; rw [← List.map_id ns]
    exact List.map_congr_left fun x hx => (toN_val (h x hx)).symm
  have h1 : ((ns.map toN).mergeSort fun x y => !(ltOf (cfP f)) y x).map (fun i => (i.val : Int)) = sortI f ns := by
    unfold sortI
    conv => rhs; rw [e]
    exact List.map_mergeSort fun a _ b _ => by rw [ltOf_cfP]
  rw [← h1, List.map_map]
  rfl
/-- A row of nodes behind the sort. -/
theorem sorted_row {w : World} {base g cap m n : Nat} {xs : List Value} {d : Array (Fin 256)} (os : Array Obj) (h : w.ownsRow base 3 1 (.slice (some ⟨g, 0, none⟩) n cap) n xs) (hd : d.size = n) :
    (Go.Proofs.sortWorld encN w g 0 m d os).ownsRow base 3 1 (.slice (some ⟨g, 0, none⟩) n cap) n (d.toList.map encN) := by
  rcases h.2 with ⟨h', _⟩ | ⟨g', cap', cur, h', hb, hg, hnc, hcm, hcs, htake⟩
  · cases h'
  · simp only [Value.slice.injEq, Option.some.injEq, Addr.mk.injEq, and_true, true_and] at h'
    obtain ⟨rfl, rfl⟩ := h'
    have hlt := (Array.getElem?_eq_some_iff.1 hg).1
    refine ⟨by simp [hd], .inr ⟨g, cap, putCells encN 0 d cur, rfl, hb, ?_, hnc, hcm, by simp [putCells, hcs], ?_⟩⟩
    · show ((w.heap.modify g _) ++ os)[g]? = _
      rw [Array.getElem?_append_left (by simpa using hlt), Array.getElem?_modify]
      simp [hg, onCells]
    · apply List.ext_getElem?
      intro j
      rw [Nat.mul_one]
      by_cases hj : j < n
      · rw [List.getElem?_take_of_lt hj]
        have hjc : j < cur.size := by omega
        have hjd : j < d.size := by omega
        simp [putCells, hjc, hjd, hj]
      · rw [List.getElem?_eq_none (by simp; omega), List.getElem?_eq_none (by simp; omega)]
set_option maxRecDepth 100000 in
set_option maxHeartbeats 2000000 in
theorem order_any (f : Int → Int) (mb n : Nat) (ns : List Int) (v : Value) (w : World) (hm : MapIs w mb n f) (hr : Reads w 1 v ns.length (ns.map (Value.int .i64))) (hok : rightB ns = true) :
    Calls Try.prog 72 #[.map (some mb), v] w fun e w' => ∃ v', e = .returned v' ∧ w'.ownsRow w.heap.size 3 1 v' ns.length ((sortI f ns).map (Value.int .i64)) ∧ Below w.heap.size w w' := by
  obtain ⟨hl64, hpl⟩ := right_nodes hok
  have HM := Lib.hid hm
  have hml := hm.lt
  have HR := Lib.hid hr
  have HPL := Lib.hid hpl
  clear hm hr hok hpl
  go_enter Try.func72, Try.ntmps72
  go_wp2_with fail
  refine (clone_int v ns.length (ns.map (Value.int .i64)) _ (HR.out.below (by repeat (first | (with_reducible exact Below.refl _ _) | (with_reducible refine Below.setCell ?_ ?_ _) | (with_reducible refine Below.alloc ?_ ?_ _) | (with_reducible refine Below.drewN ?_ _) | (with_reducible refine Below.drew ?_) | (with_reducible exact Nat.le_refl _) | (focus (simp only [World.size_alloc, World.size_setCell, World.size_drew, World.size_drewN]; omega)) | omega | exact Nat.le_refl _ | (focus (simp; done)) | (focus (simp; omega))))) (fun u hu => by obtain ⟨x, _, rfl⟩ := List.mem_map.1 hu; rfl) (by omega)).mono ?_
  rintro e w1 ⟨v1, rfl, ho1, _, hb1⟩
  have HO1 := Lib.hid ho1
  have hz1 := hb1.size
  simp only [World.size_alloc] at hz1
  have hbk := hb1.block w.heap.size (by simp)
  rw [heap_alloc_new] at hbk
  have kb := (cell_of_row w1 w.heap.size 0 _ _ _ hbk)
  have HB1 := Lib.hid (show Below w.heap.size w w1 from Below.trans (by repeat (first | (with_reducible exact Below.refl _ _) | (with_reducible refine Below.setCell ?_ ?_ _) | (with_reducible refine Below.alloc ?_ ?_ _) | (with_reducible refine Below.drewN ?_ _) | (with_reducible refine Below.drew ?_) | (with_reducible exact Nat.le_refl _) | (focus (simp only [World.size_alloc, World.size_setCell, World.size_drew, World.size_drewN]; omega)) | omega | exact Nat.le_refl _ | (focus (simp; done)) | (focus (simp; omega)))) (hb1.mono (by simp)))
  have HM1 := Lib.hid (HM.out.below HB1.out)
  clear ho1 hb1 hbk
  have eg : ∀ args w, (callFunc 88 args).run Try.prog w = .ok (.enter 88 args) w := enters_of Try.func88 (by kernel_rfl) rfl
  rcases HO1.out.2 with ⟨hv, h0⟩ | ⟨g, cap, cur, hv, hg, hh, _⟩
  · subst hv
    have hns : ns = [] := List.eq_nil_of_length_eq_zero h0
    have HNS := Lib.hid hns
    clear hns h0 eg
    go_wp2_with fail
    refine (Try.slices_SortFunc_none (α := Fin 256) none 0 _ _).mono ?_
    rintro e w2 ⟨rfl, rfl⟩
    go_wp2_with fail
    go_ret
    refine ⟨.slice none 0 0, rfl, ?_, HB1.out⟩
    rw [HNS.out]
    simpa [sortI] using World.ownsRow_nil w2 w.heap.size 3 1
  · subst hv
    have hS := fun W (h1 : CmpLays1 Try.prog 88 #[.pointer (some ⟨w.heap.size, 0, none⟩)] encN (cfP f) g 0 (ns.map toN).toArray.size W) (h2 : Holds encN W g 0 (ns.map toN).toArray) (h3 : g < W.heap.size) => Try.slices_SortFunc_total encN (fun _ => rfl) (cfP f) (swoP f) 88 #[.pointer (some ⟨w.heap.size, 0, none⟩)] g 0 cap (ns.map toN).toArray W eg h1 h2 h3 (by simp; omega) (totP f)
    simp only [List.size_toArray, List.length_map] at hS
    have hgb : w.heap.size + 1 ≤ g := by simpa using hg
    have hgl := (HO1.out.lt g rfl).2
    have hcmp := cmpLays f mb n w.heap.size g 0 ns.length w1 HM1.out kb (by omega) (by omega) (by omega)
    have hh0 : Holds encN w1 g 0 (ns.map toN).toArray := by
      intro j hj
      have hj' : j < ns.length := by simpa using hj
      refine ⟨?_, HO1.out.frozenAt _⟩
      rw [Nat.zero_add, HO1.out.cellAt j (by omega), List.getElem?_map, List.getElem?_eq_getElem hj']
      simp only [Option.map_some]
      rw [getElem!_pos _ j (by simpa using hj')]
      simp only [List.getElem_toArray, List.getElem_map]
      rw [encN_toN (HPL.out _ (List.getElem_mem hj'))]
    have HS := Lib.hid (hS w1 hcmp hh0 hgl)
    clear hS eg hcmp hh0 hh
    go_wp2_with fail
    refine HS.out.mono ?_
    rintro e w2 ⟨rfl, m, os, rfl⟩
    have ho2 := sorted_row (m := m) (d := ((ns.map toN).mergeSort fun x y => !(ltOf (cfP f)) y x).toArray) os HO1.out (by simp)
    simp only [List.toList_toArray] at ho2
    rw [sort_map f ns HPL.out] at ho2
    have hbl : ∀ k, k < w1.heap.size → k ≠ g → (Go.Proofs.sortWorld encN w1 g 0 m ((ns.map toN).mergeSort fun x y => !(ltOf (cfP f)) y x).toArray os).heap[k]? = w1.heap[k]? := fun k hk hne => sortWorld_block encN w1 g 0 m k _ os hk hne
    have hB2 : Below w.heap.size w (Go.Proofs.sortWorld encN w1 g 0 m ((ns.map toN).mergeSort fun x y => !(ltOf (cfP f)) y x).toArray os) :=
      HB1.out.trans ⟨rfl, rfl, rfl, by show w1.heap.size ≤ ((w1.heap.modify g _) ++ os).size; simp, fun k hk => hbl k (by omega) (by omega)⟩
    have HO2 := Lib.hid ho2
    have HB2 := Lib.hid hB2
    clear ho2 hB2 hbl
    generalize Go.Proofs.sortWorld encN w1 g 0 m ((ns.map toN).mergeSort fun x y => !(ltOf (cfP f)) y x).toArray os = w2 at *
    go_wp2_with fail
    go_ret
    exact ⟨_, rfl, ownsRow_mono HO2.out (by simp), HB2.out⟩
end Go.Proofs.Ytigkcbnlbdiimaa

/- place.Load, Order, Pick, New. -/
namespace Go.Proofs.Ytigkcbnlbdiimaa
open Go.RowKit
theorem len_onVols (es : List Ent) (node : Int) : (onVols node es).length = loadN es node := by
  unfold onVols loadN
  rw [List.length_map, List.countP_eq_length_filter]
  congr 1
  apply List.filter_congr
  intro x _
  unfold onB hasB
  simp only [List.contains_cons, List.contains_nil, Bool.or_false]
  rw [BEq.comm (a := node) (b := x.n0), BEq.comm (a := node) (b := x.n1), BEq.comm (a := node) (b := x.n2), Bool.or_assoc]
set_option maxHeartbeats 400000 in
theorem pload_any (base bm : Nat) (v : Value) (es : List Ent) (node : Int) (w : World) (h : MapAt w base bm v es) :
    Calls Try.prog 45 #[.pointer (some ⟨bm, 0, none⟩), .int .i64 node] w fun e w' => e = .returned (.int .i64 (loadN es node)) ∧ Below w.heap.size w w' := by
  have HL := Lib.hid (len_onVols es node)
  have H := Lib.hid h
  clear h
  go_enter Try.func45, Try.ntmps45
  go_wp2_with fail
  refine (on_any _ _ _ _ _ _ H.out).mono ?_
  rintro e w1 ⟨v1, rfl, ho1, hb1⟩
  obtain ⟨a1, c1, rfl⟩ := ownsRow_len ho1
  have HB := Lib.hid hb1
  clear ho1 hb1
  go_wp2_with fail
  go_ret
  exact ⟨by rw [← HL.out]; rfl, HB.out⟩
set_option maxHeartbeats 1000000 in
theorem porder_bad (base bm : Nat) (v va : Value) (es : List Ent) (ns : List Int) (w : World) (h : MapAt w base bm v es) (hr : Reads w 1 va ns.length (ns.map (Value.int .i64))) (hcap : ∀ a n c, va = .slice a n c → n ≤ c) (hok : rightB ns = false) :
    Calls Try.prog 43 #[.pointer (some ⟨bm, 0, none⟩), va] w fun e w' => e = .returned (.tuple #[.slice none 0 0, errV 1]) ∧ w = w' := by
  obtain ⟨ao, cap, rfl⟩ := reads_len hr
  have HR := Lib.hid hr
  have HCAP := Lib.hid (hcap _ _ _ rfl)
  have HOK := Lib.hid hok
  have HN := Lib.hid (errV_ne (k := 1) (by omega))
  clear h hr hcap hok
  go_enter Try.func43, Try.ntmps43
  go_wp2_with fail
  refine (right27_any _ ns cap ao _ rfl HR.out HCAP.out).mono ?_
  rintro e w' ⟨rfl, rfl⟩
  rw [HOK.out]
  go_wp2_with fail
  go_ret2
  exact ⟨by rw [HN.out]; rfl, rfl⟩
set_option maxHeartbeats 1000000 in
theorem porder_any (base bm : Nat) (v va : Value) (es : List Ent) (ns : List Int) (w : World) (h : MapAt w base bm v es) (hno : NodesOk es) (hr : Reads w 1 va ns.length (ns.map (Value.int .i64))) (hcap : ∀ a n c, va = .slice a n c → n ≤ c) (hok : rightB ns = true) :
    Calls Try.prog 43 #[.pointer (some ⟨bm, 0, none⟩), va] w
      fun e w' => ∃ v', e = .returned (.tuple #[v', .nilIface]) ∧ w'.ownsRow w.heap.size 3 1 v' ns.length ((sortI (fun k => (loadN es k : Int)) ns).map (Value.int .i64)) ∧ Below w.heap.size w w' := by
  obtain ⟨ao, cap, rfl⟩ := reads_len hr
  have HR := Lib.hid hr
  have HCAP := Lib.hid (hcap _ _ _ rfl)
  have HOK := Lib.hid hok
  have HNO := Lib.hid hno
  have hfew := h.few
  have H := Lib.hid h
  clear h hr hcap hok hno
  go_enter Try.func43, Try.ntmps43
  go_wp2_with fail
  refine (right27_any _ ns cap ao _ rfl HR.out HCAP.out).mono ?_
  rintro e w' ⟨rfl, rfl⟩
  rw [HOK.out]
  go_wp2_with fail
  refine (all_any _ _ _ _ _ H.out).mono ?_
  rintro e w1 ⟨v1, rfl, ho1, _, hb1⟩
  have HO1 := Lib.hid ho1
  have HB1 := Lib.hid hb1
  have hz1 := hb1.size
  clear ho1 hb1
  go_wp2_with fail
  refine (loads_any _ _ es _ HO1.out hfew HNO.out).mono ?_
  rintro e w2 ⟨n2, rfl, _, hm2, hb2⟩
  have HM2 := Lib.hid hm2
  have HB2 := Lib.hid (HB1.out.trans (hb2.mono hz1))
  have hz2 := hb2.size
  clear hm2 hb2
  go_wp2_with fail
  refine (order_any _ _ n2 ns _ _ HM2.out (HR.out.below HB2.out) HOK.out).mono ?_
  rintro e w3 ⟨v3, rfl, ho3, hb3⟩
  have HO3 := Lib.hid ho3
  have HB3 := Lib.hid (HB2.out.trans (hb3.mono (by omega)))
  clear ho3 hb3
  go_wp2_with fail
  go_ret2
  exact ⟨_, rfl, ownsRow_mono HO3.out (by omega), HB3.out⟩
/-- What Pick gives. -/
def three (l : List Int) : Value := .agg #[.int .i64 (l.getD 0 0), .int .i64 (l.getD 1 0), .int .i64 (l.getD 2 0)]
set_option maxHeartbeats 1000000 in
theorem pick_bad (base bm : Nat) (v va : Value) (es : List Ent) (ns : List Int) (w : World) (h : MapAt w base bm v es) (hr : Reads w 1 va ns.length (ns.map (Value.int .i64))) (hcap : ∀ a n c, va = .slice a n c → n ≤ c) (hok : rightB ns = false) :
    Calls Try.prog 44 #[.pointer (some ⟨bm, 0, none⟩), va] w fun e w' => e = .returned (.tuple #[.agg #[.int .i64 0, .int .i64 0, .int .i64 0], errV 1]) ∧ Below w.heap.size w w' := by
  have HN := Lib.hid (errV_ne (k := 1) (by omega))
  have HO := Lib.hid (fun W (hb : Below w.heap.size w W) => porder_bad base bm v va es ns W (h.below hb) (hr.below hb) hcap hok)
  clear h hr hcap hok
  go_enter Try.func44, Try.ntmps44
  go_wp2_with fail
  refine (HO.out _ (by repeat (first | (with_reducible exact Below.refl _ _) | (with_reducible refine Below.setCell ?_ ?_ _) | (with_reducible refine Below.alloc ?_ ?_ _) | (with_reducible refine Below.drewN ?_ _) | (with_reducible refine Below.drew ?_) | (with_reducible exact Nat.le_refl _) | (focus (simp only [World.size_alloc, World.size_setCell, World.size_drew, World.size_drewN]; omega)) | omega | exact Nat.le_refl _ | (focus (simp; done)) | (focus (simp; omega))))).mono ?_
  rintro e w1 ⟨rfl, rfl⟩
  rw [HN.out]
  go_wp2_with fail
  refine bodyPost_ret (v := .tuple #[.agg #[.int .i64 0, .int .i64 0, .int .i64 0], .iface 106 (.int .i64 1)]) ?_ rfl ?_
  · simp [results, Try.results44, go_sem]
  · exact ⟨by rw [HN.out], (by repeat (first | (with_reducible exact Below.refl _ _) | (with_reducible refine Below.setCell ?_ ?_ _) | (with_reducible refine Below.alloc ?_ ?_ _) | (with_reducible refine Below.drewN ?_ _) | (with_reducible refine Below.drew ?_) | (with_reducible exact Nat.le_refl _) | (focus (simp only [World.size_alloc, World.size_setCell, World.size_drew, World.size_drewN]; omega)) | omega | exact Nat.le_refl _ | (focus (simp; done)) | (focus (simp; omega))))⟩
def PickOut (es : List Ent) (ns : List Int) (w : World) (e : Ending) (w' : World) : Prop :=
  ∃ a b c, e = .returned (.tuple #[.agg #[.int .i64 a, .int .i64 b, .int .i64 c], errV (if ns.length < 3 then 11 else 0)]) ∧ (if ns.length < 3 then a = 0 ∧ b = 0 ∧ c = 0 else [a, b, c] = (sortI (fun k => (loadN es k : Int)) ns).take 3) ∧ Below w.heap.size w w'
set_option maxRecDepth 100000 in
set_option maxHeartbeats 1000000 in
theorem pick_any (base bm : Nat) (v va : Value) (es : List Ent) (ns : List Int) (w : World) (h : MapAt w base bm v es) (hno : NodesOk es) (hr : Reads w 1 va ns.length (ns.map (Value.int .i64))) (hcap : ∀ a n c, va = .slice a n c → n ≤ c) (hok : rightB ns = true) :
    Calls Try.prog 44 #[.pointer (some ⟨bm, 0, none⟩), va] w
      (PickOut es ns w) := by
  have HO := Lib.hid (fun W (hb : Below w.heap.size w W) => porder_any base bm v va es ns W (h.below hb) hno (hr.below hb) hcap hok)
  clear h hr hcap hok hno
  by_cases hl : ns.length < 3
  · have HN := Lib.hid (errV_ne (k := 11) (by omega))
    have hd : decide ((ns.length : Int) < 3) = true := by simp; omega
    have HL := Lib.hid hl
    clear hl
    go_enter Try.func44, Try.ntmps44
    go_wp2_with fail
    refine (HO.out _ (by repeat (first | (with_reducible exact Below.refl _ _) | (with_reducible refine Below.setCell ?_ ?_ _) | (with_reducible refine Below.alloc ?_ ?_ _) | (with_reducible refine Below.drewN ?_ _) | (with_reducible refine Below.drew ?_) | (with_reducible exact Nat.le_refl _) | (focus (simp only [World.size_alloc, World.size_setCell, World.size_drew, World.size_drewN]; omega)) | omega | exact Nat.le_refl _ | (focus (simp; done)) | (focus (simp; omega))))).mono ?_
    rintro e w1 ⟨v1, rfl, ho1, hb1⟩
    obtain ⟨a1, c1, rfl⟩ := ownsRow_len ho1
    have hbk := hb1.block w.heap.size (by simp)
    rw [heap_alloc_new] at hbk
    have z0 := cell_of_row w1 w.heap.size 0 _ _ _ hbk
    have z1 := cell_of_row w1 w.heap.size 1 _ _ _ hbk
    have z2 := cell_of_row w1 w.heap.size 2 _ _ _ hbk
    have zf := fun o => frozen_of_row w1 w.heap.size o _ _ hbk
    simp at z0 z1 z2
    have hz1 := hb1.size
    simp only [World.size_alloc] at hz1
    have HB1 := Lib.hid (show Below w.heap.size w w1 from Below.trans (by repeat (first | (with_reducible exact Below.refl _ _) | (with_reducible refine Below.setCell ?_ ?_ _) | (with_reducible refine Below.alloc ?_ ?_ _) | (with_reducible refine Below.drewN ?_ _) | (with_reducible refine Below.drew ?_) | (with_reducible exact Nat.le_refl _) | (focus (simp only [World.size_alloc, World.size_setCell, World.size_drew, World.size_drewN]; omega)) | omega | exact Nat.le_refl _ | (focus (simp; done)) | (focus (simp; omega)))) (hb1.mono (by simp)))
    have HO1 := Lib.hid ho1
    clear ho1 hb1 hbk
    go_wp2_with fail
    refine bodyPost_ret (v := .tuple #[.agg #[.int .i64 0, .int .i64 0, .int .i64 0], .iface 106 (.int .i64 11)]) ?_ rfl ?_
    · simp [results, Try.results44, go_sem, z0, z1, z2]
    · refine ⟨0, 0, 0, by rw [if_pos HL.out, HN.out], by rw [if_pos HL.out]; exact ⟨rfl, rfl, rfl⟩, ?_⟩
      (repeat (with_reducible refine Below.setCell ?_ ?_ _; rotate_left; focus (simp; done)))
      exact HB1.out
  · have hd : decide ((ns.length : Int) < 3) = false := by simp; omega
    have hn3 : (3 : Int) ≤ (ns.length : Int) := by omega
    have hn3' : 3 ≤ ns.length := by omega
    have HL := Lib.hid hl
    clear hl
    go_enter Try.func44, Try.ntmps44
    go_wp2_with fail
    refine (HO.out _ (by repeat (first | (with_reducible exact Below.refl _ _) | (with_reducible refine Below.setCell ?_ ?_ _) | (with_reducible refine Below.alloc ?_ ?_ _) | (with_reducible refine Below.drewN ?_ _) | (with_reducible refine Below.drew ?_) | (with_reducible exact Nat.le_refl _) | (focus (simp only [World.size_alloc, World.size_setCell, World.size_drew, World.size_drewN]; omega)) | omega | exact Nat.le_refl _ | (focus (simp; done)) | (focus (simp; omega))))).mono ?_
    rintro e w1 ⟨v1, rfl, ho1, hb1⟩
    obtain ⟨a1, c1, rfl⟩ := ownsRow_len ho1
    have hbk := hb1.block w.heap.size (by simp)
    rw [heap_alloc_new] at hbk
    have z0 := cell_of_row w1 w.heap.size 0 _ _ _ hbk
    have z1 := cell_of_row w1 w.heap.size 1 _ _ _ hbk
    have z2 := cell_of_row w1 w.heap.size 2 _ _ _ hbk
    have zf := fun o => frozen_of_row w1 w.heap.size o _ _ hbk
    simp at z0 z1 z2
    have hz1 := hb1.size
    simp only [World.size_alloc] at hz1
    have HB1 := Lib.hid (show Below w.heap.size w w1 from Below.trans (by repeat (first | (with_reducible exact Below.refl _ _) | (with_reducible refine Below.setCell ?_ ?_ _) | (with_reducible refine Below.alloc ?_ ?_ _) | (with_reducible refine Below.drewN ?_ _) | (with_reducible refine Below.drew ?_) | (with_reducible exact Nat.le_refl _) | (focus (simp only [World.size_alloc, World.size_setCell, World.size_drew, World.size_drewN]; omega)) | omega | exact Nat.le_refl _ | (focus (simp; done)) | (focus (simp; omega)))) (hb1.mono (by simp)))
    have HO1 := Lib.hid ho1
    clear ho1 hb1 hbk
    have hlen : (sortI (fun k => (loadN es k : Int)) ns).length = ns.length := by simp [sortI]
    obtain ⟨l, hll⟩ : ∃ l, l = sortI (fun k => (loadN es k : Int)) ns := ⟨_, rfl⟩
    rw [← hll] at hlen HO1
    have HLL := Lib.hid hll
    clear hll
    obtain ⟨x, y, z, r, rfl⟩ : ∃ x y z r, l = x :: y :: z :: r := by
      match l, hlen with
      | [], h => simp at h; omega
      | [_], h => simp at h; omega
      | [_, _], h => simp at h; omega
      | x :: y :: z :: r, _ => exact ⟨x, y, z, r, rfl⟩
    obtain ⟨g, hg⟩ : ∃ g, a1 = some ⟨g, 0, none⟩ := by
      rcases HO1.out.2 with ⟨e, h0⟩ | ⟨g, _, _, e, _⟩
      · omega
      · simp only [Value.slice.injEq] at e
        exact ⟨g, e.1⟩
    subst hg
    have hcc := (owns_cap HO1.out).1
    have hc3 : (3 : Int) ≤ (c1 : Int) := by omega
    have k0 := HO1.out.cellAt 0 (by omega)
    have k1 := HO1.out.cellAt 1 (by omega)
    have k2 := HO1.out.cellAt 2 (by omega)
    simp at k0 k1 k2
    have hgb := (HO1.out.lt g rfl).1
    simp only [World.size_alloc] at hgb
    clear hlen hcc
    have har : ∀ W : World, (Instr.arrayAt 30 (.slice (some ⟨g, 0, none⟩) 3 c1)).run Try.prog W = .ok (.pointer (some ⟨g, 0, none⟩)) W := fun _ => by kernel_rfl
    go_wp2_with fail
    refine bodyPost_ret (v := .tuple #[.agg #[.int .i64 x, .int .i64 y, .int .i64 z], .nilIface]) ?_ rfl ?_
    · simp [results, Try.results44, go_sem, z0, z1, z2]
    · refine ⟨x, y, z, by rw [if_neg HL.out]; rfl, by rw [if_neg HL.out, ← HLL.out]; rfl, ?_⟩
      (repeat (with_reducible refine Below.setCell ?_ ?_ _; rotate_left; focus (simp; done)))
      exact HB1.out
end Go.Proofs.Ytigkcbnlbdiimaa

/- corncriblaw27.made; place.New; nodes stay apart. -/
namespace Go.Proofs.Ytigkcbnlbdiimaa
open Go.RowKit
theorem turn_nodes {x : Ent} {c : Cmd} (hk : 2 ≤ c.kind) (hk2 : c.kind ≤ 4) (ht : turnE x c = 0) (hx : placeB x.n0 = true ∧ placeB x.n1 = true ∧ placeB x.n2 = true ∧ x.n0 ≠ x.n1 ∧ x.n0 ≠ x.n2 ∧ x.n1 ≠ x.n2) :
    placeB (turnX x c).n0 = true ∧ placeB (turnX x c).n1 = true ∧ placeB (turnX x c).n2 = true ∧ (turnX x c).n0 ≠ (turnX x c).n1 ∧ (turnX x c).n0 ≠ (turnX x c).n2 ∧ (turnX x c).n1 ≠ (turnX x c).n2 := by
  obtain ⟨p0, p1, p2, d1, d2, d3⟩ := hx
  rcases turn_ways hk hk2 ht with ⟨_, _, e⟩ | ⟨_, _, e⟩ | ⟨_, hp, h0, h1, h2, ⟨_, e⟩ | ⟨_, e⟩ | ⟨_, e⟩⟩
  · rw [e]; exact ⟨p0, p1, p2, d1, d2, d3⟩
  · rw [e]; exact ⟨p0, p1, p2, d1, d2, d3⟩
  · simp at h0 h1 h2
    rw [e]; exact ⟨hp, p1, p2, Ne.symm h1, Ne.symm h2, d3⟩
  · simp at h0 h1 h2
    rw [e]; exact ⟨p0, hp, p2, h0, d2, Ne.symm h2⟩
  · simp at h0 h1 h2
    rw [e]; exact ⟨p0, p1, hp, d1, h0, h1⟩
theorem three_nodes {a b c : Int} (h : threeB a b c = true) : placeB a = true ∧ placeB b = true ∧ placeB c = true ∧ a ≠ b ∧ a ≠ c ∧ b ≠ c := by
  obtain ⟨h1, h2, h3, h4, h5, h6⟩ := three_yes h
  exact ⟨h1, h2, h3, by simpa using h4, by simpa using h5, by simpa using h6⟩
theorem nodes_do (es : List Ent) (c : Cmd) (h : NodesOk es) : NodesOk (doEs es c) := by
  unfold doEs
  split
  · split
    · rename_i ht
      intro x hx
      rcases List.mem_append.1 hx with hx | hx
      · exact h x hx
      · simp at hx
        subst hx
        exact three_nodes (by simp_all)
    · exact h
  · split
    · rename_i hk
      split
      · split
        · rename_i x hx
          split
          · rename_i ht
            intro y hy
            rcases List.mem_or_eq_of_mem_set hy with hy | rfl
            · exact h y hy
            · exact turn_nodes (by omega) (by omega) ht.2 (h x (List.mem_of_getElem? hx))
          · exact h
        · exact h
      · exact h
    · exact h
theorem nodes_all (cs : List Cmd) : ∀ (es : List Ent), NodesOk es → NodesOk (doAll es cs) := by
  induction cs with
  | nil => intro es h; exact h
  | cons c cs ih => intro es h; exact ih _ (nodes_do es c h)
theorem doAll_few (log : List Cmd) : ∀ (es : List Ent), (doAll es log).length ≤ es.length + log.length := by
  induction log with
  | nil => intro es; simp [doAll]
  | cons c log ih =>
    intro es
    have h1 := (doEs_len es c).2
    have h2 := ih (doEs es c)
    simp only [doAll, List.foldl_cons, List.length_cons] at h2 ⊢
    omega
/-- A row of the document's entries lies apart from a map. -/
theorem DoOut.beside {w w' : World} {B bm b n : Nat} {v xv : Value} {es es' : List Ent} {m k : Int} {e : Ending} {xs : List Value} (h : DoOut w B bm v es' m k e w') (hm : MapAt w B bm v es)
    (hr : w.ownsRow b 128 6 xv n xs) : w'.ownsRow b 128 6 xv n xs := by
  obtain ⟨_, _, _, _, hk⟩ := h
  refine ownsRow_keeps hr hk fun g hg hf => ?_
  rcases hr.2 with ⟨rfl, _⟩ | ⟨g', cap, cur, rfl, _, hh, _⟩
  · cases hg
  · simp only [Value.ownBlock, Option.some.injEq] at hg
    subst hg
    rcases hf with rfl | hf
    · rw [hm.blk] at hh
      simp only [Option.some.injEq, Obj.cells.injEq] at hh
      exact absurd hh.2.1 (by decide)
    · rcases hm.row.2 with ⟨e, _⟩ | ⟨g2, cap2, cur2, e, _, hh2, _⟩
      · rw [e] at hf; cases hf
      · rw [e] at hf
        simp only [Value.ownBlock, Option.some.injEq] at hf
        subst hf
        rw [hh2] at hh
        simp only [Option.some.injEq, Obj.cells.injEq] at hh
        exact absurd hh.2.1 (by decide)
end Go.Proofs.Ytigkcbnlbdiimaa

/- place.Leave, Even: the plain law; the closure of Leave; what it leaves of a row of nodes. -/
namespace Go.Proofs.Ytigkcbnlbdiimaa
open Go.RowKit Go.Maps Go.Sort
/-- A move. -/
structure Mv where
  vol : Int
  epoch : Int
  spot : Int
  node : Int
def Mv.row (m : Mv) : List Value := [.int .i64 m.vol, .int .i64 m.epoch, .int .i64 m.spot, .int .i64 m.node]
theorem Mv.row_len (m : Mv) : m.row.length = 4 := rfl
/-- An entry whose node n went to t. -/
def Ent.mv (x : Ent) (n t : Int) : Ent := if x.n0 = n then { x with n0 := t } else if x.n1 = n then { x with n1 := t } else if x.n2 = n then { x with n2 := t } else x
def Apart3 (x : Ent) : Prop := x.n0 ≠ x.n1 ∧ x.n0 ≠ x.n2 ∧ x.n1 ≠ x.n2
theorem has_mv {x : Ent} {n t : Int} (hd : Apart3 x) (hn : hasB x n = true) (ht : hasB x t = false) (j : Int) : hasB (x.mv n t) j = (decide (j = t) || (hasB x j && !decide (j = n))) := by
  obtain ⟨v, e, a, b, c, s⟩ := x
  obtain ⟨h1, h2, h3⟩ := hd
  simp only [hasB, Bool.or_eq_true, Bool.or_eq_false_iff, beq_iff_eq, beq_eq_false_iff_ne, ne_eq] at *
  rw [Bool.eq_iff_iff]
  unfold Ent.mv
  by_cases ha : a = n
  · simp only [ha, if_true]
    simp
    omega
  · by_cases hb : b = n
    · simp only [ha, hb, if_true, if_false]
      simp
      omega
    · have hc : c = n := by omega
      simp only [ha, hb, hc, if_true, if_false]
      simp
      omega
theorem mv_nodes {x : Ent} {n t : Int} (hp : placeB t = true) (hn : hasB x n = true) (ht : hasB x t = false) (hx : placeB x.n0 = true ∧ placeB x.n1 = true ∧ placeB x.n2 = true ∧ x.n0 ≠ x.n1 ∧ x.n0 ≠ x.n2 ∧ x.n1 ≠ x.n2) :
    placeB (x.mv n t).n0 = true ∧ placeB (x.mv n t).n1 = true ∧ placeB (x.mv n t).n2 = true ∧ (x.mv n t).n0 ≠ (x.mv n t).n1 ∧ (x.mv n t).n0 ≠ (x.mv n t).n2 ∧ (x.mv n t).n1 ≠ (x.mv n t).n2 := by
  obtain ⟨v, e, a, b, c, s⟩ := x
  obtain ⟨p0, p1, p2, h1, h2, h3⟩ := hx
  simp only [hasB, Bool.or_eq_true, Bool.or_eq_false_iff, beq_iff_eq, beq_eq_false_iff_ne, ne_eq] at *
  unfold Ent.mv
  by_cases ha : a = n
  · simp only [ha, if_true]
    exact ⟨hp, p1, p2, by omega, by omega, by omega⟩
  · by_cases hb : b = n
    · simp only [ha, hb, if_true, if_false]
      exact ⟨p0, hp, p2, by omega, by omega, by omega⟩
    · have hc : c = n := by omega
      simp only [ha, hb, hc, if_true, if_false]
      exact ⟨p0, p1, hp, by omega, by omega, by omega⟩
theorem load_set {l : List Ent} {k : Nat} {x : Ent} {n t : Int} (hx : l[k]? = some x) (hd : Apart3 x) (hn : hasB x n = true) (ht : hasB x t = false) (j : Int) :
    (loadN (l.set k (x.mv n t)) j : Int) = if j = t then (loadN l t : Int) + 1 else if j = n then (loadN l n : Int) - 1 else loadN l j := by
  obtain ⟨hk, hx'⟩ := List.getElem?_eq_some_iff.1 hx
  have h := List.countP_set (p := fun y => hasB y j) (l := l) (i := k) (a := x.mv n t) hk
  have hle : (if hasB l[k] j = true then 1 else 0) ≤ l.countP fun y => hasB y j := by
    by_cases hh : hasB l[k] j = true
    · rw [if_pos hh]
      exact List.countP_pos_iff.2 ⟨_, List.getElem_mem hk, hh⟩
    · rw [if_neg hh]
      exact Nat.zero_le _
  unfold loadN
  rw [h]
  rw [hx'] at hle ⊢
  rw [has_mv hd hn ht]
  have hnt : n ≠ t := fun e => by rw [e, ht] at hn; cases hn
  by_cases h1 : j = t
  · subst h1
    simp only [ht, if_true]
    simp
  · by_cases h2 : j = n
    · subst h2
      rw [hn] at hle ⊢
      simp only [h1, if_true, if_false, decide_false, decide_true, Bool.false_or, Bool.not_true, Bool.and_false, Bool.false_eq_true] at hle ⊢
      omega
    · simp only [h1, h2, decide_false, decide_true, Bool.false_or, Bool.not_false, Bool.and_true, if_false] at hle ⊢
      cases hb : hasB x j
      · simp
      · rw [hb] at hle
        simp only [if_true] at hle ⊢
        omega
theorem nodes_set {l : List Ent} {k : Nat} {x : Ent} {n t : Int} (hl : NodesOk l) (hx : l[k]? = some x) (hp : placeB t = true) (hn : hasB x n = true) (ht : hasB x t = false) : NodesOk (l.set k (x.mv n t)) := by
  intro y hy
  rcases List.mem_or_eq_of_mem_set hy with h | h
  · exact hl y h
  · rw [h]; exact mv_nodes hp hn ht (hl x (List.mem_of_getElem? hx))
/-- Where a volume's node may go. -/
def mayOf (l : List Ent) (ns : List Int) (x : Ent) : List Int := (sortI (fun k => (loadN l k : Int)) ns).filter fun t => !hasB x t
/-- Leave, from entry k on (f of them), the earlier ones moved. -/
def leaveF (node : Int) (ns : List Int) : Nat → Nat → List Ent → Option (List Mv)
  | 0, _, _ => some []
  | f + 1, k, l => match l[k]? with
    | none => some []
    | some x => if hasB x node then match mayOf l ns x with
        | [] => none
        | t :: _ => (leaveF node ns f (k + 1) (l.set k (x.mv node t))).map fun r => ⟨x.vol, x.epoch, hasI x node, t⟩ :: r
      else leaveF node ns f (k + 1) l
def leaveI (es : List Ent) (node : Int) (ns : List Int) : Option (List Mv) := leaveF node ns es.length 0 es
theorem leaveF_no {node : Int} {ns : List Int} {f k : Nat} {l : List Ent} {x : Ent} (hf : f = l.length - k) (hx : l[k]? = some x) (hn : hasB x node = false) : leaveF node ns f k l = leaveF node ns (l.length - (k + 1)) (k + 1) l := by
  have hk := (List.getElem?_eq_some_iff.1 hx).1
  obtain ⟨g, rfl⟩ : ∃ g, f = g + 1 := ⟨f - 1, by omega⟩
  rw [show l.length - (k + 1) = g by omega]
  simp [leaveF, hx, hn]
theorem leaveF_full {node : Int} {ns : List Int} {f k : Nat} {l : List Ent} {x : Ent} (hf : f = l.length - k) (hx : l[k]? = some x) (hn : hasB x node = true) (hm : mayOf l ns x = []) : leaveF node ns f k l = none := by
  have hk := (List.getElem?_eq_some_iff.1 hx).1
  obtain ⟨g, rfl⟩ : ∃ g, f = g + 1 := ⟨f - 1, by omega⟩
  simp [leaveF, hx, hn, hm]
theorem leaveF_go {node : Int} {ns : List Int} {f k : Nat} {l : List Ent} {x : Ent} {t : Int} {r : List Int} (hf : f = l.length - k) (hx : l[k]? = some x) (hn : hasB x node = true) (hm : mayOf l ns x = t :: r) :
    leaveF node ns f k l = (leaveF node ns (l.length - (k + 1)) (k + 1) (l.set k (x.mv node t))).map fun r => ⟨x.vol, x.epoch, hasI x node, t⟩ :: r := by
  have hk := (List.getElem?_eq_some_iff.1 hx).1
  obtain ⟨g, rfl⟩ : ∃ g, f = g + 1 := ⟨f - 1, by omega⟩
  rw [show l.length - (k + 1) = g by omega]
  simp [leaveF, hx, hn, hm]
theorem idxOf_has (x : Ent) (n : Int) : idxOf [x.n0, x.n1, x.n2] n = hasI x n := by
  unfold idxOf hasI
  by_cases h0 : x.n0 = n
  · simp [h0, List.findIdx?_cons]
  · by_cases h1 : x.n1 = n
    · simp [h0, h1, List.findIdx?_cons]
    · by_cases h2 : x.n2 = n <;> simp [h0, h1, h2, List.findIdx?_cons]
theorem contains_has (x : Ent) (n : Int) : [x.n0, x.n1, x.n2].contains n = hasB x n := by
  unfold hasB
  simp only [List.contains_cons, List.contains_nil, Bool.or_false]
  rw [BEq.comm (a := n) (b := x.n0), BEq.comm (a := n) (b := x.n1), BEq.comm (a := n) (b := x.n2), Bool.or_assoc]
/-- Index at an array of three. -/
theorem index3 (b o cap : Nat) (e : Ent) (x : Int) (w : World) (h0 : w.cell? ⟨b, o, none⟩ = some (.int .i64 e.n0)) (h1 : w.cell? ⟨b, o + 1, none⟩ = some (.int .i64 e.n1)) (h2 : w.cell? ⟨b, o + 2, none⟩ = some (.int .i64 e.n2)) :
    Calls Try.prog 75 #[.slice (some ⟨b, o, none⟩) 3 cap, .int .i64 x] w fun r w' => r = .returned (.int .i64 (hasI e x)) ∧ w = w' := by
  rw [← idxOf_has]
  refine index_any b o 3 cap [e.n0, e.n1, e.n2] x w rfl (fun i hi => ?_) (by unfold maxLen; omega)
  match i, hi with
  | 0, _ => simpa using h0
  | 1, _ => simpa using h1
  | 2, _ => simpa using h2
set_option maxHeartbeats 400000 in
theorem del_any (bx : Nat) (x : Ent) (n : Int) (w : World) (h0 : w.cell? ⟨bx, 2, none⟩ = some (.int .i64 x.n0)) (h1 : w.cell? ⟨bx, 3, none⟩ = some (.int .i64 x.n1)) (h2 : w.cell? ⟨bx, 4, none⟩ = some (.int .i64 x.n2)) :
    Calls Try.prog 77 #[.int .i64 n, .pointer (some ⟨bx, 0, none⟩)] w fun e w' => e = .returned (.bool (hasB x n)) ∧ ∃ q, w' = w.drewN q := by
  have HC := Lib.hid (contains_has x n)
  obtain ⟨v, ep, a, b, c, s⟩ := x
  go_enter Try.func77, Try.ntmps77
  go_wp2_with fail
  refine (contains3 bx 2 _ a b c n _ _ HC.out (by go_simp) (by go_simp) (by go_simp)).mono ?_
  rintro e w' ⟨rfl, rfl⟩
  go_wp2_with fail
  go_ret
  exact ⟨rfl, 0, rfl⟩
theorem filter_toN (so : List Int) (hp : ∀ n ∈ so, placeB n = true) (q : Int → Bool) : ((so.map toN).filter fun i => q (i.val : Int)) = (so.filter q).map toN := by
  induction so with
  | nil => rfl
  | cons a so ih =>
    have h := ih (fun n hn => hp n (List.mem_cons_of_mem _ hn))
    have ha := toN_val (hp a List.mem_cons_self)
    simp only [List.map_cons, List.filter_cons, ha, h]
    split <;> rfl
set_option maxHeartbeats 400000 in
theorem may_any (so : List Int) (x : Ent) (g cap bx base : Nat) (w : World) (ho : w.ownsRow base 3 1 (.slice (some ⟨g, 0, none⟩) so.length cap) so.length (so.map (Value.int .i64))) (hp : ∀ n ∈ so, placeB n = true)
    (hb : bx < w.heap.size) (hne : bx ≠ g) (h0 : w.cell? ⟨bx, 2, none⟩ = some (.int .i64 x.n0)) (h1 : w.cell? ⟨bx, 3, none⟩ = some (.int .i64 x.n1)) (h2 : w.cell? ⟨bx, 4, none⟩ = some (.int .i64 x.n2)) :
    Calls Try.prog 76 #[.slice (some ⟨g, 0, none⟩) so.length cap, .func (.func 77) #[] #[.pointer (some ⟨bx, 0, none⟩)]] w
      fun e w' => e = .returned (.slice (some ⟨g, 0, none⟩) (so.filter fun t => !hasB x t).length cap) ∧ (∀ t r, (so.filter fun t => !hasB x t) = t :: r → w'.cell? ⟨g, 0, none⟩ = some (.int .i64 t)) ∧ Keeps (fun k => k = g) w w' := by
  have eg : ∀ args w, (callFunc 77 args).run Try.prog w = .ok (.enter 77 args) w := enters_of Try.func77 (by kernel_rfl) rfl
  have hg := ho.lt g rfl
  have hH : Holds encN w g 0 (so.map toN).toArray := by
    intro j hj
    have hj' : j < so.length := by simpa using hj
    refine ⟨?_, ho.frozenAt _⟩
    rw [Nat.zero_add, ho.cellAt j (by omega), List.getElem?_map, List.getElem?_eq_getElem hj']
    simp only [Option.map_some]
    rw [getElem!_pos _ j (by simpa using hj')]
    simp only [List.getElem_toArray, List.getElem_map]
    rw [encN_toN (hp _ (List.getElem_mem hj'))]
  have hP : PredAt Try.prog 77 #[.pointer (some ⟨bx, 0, none⟩)] encN (fun i => hasB x (i.val : Int)) w := fun W i hW =>
    del_any bx x _ W ((hW.cell (p := ⟨bx, 2, none⟩) hb).trans h0) ((hW.cell (p := ⟨bx, 3, none⟩) hb).trans h1) ((hW.cell (p := ⟨bx, 4, none⟩) hb).trans h2)
  have hPO : PredOver Try.prog 77 #[.pointer (some ⟨bx, 0, none⟩)] encN (fun i => hasB x (i.val : Int)) g 0 (so.map toN).toArray.size w := fun m os dk i _ => by
    have hbl := sortWorld_block encN w g 0 m bx dk os hb hne
    exact del_any bx x _ _ ((World.cell?_of_block (a := ⟨bx, 2, none⟩) hbl).trans h0) ((World.cell?_of_block (a := ⟨bx, 3, none⟩) hbl).trans h1) ((World.cell?_of_block (a := ⟨bx, 4, none⟩) hbl).trans h2)
  have hcap := (owns_cap ho).1
  have hm := (owns_cap ho).2
  have hD := Try.slices_DeleteFunc encN (fun _ => rfl) (fun i => hasB x (i.val : Int)) 77 #[.pointer (some ⟨bx, 0, none⟩)] eg (0 : Fin 256) (fun w => by kernel_rfl) g 0 cap (so.map toN).toArray w hP hPO hH (by simp; omega) (by simp; omega)
  have e1 : ((so.map toN).toArray.toList.filter fun i => !hasB x (i.val : Int)) = (so.filter fun t => !hasB x t).map toN := by
    simpa using filter_toN so hp (fun t => !hasB x t)
  rw [e1] at hD
  simp only [List.size_toArray, List.length_map] at hD
  refine hD.mono ?_
  rintro e w' ⟨rfl, q, rfl⟩
  refine ⟨rfl, ?_, ?_⟩
  · intro t r ht
    have hlen : (so.filter fun t => !hasB x t).length ≤ so.length := List.length_filter_le _ _
    have hz : ((so.filter fun t => !hasB x t).map toN ++ List.replicate (so.length - (so.filter fun t => !hasB x t).length) (0 : Fin 256)).toArray.size = (so.map toN).toArray.size := by
      simp; omega
    have hpos : 0 < so.length := by rw [ht] at hlen; simp at hlen; omega
    have hc := cell?_putRow encN (Sort.ahead w q) g 0 (so.map toN).toArray _ hH hz 0 (by rw [hz]; simpa using hpos)
    rw [Nat.zero_add] at hc
    rw [hc]
    have htp : placeB t = true := hp t (List.mem_filter.1 (show t ∈ so.filter fun t => !hasB x t by rw [ht]; exact List.mem_cons_self)).1
    rw [getElem!_pos _ 0 (by rw [hz]; simpa using hpos)]
    simp only [ht, List.map_cons, List.getElem_toArray, List.cons_append, List.getElem_cons_zero]
    rw [encN_toN htp]
  · refine ⟨rfl, rfl, rfl, by show w.heap.size ≤ (w.heap.modify g _).size; simp, fun k hk hn => ?_⟩
    show (w.heap.modify g _)[k]? = _
    rw [Array.getElem?_modify]
    simp [Ne.symm hn]
end Go.Proofs.Ytigkcbnlbdiimaa

/- The document's order (by insertion) is the sorted one. No program. -/
namespace Go.Proofs.Ytigkcbnlbdiimaa
open Go.RowKit
def goOn (f : Int → Int) (x y : Int) : Bool := !ltP f x y
def insL (f : Int → Int) (out : List Int) (x : Int) : List Int := out.takeWhile (goOn f x) ++ x :: out.dropWhile (goOn f x)
def refOrd (f : Int → Int) (ns : List Int) : List Int := ns.foldl (insL f) []
theorem refOrd_snoc (f : Int → Int) (ns : List Int) (x : Int) : refOrd f (ns ++ [x]) = insL f (refOrd f ns) x := by simp [refOrd]
theorem insL_perm (f : Int → Int) (out : List Int) (x : Int) : (insL f out x).Perm (x :: out) := by
  unfold insL
  refine List.perm_middle.trans ?_
  rw [List.takeWhile_append_dropWhile]
theorem refOrd_perm (f : Int → Int) : ∀ (ns acc : List Int), (ns.foldl (insL f) acc).Perm (acc ++ ns)
  | [], acc => by simp
  | x :: ns, acc => by
    refine (refOrd_perm f ns (insL f acc x)).trans ?_
    refine ((insL_perm f acc x).append_right ns).trans ?_
    exact List.perm_middle.symm
def leP (f : Int → Int) (x y : Int) : Prop := ltP f y x = false
theorem leP_trans {f : Int → Int} {x y z : Int} (h1 : leP f x y) (h2 : leP f y z) : leP f x z := by
  unfold leP ltP at *
  simp at *
  omega
theorem leP_anti {f : Int → Int} {x y : Int} (h1 : leP f x y) (h2 : leP f y x) : x = y := by
  unfold leP ltP at *
  simp at *
  omega
theorem leP_of_lt {f : Int → Int} {x y : Int} (h : ltP f x y = true) : leP f x y := by
  unfold leP ltP at *
  simp at *
  omega
theorem sorted_dropWhile (f : Int → Int) (x : Int) : ∀ (l : List Int), l.Pairwise (leP f) → ∀ y ∈ l.dropWhile (goOn f x), leP f x y
  | [], _, y, hy => by simp at hy
  | a :: l, h, y, hy => by
    rw [List.dropWhile_cons] at hy
    split at hy
    · exact sorted_dropWhile f x l (List.pairwise_cons.1 h).2 y hy
    · rename_i hg
      have hxa : leP f x a := leP_of_lt (by simpa [goOn] using hg)
      rcases List.mem_cons.1 hy with rfl | hy
      · exact hxa
      · exact leP_trans hxa ((List.pairwise_cons.1 h).1 y hy)
theorem mem_takeWhile_go {f : Int → Int} {x y : Int} {l : List Int} (h : y ∈ l.takeWhile (goOn f x)) : leP f y x := by
  have := List.all_takeWhile (p := goOn f x) (l := l)
  rw [List.all_eq_true] at this
  simpa [goOn, leP] using this y h
theorem insL_sorted (f : Int → Int) (out : List Int) (x : Int) (h : out.Pairwise (leP f)) : (insL f out x).Pairwise (leP f) := by
  unfold insL
  rw [← List.takeWhile_append_dropWhile (p := goOn f x) (l := out)] at h
  have hs := List.pairwise_append.1 h
  refine List.pairwise_append.2 ⟨hs.1, List.pairwise_cons.2 ⟨?_, hs.2.1⟩, ?_⟩
  · rw [List.takeWhile_append_dropWhile] at h
    exact sorted_dropWhile f x out h
  · intro a ha b hb
    rcases List.mem_cons.1 hb with rfl | hb
    · exact mem_takeWhile_go ha
    · exact hs.2.2 a ha b hb
theorem refOrd_sorted (f : Int → Int) : ∀ (ns acc : List Int), acc.Pairwise (leP f) → (ns.foldl (insL f) acc).Pairwise (leP f)
  | [], _, h => h
  | x :: ns, acc, h => refOrd_sorted f ns _ (insL_sorted f acc x h)
theorem sorted_eq {f : Int → Int} : ∀ (l m : List Int), l.Pairwise (leP f) → m.Pairwise (leP f) → l.Perm m → l = m
  | [], m, _, _, hp => by simpa using hp.symm.eq_nil
  | a :: l, [], _, _, hp => by simpa using hp.eq_nil
  | a :: l, b :: m, hl, hm, hp => by
    have hab : a = b := by
      have h1 : a ∈ b :: m := hp.mem_iff.1 List.mem_cons_self
      have h2 : b ∈ a :: l := hp.mem_iff.2 List.mem_cons_self
      rcases List.mem_cons.1 h1 with h1 | h1
      · exact h1
      · rcases List.mem_cons.1 h2 with h2 | h2
        · exact h2.symm
        · exact leP_anti ((List.pairwise_cons.1 hl).1 b h2) ((List.pairwise_cons.1 hm).1 a h1)
    subst hab
    rw [sorted_eq l m (List.pairwise_cons.1 hl).2 (List.pairwise_cons.1 hm).2 hp.cons_inv]
theorem sortI_sorted (f : Int → Int) (ns : List Int) : (sortI f ns).Pairwise (leP f) := by
  have h := List.pairwise_mergeSort (le := fun x y => !ltP f y x) (fun a b c h1 h2 => by simp [ltP] at *; omega) (fun a b => by simp [ltP]; omega) ns
  exact h.imp (fun {a b} h => by simpa [leP] using h)
theorem refOrd_eq (f : Int → Int) (ns : List Int) : refOrd f ns = sortI f ns := by
  refine sorted_eq _ _ (refOrd_sorted f ns [] List.Pairwise.nil) (sortI_sorted f ns) ?_
  have h1 : (refOrd f ns).Perm ns := by
    have h := refOrd_perm f ns []
    rw [List.nil_append] at h
    exact h
  have h2 : (sortI f ns).Perm ns := List.mergeSort_perm _ _
  exact h1.trans h2.symm
end Go.Proofs.Ytigkcbnlbdiimaa

/- corncribref27.Order: by insertion; what it gives is the sorted one. -/
namespace Go.Proofs.Ytigkcbnlbdiimaa
open Go.RowKit
theorem ints_one (l : List Int) : ∀ u ∈ l.map (Value.int .i64), u.oneCell' = true := by
  intro u hu
  obtain ⟨x, _, rfl⟩ := List.mem_map.1 hu
  rfl
theorem insL_at (f : Int → Int) (out : List Int) (x : Int) (j : Nat) (hj : j ≤ out.length) (h1 : ∀ t, t < j → goOn f x (out.getD t 0) = true) (h2 : j = out.length ∨ goOn f x (out.getD j 0) = false) : insL f out x = out.take j ++ x :: out.drop j := by
  have key : ∀ (l : List Int) (j : Nat), j ≤ l.length → (∀ t, t < j → goOn f x (l.getD t 0) = true) → (j = l.length ∨ goOn f x (l.getD j 0) = false) → l.takeWhile (goOn f x) = l.take j ∧ l.dropWhile (goOn f x) = l.drop j := by
    intro l
    induction l with
    | nil => intro j hj _ _; simp at hj; subst hj; simp
    | cons a l ih =>
      intro j hj h1 h2
      cases j with
      | zero =>
        rcases h2 with h2 | h2
        · simp at h2
        · have : goOn f x a = false := by simpa using h2
          simp [List.takeWhile_cons, List.dropWhile_cons, this]
      | succ j =>
        have h0 : goOn f x a = true := by simpa using h1 0 (by omega)
        have := ih j (by simpa using hj) (fun t ht => by simpa using h1 (t + 1) (by omega)) (by simpa using h2)
        simp [List.takeWhile_cons, List.dropWhile_cons, h0, this.1, this.2]
  obtain ⟨e1, e2⟩ := key out j hj h1 h2
  unfold insL
  rw [e1, e2]
theorem reads_pre {w : World} {base g n c j : Nat} {xs : List Value} (h : w.ownsRow base 3 1 (.slice (some ⟨g, 0, none⟩) n c) n xs) (hj : j ≤ n) : Reads w 1 (.slice (some ⟨g, 0, none⟩) j c) j (xs.take j) := by
  have hl := h.1
  have hm : n ≤ maxLen := by
    rcases h.2 with ⟨e, _⟩ | ⟨_, _, _, e, _, _, h1, h2, _⟩
    · cases e
    · simp only [Value.slice.injEq] at e; omega
  refine ⟨by rw [List.length_take]; omega, .inr ⟨_, _, rfl, by omega, fun i u hu => ?_⟩⟩
  have hi : i < j := by
    have := (List.getElem?_eq_some_iff.1 hu).1
    rw [List.length_take] at this; omega
  rw [List.getElem?_take_of_lt hi] at hu
  exact h.cells (g := g) rfl i u hu
theorem reads_suf {w : World} {base g n c j m c' : Nat} {xs : List Value} (h : w.ownsRow base 3 1 (.slice (some ⟨g, 0, none⟩) n c) n xs) (hj : j ≤ n) (hm : m = n - j) : Reads w 1 (.slice (some ⟨g, j, none⟩) m c') m (xs.drop j) := by
  subst hm
  have hl := h.1
  have hm : n ≤ maxLen := by
    rcases h.2 with ⟨e, _⟩ | ⟨_, _, _, e, _, _, h1, h2, _⟩
    · cases e
    · simp only [Value.slice.injEq] at e; omega
  refine ⟨by rw [List.length_drop]; omega, .inr ⟨_, _, rfl, by omega, fun i u hu => ?_⟩⟩
  rw [List.getElem?_drop] at hu
  have h1 := h.cells (g := g) rfl _ u hu
  have e : ∀ n : Nat, (⟨g, 0, none⟩ : Addr).add n = ⟨g, n, none⟩ := fun n => by unfold Addr.add; split <;> simp_all
  have e2 : ∀ n : Nat, (⟨g, j, none⟩ : Addr).add n = ⟨g, j + n, none⟩ := fun n => by unfold Addr.add; split <;> simp_all
  rw [e] at h1
  rw [e2]
  exact h1
theorem reads_unit (w : World) (u : Value) : Reads (w.alloc (.cells #[u] 3)) 1 (.slice (some ⟨w.heap.size, 0, none⟩) 1 1) 1 [u] :=
  ⟨rfl, .inr ⟨_, _, rfl, by unfold maxLen; omega, World.news_of_block (heap_alloc_new w _)⟩⟩
theorem reads_nothing {w : World} {a : Addr} {c : Nat} : Reads w 1 (.slice (some a) 0 c) 0 [] := ⟨rfl, .inr ⟨a, c, rfl, Nat.zero_le _, fun _ _ h => by simp at h⟩⟩
theorem reads_none {w : World} : Reads w 1 (.slice none 0 0) 0 [] := ⟨rfl, .inl ⟨rfl, rfl⟩⟩
theorem goOn_eq (f : Int → Int) (x y : Int) : goOn f x y = !(decide (f x < f y) || (f x == f y && decide (x < y))) := rfl
set_option maxRecDepth 100000 in
set_option maxHeartbeats 8000000 in
theorem rorder_any (base : Nat) (v va : Value) (es : List Ent) (ns : List Int) (w : World) (h : w.ownsRow base 128 6 v es.length (es.flatMap Ent.row)) (hfew : es.length ≤ 4096) (hr : Reads w 1 va ns.length (ns.map (Value.int .i64))) (hn : ns.length ≤ 100) :
    Calls Try.prog 49 #[v, va] w fun e w' => ∃ v', e = .returned v' ∧ w'.ownsRow w.heap.size 3 1 v' ns.length ((sortI (fun k => (loadN es k : Int)) ns).map (Value.int .i64)) ∧ Below w.heap.size w w' := by
  obtain ⟨i0, hi, hz0, hz1, hz2⟩ := info_parts int_info
  have HI := Lib.hid hi
  have HZ0 := Lib.hid hz0
  have HZ1 := Lib.hid hz1
  have HZ2 := Lib.hid hz2
  clear hi hz0 hz1 hz2
  obtain ⟨ao, cap, rfl⟩ := reads_len hr
  have H := Lib.hid h
  have HR := Lib.hid hr
  obtain ⟨a0, cap0, rfl⟩ := ownsRow_len h
  clear h hr
  obtain ⟨f, hf⟩ : ∃ f : Int → Int, f = (fun k => (loadN es k : Int)) := ⟨_, rfl⟩
  rw [← hf, ← refOrd_eq]
  have HF := Lib.hid hf
  clear hf
  go_enter Try.func49, Try.ntmps49
  go_wp2_with fail
  go_loopw [5, 6] (fun out i wr => ∃ (k : Nat) (ov : Value), k ≤ ns.length ∧ i = .int .i64 k ∧ out = ov ∧ wr.ownsRow w.heap.size 3 1 ov k ((refOrd f (ns.take k)).map (Value.int .i64)) ∧ Below w.heap.size w wr) (fun _ i _ => ns.length - (intOf i).toNat)
  case atStart => exact ⟨0, _, Nat.zero_le _, rfl, rfl, World.ownsRow_nil _ _ _ _, Below.refl _ _⟩
  case round =>
    obtain ⟨k, ov, hk, rfl, hov, hown, hbw⟩ := hrel
    have hov' := hov.symm
    clear hov
    subst hov'
    have HO := Lib.hid hown
    have HB := Lib.hid hbw
    have hzr := hbw.size
    obtain ⟨a5, c5, rfl⟩ := ownsRow_len hown
    clear hown hbw
    by_cases hlt : k < ns.length
    · obtain ⟨b, o, cc, e1, hb, hm, hc⟩ := ints_at HR.out (by omega)
      obtain ⟨rfl, -, rfl⟩ := sl_inj e1
      unfold maxLen at hm
      have hbr : b < wr.heap.size := by omega
      have kx0 := (HB.out.cell (p := ⟨b, o + k, none⟩) hb).trans (hc k hlt)
      obtain ⟨x, hx⟩ : ∃ x, ns.getD k 0 = x := ⟨_, rfl⟩
      rw [hx] at kx0
      have HTK := Lib.hid (show ns.take (k + 1) = ns.take k ++ [x] by rw [List.take_succ_eq_append_getElem hlt, ← hx]; simp [hlt])
      clear hc e1 hx
      obtain ⟨out, hout⟩ : ∃ out, out = refOrd f (ns.take k) := ⟨_, rfl⟩
      rw [← hout] at HO
      have HOUT := Lib.hid hout
      have hlen : out.length = k := by have := HO.out.1; simpa using this
      clear hout
      have hk0 : (0 : Int) ≤ (k : Int) := by omega
      have hk1 : (k : Int) < (ns.length : Int) := by omega
      obtain ⟨wo, rfl⟩ : ∃ wo : World, wo = wr := ⟨_, rfl⟩
      have HLEN := Lib.hid hlen
      clear hlen
      go_wp2_with fail
      go_loopw [7] (fun jv wx => ∃ j : Nat, j ≤ k ∧ jv = .int .i64 j ∧ (∀ t, t < j → goOn f x (out.getD t 0) = true) ∧ Below wo.heap.size wo wx) (fun jv _ => k - (intOf jv).toNat)
      case atStart => exact ⟨0, Nat.zero_le _, rfl, fun t ht => absurd ht (by omega), Below.refl _ _⟩
      case round =>
        obtain ⟨j, hj, rfl, hall, hbx⟩ := hrel
        have HALL := Lib.hid hall
        have HBX := Lib.hid hbx
        have hzx := hbx.size
        have kx := (hbx.cell (p := ⟨b, o + k, none⟩) hbr).trans kx0
        clear hall hbx
        by_cases hjk : j < k
        · obtain ⟨y, hy⟩ : ∃ y, out.getD j 0 = y := ⟨_, rfl⟩
          obtain ⟨g, hg⟩ : ∃ g, a5 = some ⟨g, 0, none⟩ := by
            rcases HO.out.2 with ⟨e, h0⟩ | ⟨g, _, _, e, _⟩
            · omega
            · simp only [Value.slice.injEq] at e
              exact ⟨g, e.1⟩
          subst hg
          have hgl := (HO.out.lt g rfl).2
          have ky0 : wo.cell? ⟨g, j, none⟩ = some (.int .i64 y) := by
            have hjl : j < out.length := by have := HLEN.out; omega
            rw [HO.out.cellAt j (by omega), List.getElem?_map, List.getElem?_eq_getElem hjl, ← hy]
            simp [hjl]
          have ky := (HBX.out.cell (p := ⟨g, j, none⟩) hgl).trans ky0
          have HY := Lib.hid hy
          clear hy ky0
          have hj0 : (0 : Int) ≤ (j : Int) := by omega
          have hj1 : (j : Int) < (k : Int) := by omega
          have hgx : g < wr.heap.size := by omega
          have hbx2 : b < wr.heap.size := by omega
          have HYS := Lib.hid (And.intro ky kx)
          clear ky kx
          obtain ⟨ly, hly⟩ : ∃ ly : Nat, loadN es y = ly := ⟨_, rfl⟩
          obtain ⟨lx, hlx⟩ : ∃ lx : Nat, loadN es x = lx := ⟨_, rfl⟩
          have HGO := Lib.hid (show goOn f x (out.getD j 0) = !(decide ((lx : Int) < (ly : Int)) || ((lx : Int) == (ly : Int) && decide (x < y))) by rw [HY.out, goOn_eq, HF.out, ← hly, ← hlx])
          have HLY := Lib.hid hly
          have HLX := Lib.hid hlx
          clear hly hlx
          go_wp2_with fail
          obtain ⟨SS, HSD⟩ : ∃ SS : World → Prop, Hid (SS = fun w' => w'.cell? ⟨g, j, none⟩ = some (.int .i64 y) ∧ w'.cell? ⟨b, o + k, none⟩ = some (.int .i64 x)) := ⟨_, Lib.hid rfl⟩
          refine wp_region_mask0 SS [4, 10] [0, 0, 0, 6, 14, 31, 0, 0, 0, 384, 896, 2047, 4095, 8191] (.op 0 0 (.op 1 0 (.op 2 0 (.op 3 0 (.op 4 2 (.op 6 0 (.op 7 0 (.op 8 0 (.op 9 0 (.op 10 2 (.op 5 1 (.op 11 1 (.op 12 0 (.op 13 0 .nil)))))))))))))) (by kernel_rfl) (by kernel_rfl) rfl (by kernel_rfl) (by kernel_rfl) ?_ ?_
          focus (rw [HSD.out]; exact HYS.out)
          refine stepM0 rfl rfl (fun K hK => ?_)
          go_simp
          refine hK _ ?_
          clear hK K
          refine stepM0 rfl rfl (fun K hK => ?_)
          go_simp
          refine hK _ ?_
          clear hK K
          refine stepM0 rfl rfl (fun K hK => ?_)
          go_simp
          refine hK _ ?_
          clear hK K
          refine stepM0 rfl rfl (fun K hK => ?_)
          go_simp
          refine hK _ ?_
          clear hK K
          refine stepM2 rfl rfl ?_ (fun w1 hS => ?_) (fun K hK => ?_)
          rotate_left
          focus (rw [HSD.out] at hS; obtain ⟨sy, sx⟩ := hS; go_simp; rfl)
          go_simp
          refine hK _ ?_
          clear hK K
          refine stepM0 rfl rfl (fun K hK => ?_)
          go_simp
          refine hK _ ?_
          clear hK K
          refine stepM0 rfl rfl (fun K hK => ?_)
          go_simp
          refine hK _ ?_
          clear hK K
          refine stepM0 rfl rfl (fun K hK => ?_)
          go_simp
          refine hK _ ?_
          clear hK K
          refine stepM0 rfl rfl (fun K hK => ?_)
          go_simp
          refine hK _ ?_
          clear hK K
          refine stepM2 rfl rfl ?_ (fun w1 hS => ?_) (fun K hK => ?_)
          rotate_left
          focus (rw [HSD.out] at hS; obtain ⟨sy, sx⟩ := hS; go_simp; rfl)
          go_simp
          refine hK _ ?_
          clear hK K
          refine stepM1S rfl rfl (fun K hK => ?_)
          (go_wp2_with fail; refine Calls.mono (rload_any base _ es y _ (ownsRow_below (ownsRow_below H.out HB.out) (HBX.out.drew.mono (Nat.le_refl _))) hfew) ?_; rintro e w4 ⟨rfl, hb4⟩; rw [HLY.out]; have HB4 := Lib.hid (show Below wo.heap.size wo w4 from Below.trans HBX.out.drew (hb4.mono hzx)); have HY4 := Lib.hid (show w4.cell? ⟨g, j, none⟩ = some (.int .i64 y) ∧ w4.cell? ⟨b, o + k, none⟩ = some (.int .i64 x) from ⟨(hb4.cell (p := ⟨g, j, none⟩) hgx).trans HYS.out.1, (hb4.cell (p := ⟨b, o + k, none⟩) hbx2).trans HYS.out.2⟩); have hz4 := HB4.out.size; have hz4r := hb4.size; (try simp only [World.size_drew] at hz4r); clear hb4; go_wp2)
          refine ⟨by rw [HSD.out]; exact (HY4.out), ?_⟩
          refine stepM1 rfl rfl (by kernel_rfl) (fun K hK => ?_)
          (go_wp2_with fail; refine Calls.mono (rload_any base _ es x _ (ownsRow_below (ownsRow_below H.out HB.out) HB4.out) hfew) ?_; rintro e w5 ⟨rfl, hb5⟩; rw [HLX.out]; have HB5 := Lib.hid (show Below wo.heap.size wo w5 from HB4.out.trans (hb5.mono hz4)); have HY5 := Lib.hid (show w5.cell? ⟨g, j, none⟩ = some (.int .i64 y) ∧ w5.cell? ⟨b, o + k, none⟩ = some (.int .i64 x) from ⟨(hb5.cell (p := ⟨g, j, none⟩) (show g < w4.heap.size by omega)).trans HY4.out.1, (hb5.cell (p := ⟨b, o + k, none⟩) (show b < w4.heap.size by omega)).trans HY4.out.2⟩); have hz5 := HB5.out.size; clear hb5; go_wp2)
          refine stepM0 rfl rfl (fun K hK => ?_)
          go_simp
          refine hK _ ?_
          clear hK K
          refine stepM0 rfl rfl (fun K hK => ?_)
          go_simp
          refine hK _ ?_
          clear hK K
          try refine stepMnil0 ?_
          clear HSD SS
          go_wp2_with fail
          have hw8 : (lx < ly) ∨ (lx = ly ∧ x < y) ∨ (lx = ly ∧ ¬ x < y) ∨ (ly < lx) := by omega
          obtain ⟨sy, sx⟩ := HY5.out
          rcases hw8 with h8 | ⟨h8, h9⟩ | ⟨h8, h9⟩ | h8
          · have d1 : decide (lx < ly) = true := by simpa using h8
            have HG1 := Lib.hid (show goOn f x (out.getD j 0) = false by rw [HGO.out]; simp [h8])
            clear h8
            go_quiet (fail)
            have hc := owns_cap HO.out
            have hjc0 : (j : Int) ≤ (c5 : Int) := by omega
            have hjc1 : (j : Int) < (c5 : Int) := by omega
            have hjc2 : ¬ j = c5 := by omega
            have hjk : j ≤ k := by omega
            have hkc : (k : Int) ≤ (c5 : Int) := by omega
            have HINS := Lib.hid (insL_at f out x j (by have := HLEN.out; omega) HALL.out (.inr HG1.out))
            have HBE := Lib.hid (show Below wo.heap.size wo (w5.drewN nq) from HB5.out.drewN nq)
            have HKX := Lib.hid (show (w5.drewN nq).cell? ⟨b, o + k, none⟩ = some (.int .i64 x) from HY5.out.2)
            clear sy sx HY5 HB5 HY4 HB4
            generalize w5.drewN nq = wE at *
            have HPRE := Lib.hid (show Reads wE 1 (.slice (some ⟨g, 0, none⟩) j c5) j ((out.take j).map (Value.int .i64)) by rw [List.map_take]; exact reads_pre (ownsRow_below HO.out HBE.out) (by omega))
            have HSUF := Lib.hid (show Reads wE 1 (.slice (some ⟨g, j, none⟩) (k - j) (c5 - j)) (k - j) ((out.drop j).map (Value.int .i64)) by rw [List.map_drop]; exact reads_suf (ownsRow_below HO.out HBE.out) (by omega) rfl)
            clear hc
            have hbE : b < wE.heap.size := by have := HBE.out.size; omega
            go_wp2_with (first
              | (at_builtin; refine wpList_append_reads _ rfl (.tmp 54) (.tmp 57) 42 rfl wE.heap.size 3 i0 (.int .i64 0) 1 8 Try.underlying42 HI.out HZ0.out HZ1.out HZ2.out rfl (by decide) (.slice (some ⟨wE.heap.size, 0, none⟩) 0 0) 0 [] rfl (World.ownsRow_lit wE #[] 0 (Nat.le_refl _) (by unfold maxLen; omega) rfl) (.slice (some ⟨g, 0, none⟩) j c5) j ((out.take j).map (Value.int .i64)) rfl (HPRE.out.below (by repeat (first | (with_reducible exact Below.refl _ _) | (with_reducible refine Below.setCell ?_ ?_ _) | (with_reducible refine Below.alloc ?_ ?_ _) | (with_reducible refine Below.drewN ?_ _) | (with_reducible refine Below.drew ?_) | (with_reducible exact Nat.le_refl _) | (focus (simp only [World.size_alloc, World.size_setCell, World.size_drew, World.size_drewN]; omega)) | omega | exact Nat.le_refl _ | (focus (simp; done)) | (focus (simp; omega))))) (ints_one _) (by unfold maxLen; omega) (by omega) (by simp) ?_; intro v1 w1 ho1 hg1 _; simp only [Nat.zero_add, List.nil_append] at ho1; have HBa := Lib.hid (show Below wE.heap.size wE w1 from Below.grown (Below.alloc (Below.refl _ _) (Nat.le_refl _) _) hg1 (by simp) (fun q hq => by simp [Value.ownBlock] at hq; omega)); have HO1 := Lib.hid ho1; have kx1 := (HBa.out.cell (p := ⟨b, o + k, none⟩) hbE).trans HKX.out; have hz1 := HBa.out.size; clear ho1 hg1)
              | (at_builtin; refine wpList_append_reads _ rfl (.tmp 59) (.tmp 64) 42 rfl wE.heap.size 3 i0 (.int .i64 0) 1 8 Try.underlying42 HI.out HZ0.out HZ1.out HZ2.out rfl (by decide) v1 j ((out.take j).map (Value.int .i64)) rfl (HO1.out.alloc _) (.slice (some ⟨w1.heap.size, 0, none⟩) 1 1) 1 [.int .i64 x] rfl (reads_unit _ _) (by simp [Value.oneCell']) (by unfold maxLen; omega) (by omega) (by simp; omega) ?_; intro v2 w2 ho2 hg2 _; have HBb := Lib.hid (show Below wE.heap.size wE w2 from (HBa.out.alloc hz1 _).grown hg2 (by simp; omega) (fun q hq => (HO1.out.lt q hq).1)); have HO2 := Lib.hid ho2; have hz2 := HBb.out.size; clear ho2 hg2)
              | (at_builtin; refine wpList_append_reads _ rfl (.tmp 66) (.tmp 69) 42 rfl wE.heap.size 3 i0 (.int .i64 0) 1 8 Try.underlying42 HI.out HZ0.out HZ1.out HZ2.out rfl (by decide) v2 (j + 1) ((out.take j).map (Value.int .i64) ++ [.int .i64 x]) rfl HO2.out (.slice (some ⟨g, j, none⟩) (k - j) (c5 - j)) (k - j) ((out.drop j).map (Value.int .i64)) rfl (HSUF.out.below HBb.out) (ints_one _) (by unfold maxLen; omega) (by omega) (by omega) ?_; intro v3 w3 ho3 hg3 _; have HBc := Lib.hid (show Below wE.heap.size wE w3 from HBb.out.grown hg3 (by omega) (fun q hq => (HO2.out.lt q hq).1)); have HO3 := Lib.hid ho3; clear ho3 hg3))
            go_roundw
            case rel =>
              refine ⟨k + 1, v3, by omega, by go_num, rfl, ?_, ?_⟩
              · have h := ownsRow_mono HO3.out (show w.heap.size ≤ wE.heap.size by have := HBE.out.size; omega)
                have e : (refOrd f (ns.take (k + 1))).map (Value.int .i64) = ((out.take j).map (Value.int .i64) ++ [.int .i64 x]) ++ (out.drop j).map (Value.int .i64) := by
                  rw [HTK.out, refOrd_snoc, ← HOUT.out, HINS.out]; simp
                rw [e]
                have e2 : j + 1 + (k - j) = k + 1 := by omega
                rw [e2] at h
                exact h
              · exact (HB.out.trans (HBE.out.mono hzr)).trans (HBc.out.mono (by have := HBE.out.size; omega))
            case measure => simp [intOf]; omega
          · subst h8
            have d1 : decide (lx < lx) = false := by simp
            have d2 : decide (x < y) = true := by simpa using h9
            have HG1 := Lib.hid (show goOn f x (out.getD j 0) = false by rw [HGO.out]; simp [h9])
            clear h9
            go_quiet (fail)
            have hc := owns_cap HO.out
            have hjc0 : (j : Int) ≤ (c5 : Int) := by omega
            have hjc1 : (j : Int) < (c5 : Int) := by omega
            have hjc2 : ¬ j = c5 := by omega
            have hjk : j ≤ k := by omega
            have hkc : (k : Int) ≤ (c5 : Int) := by omega
            have HINS := Lib.hid (insL_at f out x j (by have := HLEN.out; omega) HALL.out (.inr HG1.out))
            have HBE := Lib.hid (show Below wo.heap.size wo (w5.drewN nq) from HB5.out.drewN nq)
            have HKX := Lib.hid (show (w5.drewN nq).cell? ⟨b, o + k, none⟩ = some (.int .i64 x) from HY5.out.2)
            clear sy sx HY5 HB5 HY4 HB4
            generalize w5.drewN nq = wE at *
            have HPRE := Lib.hid (show Reads wE 1 (.slice (some ⟨g, 0, none⟩) j c5) j ((out.take j).map (Value.int .i64)) by rw [List.map_take]; exact reads_pre (ownsRow_below HO.out HBE.out) (by omega))
            have HSUF := Lib.hid (show Reads wE 1 (.slice (some ⟨g, j, none⟩) (k - j) (c5 - j)) (k - j) ((out.drop j).map (Value.int .i64)) by rw [List.map_drop]; exact reads_suf (ownsRow_below HO.out HBE.out) (by omega) rfl)
            clear hc
            have hbE : b < wE.heap.size := by have := HBE.out.size; omega
            go_wp2_with (first
              | (at_builtin; refine wpList_append_reads _ rfl (.tmp 54) (.tmp 57) 42 rfl wE.heap.size 3 i0 (.int .i64 0) 1 8 Try.underlying42 HI.out HZ0.out HZ1.out HZ2.out rfl (by decide) (.slice (some ⟨wE.heap.size, 0, none⟩) 0 0) 0 [] rfl (World.ownsRow_lit wE #[] 0 (Nat.le_refl _) (by unfold maxLen; omega) rfl) (.slice (some ⟨g, 0, none⟩) j c5) j ((out.take j).map (Value.int .i64)) rfl (HPRE.out.below (by repeat (first | (with_reducible exact Below.refl _ _) | (with_reducible refine Below.setCell ?_ ?_ _) | (with_reducible refine Below.alloc ?_ ?_ _) | (with_reducible refine Below.drewN ?_ _) | (with_reducible refine Below.drew ?_) | (with_reducible exact Nat.le_refl _) | (focus (simp only [World.size_alloc, World.size_setCell, World.size_drew, World.size_drewN]; omega)) | omega | exact Nat.le_refl _ | (focus (simp; done)) | (focus (simp; omega))))) (ints_one _) (by unfold maxLen; omega) (by omega) (by simp) ?_; intro v1 w1 ho1 hg1 _; simp only [Nat.zero_add, List.nil_append] at ho1; have HBa := Lib.hid (show Below wE.heap.size wE w1 from Below.grown (Below.alloc (Below.refl _ _) (Nat.le_refl _) _) hg1 (by simp) (fun q hq => by simp [Value.ownBlock] at hq; omega)); have HO1 := Lib.hid ho1; have kx1 := (HBa.out.cell (p := ⟨b, o + k, none⟩) hbE).trans HKX.out; have hz1 := HBa.out.size; clear ho1 hg1)
              | (at_builtin; refine wpList_append_reads _ rfl (.tmp 59) (.tmp 64) 42 rfl wE.heap.size 3 i0 (.int .i64 0) 1 8 Try.underlying42 HI.out HZ0.out HZ1.out HZ2.out rfl (by decide) v1 j ((out.take j).map (Value.int .i64)) rfl (HO1.out.alloc _) (.slice (some ⟨w1.heap.size, 0, none⟩) 1 1) 1 [.int .i64 x] rfl (reads_unit _ _) (by simp [Value.oneCell']) (by unfold maxLen; omega) (by omega) (by simp; omega) ?_; intro v2 w2 ho2 hg2 _; have HBb := Lib.hid (show Below wE.heap.size wE w2 from (HBa.out.alloc hz1 _).grown hg2 (by simp; omega) (fun q hq => (HO1.out.lt q hq).1)); have HO2 := Lib.hid ho2; have hz2 := HBb.out.size; clear ho2 hg2)
              | (at_builtin; refine wpList_append_reads _ rfl (.tmp 66) (.tmp 69) 42 rfl wE.heap.size 3 i0 (.int .i64 0) 1 8 Try.underlying42 HI.out HZ0.out HZ1.out HZ2.out rfl (by decide) v2 (j + 1) ((out.take j).map (Value.int .i64) ++ [.int .i64 x]) rfl HO2.out (.slice (some ⟨g, j, none⟩) (k - j) (c5 - j)) (k - j) ((out.drop j).map (Value.int .i64)) rfl (HSUF.out.below HBb.out) (ints_one _) (by unfold maxLen; omega) (by omega) (by omega) ?_; intro v3 w3 ho3 hg3 _; have HBc := Lib.hid (show Below wE.heap.size wE w3 from HBb.out.grown hg3 (by omega) (fun q hq => (HO2.out.lt q hq).1)); have HO3 := Lib.hid ho3; clear ho3 hg3))
            go_roundw
            case rel =>
              refine ⟨k + 1, v3, by omega, by go_num, rfl, ?_, ?_⟩
              · have h := ownsRow_mono HO3.out (show w.heap.size ≤ wE.heap.size by have := HBE.out.size; omega)
                have e : (refOrd f (ns.take (k + 1))).map (Value.int .i64) = ((out.take j).map (Value.int .i64) ++ [.int .i64 x]) ++ (out.drop j).map (Value.int .i64) := by
                  rw [HTK.out, refOrd_snoc, ← HOUT.out, HINS.out]; simp
                rw [e]
                have e2 : j + 1 + (k - j) = k + 1 := by omega
                rw [e2] at h
                exact h
              · exact (HB.out.trans (HBE.out.mono hzr)).trans (HBc.out.mono (by have := HBE.out.size; omega))
            case measure => simp [intOf]; omega
          · subst h8
            have d1 : decide (lx < lx) = false := by simp
            have d2 : decide (x < y) = false := by simpa using h9
            have HG1 := Lib.hid (show goOn f x (out.getD j 0) = true by rw [HGO.out]; simp [h9])
            clear h9
            go_quiet (fail)
            go_wp2_with fail
            go_roundw
            case rel =>
              refine ⟨j + 1, by omega, by go_num, fun t ht => ?_, HB5.out.drewN _⟩
              by_cases htj : t = j
              · rw [htj]; exact HG1.out
              · exact HALL.out t (by omega)
            case measure => simp [intOf]; omega
          · have d1 : decide (lx < ly) = false := by simp; omega
            have d3 : ((ly : Int) == (lx : Int)) = false := by rw [beq_eq_false_iff_ne]; omega
            have d4 : (ly == lx) = false := by rw [beq_eq_false_iff_ne]; omega
            have d5 : ¬ ly = lx := by omega
            have HG1 := Lib.hid (show goOn f x (out.getD j 0) = true by
              rw [HGO.out]; simp; omega)
            clear h8
            go_quiet (fail)
            go_wp2_with fail
            go_roundw
            case rel =>
              refine ⟨j + 1, by omega, by go_num, fun t ht => ?_, HB5.out.drewN _⟩
              by_cases htj : t = j
              · rw [htj]; exact HG1.out
              · exact HALL.out t (by omega)
            case measure => simp [intOf]; omega
        · have hjk2 : k = j := by omega
          subst hjk2
          have HINS := Lib.hid (insL_at f out x k (by have := HLEN.out; omega) HALL.out (.inl (by have := HLEN.out; omega)))
          have HBE := HBX
          have HKX := Lib.hid kx
          clear kx kx0
          obtain ⟨wE, rfl⟩ : ∃ wE : World, wE = wr := ⟨_, rfl⟩
          have HDR := Lib.hid (show out.drop k = [] from List.drop_of_length_le (by have := HLEN.out; omega))
          have HRO := Lib.hid (ownsRow_below HO.out HBE.out)
          have hsome : (a5 = none ∧ k = 0 ∧ c5 = 0) ∨ ∃ g, a5 = some ⟨g, 0, none⟩ := by
            rcases HO.out.2 with ⟨e, h0⟩ | ⟨g, _, _, e, _⟩
            · simp only [Value.slice.injEq] at e; exact .inl ⟨e.1, h0, e.2.2⟩
            · simp only [Value.slice.injEq] at e; exact .inr ⟨g, e.1⟩
          rcases hsome with ⟨rfl, hk00, rfl⟩ | ⟨g, rfl⟩
          · subst hk00
            have HPRE := Lib.hid (show Reads wE 1 (.slice none 0 0) 0 ((out.take 0).map (Value.int .i64)) from reads_none)
            have HSUF := Lib.hid (show Reads wE 1 (.slice none 0 0) 0 ((out.drop 0).map (Value.int .i64)) by rw [HDR.out]; exact reads_none)
            have hbE : b < wE.heap.size := by have := HBE.out.size; omega
            have kxE := HKX.out
            simp only [Nat.add_zero] at kxE
            go_wp2_with (first
              | (at_builtin; refine wpList_append_reads _ rfl (.tmp 59) (.tmp 64) 42 rfl wE.heap.size 3 i0 (.int .i64 0) 1 8 Try.underlying42 HI.out HZ0.out HZ1.out HZ2.out rfl (by decide) (.slice (some ⟨wE.heap.size, 0, none⟩) 0 0) 0 [] rfl ((World.ownsRow_lit wE #[] 0 (Nat.le_refl _) (by unfold maxLen; omega) rfl).alloc _) (.slice (some ⟨wE.heap.size + 1, 0, none⟩) 1 1) 1 [.int .i64 x] rfl (by have h := reads_unit (wE.alloc (.cells #[] 3)) (.int .i64 x); simp only [World.size_alloc] at h; exact h) (by simp [Value.oneCell']) (by unfold maxLen; omega) (by omega) (by simp; omega) ?_; intro v2 w2 ho2 hg2 _; simp only [Nat.zero_add, List.nil_append] at ho2; have HBb := Lib.hid (show Below wE.heap.size wE w2 from Below.grown (Below.alloc (Below.alloc (Below.refl _ _) (Nat.le_refl _) _) (by simp) _) hg2 (by simp; omega) (fun q hq => by simp [Value.ownBlock] at hq; omega)); have HO2 := Lib.hid ho2; have hz2 := HBb.out.size; clear ho2 hg2)
              | (at_builtin; refine wpList_append_reads _ rfl (.tmp 66) (.tmp 69) 42 rfl wE.heap.size 3 i0 (.int .i64 0) 1 8 Try.underlying42 HI.out HZ0.out HZ1.out HZ2.out rfl (by decide) v2 1 [.int .i64 x] rfl HO2.out (.slice none 0 0) 0 [] rfl reads_none (by simp) (by unfold maxLen; omega) (by omega) (by omega) ?_; intro v3 w3 ho3 hg3 _; simp only [Nat.add_zero, List.append_nil] at ho3; have HBc := Lib.hid (show Below wE.heap.size wE w3 from HBb.out.grown hg3 (by omega) (fun q hq => (HO2.out.lt q hq).1)); have HO3 := Lib.hid ho3; clear ho3 hg3))
            go_roundw
            case rel =>
              refine ⟨0 + 1, v3, by omega, by go_num, rfl, ?_, ?_⟩
              · have h := ownsRow_mono HO3.out (show w.heap.size ≤ wE.heap.size by have := HBE.out.size; omega)
                have e : (refOrd f (ns.take (0 + 1))).map (Value.int .i64) = [.int .i64 x] := by
                  rw [HTK.out, refOrd_snoc, ← HOUT.out, HINS.out, List.take_zero, HDR.out]; simp
                rw [e]
                exact h
              · exact (HB.out.trans (HBE.out.mono hzr)).trans (HBc.out.mono (by have := HBE.out.size; omega))
            case measure => simp [intOf]; omega
          · have hc := owns_cap HO.out
            have HPRE := Lib.hid (show Reads wE 1 (.slice (some ⟨g, 0, none⟩) k c5) k ((out.take k).map (Value.int .i64)) by rw [List.map_take]; exact reads_pre HRO.out (Nat.le_refl _))
            have hkc : (k : Int) ≤ (c5 : Int) := by omega
            by_cases hcc : k = c5
            · subst hcc
              have HSUF := Lib.hid (show Reads wE 1 (.slice (some ⟨g, 0, none⟩) 0 0) 0 ((out.drop k).map (Value.int .i64)) by rw [HDR.out]; exact reads_nothing)
              clear hc
              have hbE : b < wE.heap.size := by have := HBE.out.size; omega
              go_wp2_with (first
                | (at_builtin; refine wpList_append_reads _ rfl (.tmp 54) (.tmp 57) 42 rfl wE.heap.size 3 i0 (.int .i64 0) 1 8 Try.underlying42 HI.out HZ0.out HZ1.out HZ2.out rfl (by decide) (.slice (some ⟨wE.heap.size, 0, none⟩) 0 0) 0 [] rfl (World.ownsRow_lit wE #[] 0 (Nat.le_refl _) (by unfold maxLen; omega) rfl) (.slice (some ⟨g, 0, none⟩) k k) k ((out.take k).map (Value.int .i64)) rfl (HPRE.out.below (by repeat (first | (with_reducible exact Below.refl _ _) | (with_reducible refine Below.setCell ?_ ?_ _) | (with_reducible refine Below.alloc ?_ ?_ _) | (with_reducible refine Below.drewN ?_ _) | (with_reducible refine Below.drew ?_) | (with_reducible exact Nat.le_refl _) | (focus (simp only [World.size_alloc, World.size_setCell, World.size_drew, World.size_drewN]; omega)) | omega | exact Nat.le_refl _ | (focus (simp; done)) | (focus (simp; omega))))) (ints_one _) (by unfold maxLen; omega) (by omega) (by simp) ?_; intro v1 w1 ho1 hg1 _; simp only [Nat.zero_add, List.nil_append] at ho1; have HBa := Lib.hid (show Below wE.heap.size wE w1 from Below.grown (Below.alloc (Below.refl _ _) (Nat.le_refl _) _) hg1 (by simp) (fun q hq => by simp [Value.ownBlock] at hq; omega)); have HO1 := Lib.hid ho1; have kx1 := (HBa.out.cell (p := ⟨b, o + k, none⟩) hbE).trans HKX.out; have hz1 := HBa.out.size; clear ho1 hg1)
                | (at_builtin; refine wpList_append_reads _ rfl (.tmp 59) (.tmp 64) 42 rfl wE.heap.size 3 i0 (.int .i64 0) 1 8 Try.underlying42 HI.out HZ0.out HZ1.out HZ2.out rfl (by decide) v1 k ((out.take k).map (Value.int .i64)) rfl (HO1.out.alloc _) (.slice (some ⟨w1.heap.size, 0, none⟩) 1 1) 1 [.int .i64 x] rfl (reads_unit _ _) (by simp [Value.oneCell']) (by unfold maxLen; omega) (by omega) (by simp; omega) ?_; intro v2 w2 ho2 hg2 _; have HBb := Lib.hid (show Below wE.heap.size wE w2 from (HBa.out.alloc hz1 _).grown hg2 (by simp; omega) (fun q hq => (HO1.out.lt q hq).1)); have HO2 := Lib.hid ho2; have hz2 := HBb.out.size; clear ho2 hg2)
                | (at_builtin; refine wpList_append_reads _ rfl (.tmp 66) (.tmp 69) 42 rfl wE.heap.size 3 i0 (.int .i64 0) 1 8 Try.underlying42 HI.out HZ0.out HZ1.out HZ2.out rfl (by decide) v2 (k + 1) ((out.take k).map (Value.int .i64) ++ [.int .i64 x]) rfl HO2.out (.slice (some ⟨g, 0, none⟩) 0 0) (0) ((out.drop k).map (Value.int .i64)) rfl (HSUF.out.below HBb.out) (ints_one _) (by unfold maxLen; omega) (by omega) (by omega) ?_; intro v3 w3 ho3 hg3 _; have HBc := Lib.hid (show Below wE.heap.size wE w3 from HBb.out.grown hg3 (by omega) (fun q hq => (HO2.out.lt q hq).1)); have HO3 := Lib.hid ho3; clear ho3 hg3))
              go_roundw
              case rel =>
                refine ⟨k + 1, v3, by omega, by go_num, rfl, ?_, ?_⟩
                · have h := ownsRow_mono HO3.out (show w.heap.size ≤ wE.heap.size by have := HBE.out.size; omega)
                  have e : (refOrd f (ns.take (k + 1))).map (Value.int .i64) = ((out.take k).map (Value.int .i64) ++ [.int .i64 x]) ++ (out.drop k).map (Value.int .i64) := by
                    rw [HTK.out, refOrd_snoc, ← HOUT.out, HINS.out]; simp
                  rw [e]
                  have e2 : k + 1 + (0) = k + 1 := by omega
                  rw [e2] at h
                  exact h
                · exact (HB.out.trans (HBE.out.mono hzr)).trans (HBc.out.mono (by have := HBE.out.size; omega))
              case measure => simp [intOf]; omega
            · have hkc2 : (k : Int) < (c5 : Int) := by omega
              have HSUF := Lib.hid (show Reads wE 1 (.slice (some ⟨g, k, none⟩) 0 (c5 - k)) 0 ((out.drop k).map (Value.int .i64)) by rw [HDR.out]; exact reads_nothing)
              clear hc
              have hbE : b < wE.heap.size := by have := HBE.out.size; omega
              go_wp2_with (first
                | (at_builtin; refine wpList_append_reads _ rfl (.tmp 54) (.tmp 57) 42 rfl wE.heap.size 3 i0 (.int .i64 0) 1 8 Try.underlying42 HI.out HZ0.out HZ1.out HZ2.out rfl (by decide) (.slice (some ⟨wE.heap.size, 0, none⟩) 0 0) 0 [] rfl (World.ownsRow_lit wE #[] 0 (Nat.le_refl _) (by unfold maxLen; omega) rfl) (.slice (some ⟨g, 0, none⟩) k c5) k ((out.take k).map (Value.int .i64)) rfl (HPRE.out.below (by repeat (first | (with_reducible exact Below.refl _ _) | (with_reducible refine Below.setCell ?_ ?_ _) | (with_reducible refine Below.alloc ?_ ?_ _) | (with_reducible refine Below.drewN ?_ _) | (with_reducible refine Below.drew ?_) | (with_reducible exact Nat.le_refl _) | (focus (simp only [World.size_alloc, World.size_setCell, World.size_drew, World.size_drewN]; omega)) | omega | exact Nat.le_refl _ | (focus (simp; done)) | (focus (simp; omega))))) (ints_one _) (by unfold maxLen; omega) (by omega) (by simp) ?_; intro v1 w1 ho1 hg1 _; simp only [Nat.zero_add, List.nil_append] at ho1; have HBa := Lib.hid (show Below wE.heap.size wE w1 from Below.grown (Below.alloc (Below.refl _ _) (Nat.le_refl _) _) hg1 (by simp) (fun q hq => by simp [Value.ownBlock] at hq; omega)); have HO1 := Lib.hid ho1; have kx1 := (HBa.out.cell (p := ⟨b, o + k, none⟩) hbE).trans HKX.out; have hz1 := HBa.out.size; clear ho1 hg1)
                | (at_builtin; refine wpList_append_reads _ rfl (.tmp 59) (.tmp 64) 42 rfl wE.heap.size 3 i0 (.int .i64 0) 1 8 Try.underlying42 HI.out HZ0.out HZ1.out HZ2.out rfl (by decide) v1 k ((out.take k).map (Value.int .i64)) rfl (HO1.out.alloc _) (.slice (some ⟨w1.heap.size, 0, none⟩) 1 1) 1 [.int .i64 x] rfl (reads_unit _ _) (by simp [Value.oneCell']) (by unfold maxLen; omega) (by omega) (by simp; omega) ?_; intro v2 w2 ho2 hg2 _; have HBb := Lib.hid (show Below wE.heap.size wE w2 from (HBa.out.alloc hz1 _).grown hg2 (by simp; omega) (fun q hq => (HO1.out.lt q hq).1)); have HO2 := Lib.hid ho2; have hz2 := HBb.out.size; clear ho2 hg2)
                | (at_builtin; refine wpList_append_reads _ rfl (.tmp 66) (.tmp 69) 42 rfl wE.heap.size 3 i0 (.int .i64 0) 1 8 Try.underlying42 HI.out HZ0.out HZ1.out HZ2.out rfl (by decide) v2 (k + 1) ((out.take k).map (Value.int .i64) ++ [.int .i64 x]) rfl HO2.out (.slice (some ⟨g, k, none⟩) 0 (c5 - k)) (0) ((out.drop k).map (Value.int .i64)) rfl (HSUF.out.below HBb.out) (ints_one _) (by unfold maxLen; omega) (by omega) (by omega) ?_; intro v3 w3 ho3 hg3 _; have HBc := Lib.hid (show Below wE.heap.size wE w3 from HBb.out.grown hg3 (by omega) (fun q hq => (HO2.out.lt q hq).1)); have HO3 := Lib.hid ho3; clear ho3 hg3))
              go_roundw
              case rel =>
                refine ⟨k + 1, v3, by omega, by go_num, rfl, ?_, ?_⟩
                · have h := ownsRow_mono HO3.out (show w.heap.size ≤ wE.heap.size by have := HBE.out.size; omega)
                  have e : (refOrd f (ns.take (k + 1))).map (Value.int .i64) = ((out.take k).map (Value.int .i64) ++ [.int .i64 x]) ++ (out.drop k).map (Value.int .i64) := by
                    rw [HTK.out, refOrd_snoc, ← HOUT.out, HINS.out]; simp
                  rw [e]
                  have e2 : k + 1 + (0) = k + 1 := by omega
                  rw [e2] at h
                  exact h
                · exact (HB.out.trans (HBE.out.mono hzr)).trans (HBc.out.mono (by have := HBE.out.size; omega))
              case measure => simp [intOf]; omega
    · have hks : k = ns.length := by omega
      have HKS := Lib.hid (show ns.take k = ns from List.take_of_length_le (by omega))
      go_wp2_with fail
      go_ret
      have h := HO.out
      rw [HKS.out] at h
      subst hks
      exact ⟨.slice a5 ns.length c5, rfl, h, HB.out⟩
end Go.Proofs.Ytigkcbnlbdiimaa

/- place.Even, corncribref27.Even. -/
namespace Go.Proofs.Ytigkcbnlbdiimaa
open Go.RowKit
def lightI (es : List Ent) (ns : List Int) : Int := (sortI (fun k => (loadN es k : Int)) ns).getD 0 0
def heavyI (es : List Ent) (ns : List Int) : Int := (sortI (fun k => (loadN es k : Int)) ns).getD (ns.length - 1) 0
/-- A volume that the heavy node has, and the light one hasn't. -/
def canGo (a b : Int) (x : Ent) : Bool := hasB x b && !hasB x a
def Mv.of (a b : Int) (x : Ent) : Mv := ⟨x.vol, x.epoch, hasI x b, a⟩
def evenAB (es : List Ent) (a b : Int) : Option Mv := if loadN es b < loadN es a + 2 then none else (es.find? (canGo a b)).map (Mv.of a b)
def evenI (es : List Ent) (ns : List Int) : Option Mv := evenAB es (lightI es ns) (heavyI es ns)
theorem evenAB_low {es : List Ent} {a b : Int} (h : loadN es b < loadN es a + 2) : evenAB es a b = none := by rw [evenAB, if_pos h]
theorem evenAB_go {es : List Ent} {a b : Int} (h : ¬ loadN es b < loadN es a + 2) : evenAB es a b = (es.find? (canGo a b)).map (Mv.of a b) := by rw [evenAB, if_neg h]
def mvVal : Option Mv → Value
  | none => .agg #[.int .i64 0, .int .i64 0, .int .i64 0, .int .i64 0]
  | some m => .agg #[.int .i64 m.vol, .int .i64 m.epoch, .int .i64 m.spot, .int .i64 m.node]
theorem mvVal_of {o : Option Ent} {a b : Int} {x : Ent} (h : o = some x) : mvVal (o.map (Mv.of a b)) = .agg #[.int .i64 x.vol, .int .i64 x.epoch, .int .i64 (hasI x b), .int .i64 a] := by subst h; rfl
theorem find_drop {α : Type} {p : α → Bool} {l : List α} {k : Nat} {x : α} (hx : l[k]? = some x) : (l.drop k).find? p = if p x then some x else (l.drop (k + 1)).find? p := by
  obtain ⟨hk, h⟩ := List.getElem?_eq_some_iff.1 hx
  rw [List.drop_eq_getElem_cons hk, List.find?_cons, h]
  cases p x <;> rfl
theorem ends_of {w : World} {base : Nat} {v : Value} {l : List Int} {n : Nat} (h : w.ownsRow base 3 1 v n (l.map (Value.int .i64))) (hl : l.length = n) (h0 : 0 < n) :
    ∃ g c, v = .slice (some ⟨g, 0, none⟩) n c ∧ base ≤ g ∧ w.cell? ⟨g, 0, none⟩ = some (.int .i64 (l.getD 0 0)) ∧ w.cell? ⟨g, n - 1, none⟩ = some (.int .i64 (l.getD (n - 1) 0)) := by
  obtain ⟨a, c, rfl⟩ := ownsRow_len h
  obtain ⟨g, rfl⟩ : ∃ g, a = some ⟨g, 0, none⟩ := by
    rcases h.2 with ⟨e, h1⟩ | ⟨g, _, _, e, _⟩
    · omega
    · simp only [Value.slice.injEq] at e
      exact ⟨g, e.1⟩
  have k0 := h.cellAt 0 (by omega)
  have k1 := h.cellAt (n - 1) (by omega)
  refine ⟨g, c, rfl, (h.lt g rfl).1, ?_, ?_⟩
  · rw [k0, List.getElem?_map, List.getElem?_eq_getElem (by omega)]; simp [show 0 < l.length by omega]
  · rw [k1, List.getElem?_map, List.getElem?_eq_getElem (by omega)]; simp [show n - 1 < l.length by omega]
set_option maxHeartbeats 1000000 in
theorem peven_bad (base bm : Nat) (v va : Value) (es : List Ent) (ns : List Int) (w : World) (h : MapAt w base bm v es) (hr : Reads w 1 va ns.length (ns.map (Value.int .i64))) (hcap : ∀ a n c, va = .slice a n c → n ≤ c) (hok : rightB ns = false) :
    Calls Try.prog 52 #[.pointer (some ⟨bm, 0, none⟩), va] w fun e w' => e = .returned (.tuple #[mvVal none, .bool false, errV 1]) ∧ Below w.heap.size w w' := by
  have HN := Lib.hid (errV_ne (k := 1) (by omega))
  have HO := Lib.hid (fun W (hb : Below w.heap.size w W) => porder_bad base bm v va es ns W (h.below hb) (hr.below hb) hcap hok)
  clear h hr hcap hok
  go_enter Try.func52, Try.ntmps52
  go_wp2_with fail
  refine (HO.out _ (by repeat (first | (with_reducible exact Below.refl _ _) | (with_reducible refine Below.setCell ?_ ?_ _) | (with_reducible refine Below.alloc ?_ ?_ _) | (with_reducible refine Below.drewN ?_ _) | (with_reducible refine Below.drew ?_) | (with_reducible exact Nat.le_refl _) | (focus (simp only [World.size_alloc, World.size_setCell, World.size_drew, World.size_drewN]; omega)) | omega | exact Nat.le_refl _ | (focus (simp; done)) | (focus (simp; omega))))).mono ?_
  rintro e w1 ⟨rfl, rfl⟩
  rw [HN.out]
  go_wp2_with fail
  refine bodyPost_ret (v := .tuple #[.agg #[.int .i64 0, .int .i64 0, .int .i64 0, .int .i64 0], .bool false, .iface 106 (.int .i64 1)]) ?_ rfl ?_
  · simp [results, Try.results52, go_sem]
  · exact ⟨by rw [HN.out]; rfl, (by repeat (first | (with_reducible exact Below.refl _ _) | (with_reducible refine Below.setCell ?_ ?_ _) | (with_reducible refine Below.alloc ?_ ?_ _) | (with_reducible refine Below.drewN ?_ _) | (with_reducible refine Below.drew ?_) | (with_reducible exact Nat.le_refl _) | (focus (simp only [World.size_alloc, World.size_setCell, World.size_drew, World.size_drewN]; omega)) | omega | exact Nat.le_refl _ | (focus (simp; done)) | (focus (simp; omega))))⟩
set_option maxRecDepth 100000 in
set_option maxHeartbeats 1000000 in
theorem peven_few (base bm : Nat) (v va : Value) (es : List Ent) (ns : List Int) (w : World) (h : MapAt w base bm v es) (hno : NodesOk es) (hr : Reads w 1 va ns.length (ns.map (Value.int .i64))) (hcap : ∀ a n c, va = .slice a n c → n ≤ c) (hok : rightB ns = true) (hl : ns.length < 2) :
    Calls Try.prog 52 #[.pointer (some ⟨bm, 0, none⟩), va] w fun e w' => e = .returned (.tuple #[mvVal none, .bool false, errV 11]) ∧ Below w.heap.size w w' := by
  have HN := Lib.hid (errV_ne (k := 11) (by omega))
  have HO := Lib.hid (fun W (hb : Below w.heap.size w W) => porder_any base bm v va es ns W (h.below hb) hno (hr.below hb) hcap hok)
  have hd : decide ((ns.length : Int) < 2) = true := by simp; omega
  clear h hr hcap hok hno hl
  go_enter Try.func52, Try.ntmps52
  go_wp2_with fail
  refine (HO.out _ (by repeat (first | (with_reducible exact Below.refl _ _) | (with_reducible refine Below.setCell ?_ ?_ _) | (with_reducible refine Below.alloc ?_ ?_ _) | (with_reducible refine Below.drewN ?_ _) | (with_reducible refine Below.drew ?_) | (with_reducible exact Nat.le_refl _) | (focus (simp only [World.size_alloc, World.size_setCell, World.size_drew, World.size_drewN]; omega)) | omega | exact Nat.le_refl _ | (focus (simp; done)) | (focus (simp; omega))))).mono ?_
  rintro e w1 ⟨v1, rfl, ho1, hb1⟩
  obtain ⟨a1, c1, rfl⟩ := ownsRow_len ho1
  have hbk := hb1.block w.heap.size (by simp)
  rw [heap_alloc_new] at hbk
  have z0 := cell_of_row w1 w.heap.size 0 _ _ _ hbk
  have z1 := cell_of_row w1 w.heap.size 1 _ _ _ hbk
  have z2 := cell_of_row w1 w.heap.size 2 _ _ _ hbk
  have z3 := cell_of_row w1 w.heap.size 3 _ _ _ hbk
  have zf := fun o => frozen_of_row w1 w.heap.size o _ _ hbk
  simp at z0 z1 z2 z3
  have hz1 := hb1.size
  simp only [World.size_alloc] at hz1
  have HB1 := Lib.hid (show Below w.heap.size w w1 from Below.trans (by repeat (first | (with_reducible exact Below.refl _ _) | (with_reducible refine Below.setCell ?_ ?_ _) | (with_reducible refine Below.alloc ?_ ?_ _) | (with_reducible refine Below.drewN ?_ _) | (with_reducible refine Below.drew ?_) | (with_reducible exact Nat.le_refl _) | (focus (simp only [World.size_alloc, World.size_setCell, World.size_drew, World.size_drewN]; omega)) | omega | exact Nat.le_refl _ | (focus (simp; done)) | (focus (simp; omega)))) (hb1.mono (by simp)))
  clear ho1 hb1 hbk
  go_wp2_with fail
  refine bodyPost_ret (v := .tuple #[.agg #[.int .i64 0, .int .i64 0, .int .i64 0, .int .i64 0], .bool false, .iface 106 (.int .i64 11)]) ?_ rfl ?_
  · simp [results, Try.results52, go_sem, z0, z1, z2, z3]
  · refine ⟨by rw [HN.out]; rfl, ?_⟩
    (repeat (with_reducible refine Below.setCell ?_ ?_ _; rotate_left; focus (simp; done)))
    exact HB1.out
set_option maxRecDepth 100000 in
set_option maxHeartbeats 4000000 in
theorem peven_any (base bm : Nat) (v va : Value) (es : List Ent) (ns : List Int) (w : World) (h : MapAt w base bm v es) (hno : NodesOk es) (hr : Reads w 1 va ns.length (ns.map (Value.int .i64))) (hcap : ∀ a n c, va = .slice a n c → n ≤ c) (hok : rightB ns = true) (hl : 2 ≤ ns.length) :
    Calls Try.prog 52 #[.pointer (some ⟨bm, 0, none⟩), va] w fun e w' => e = .returned (.tuple #[mvVal (evenI es ns), .bool (evenI es ns).isSome, .nilIface]) ∧ Below w.heap.size w w' := by
  have hfew := h.few
  have H := Lib.hid h
  have HO := Lib.hid (fun W (hb : Below w.heap.size w W) => porder_any base bm v va es ns W (h.below hb) hno (hr.below hb) hcap hok)
  have HLEN := Lib.hid (show (sortI (fun k => (loadN es k : Int)) ns).length = ns.length by simp [sortI])
  have hd : decide ((ns.length : Int) < 2) = false := by simp; omega
  have hl0 : (0 : Int) < (ns.length : Int) := by omega
  have hl0' : 0 < ns.length := by omega
  obtain ⟨a, ha⟩ : ∃ a, lightI es ns = a := ⟨_, rfl⟩
  obtain ⟨b, hb⟩ : ∃ b, heavyI es ns = b := ⟨_, rfl⟩
  obtain ⟨ev, hev⟩ : ∃ ev, ev = evenI es ns := ⟨_, rfl⟩
  rw [← hev]
  have HEV := Lib.hid (show ev = evenAB es a b by rw [hev, evenI, ha, hb])
  have HA := Lib.hid ha
  have HBB := Lib.hid hb
  unfold lightI at HA
  unfold heavyI at HBB
  clear h hr hcap hok hno ha hb hev
  obtain ⟨nl, hnl⟩ : ∃ nl, nl = ns.length - 1 := ⟨_, rfl⟩
  rw [← hnl] at HBB
  have HNL := Lib.hid hnl
  have hn1 : (nl : Int) < (ns.length : Int) := by omega
  have hn1' : nl < ns.length := by omega
  clear hnl
  go_enter Try.func52, Try.ntmps52
  go_wp2_with fail
  refine (HO.out _ (by repeat (first | (with_reducible exact Below.refl _ _) | (with_reducible refine Below.setCell ?_ ?_ _) | (with_reducible refine Below.alloc ?_ ?_ _) | (with_reducible refine Below.drewN ?_ _) | (with_reducible refine Below.drew ?_) | (with_reducible exact Nat.le_refl _) | (focus (simp only [World.size_alloc, World.size_setCell, World.size_drew, World.size_drewN]; omega)) | omega | exact Nat.le_refl _ | (focus (simp; done)) | (focus (simp; omega))))).mono ?_
  rintro e w1 ⟨v1, rfl, ho1, hb1⟩
  obtain ⟨g, c1, rfl, hg, k0, k1⟩ := ends_of ho1 HLEN.out (by omega)
  rw [← HNL.out] at k1
  rw [HA.out] at k0
  rw [HBB.out] at k1
  have hbk := hb1.block w.heap.size (by simp)
  rw [heap_alloc_new] at hbk
  have HBK := Lib.hid hbk
  have hz1 := hb1.size
  simp only [World.size_alloc] at hz1
  have hcc := owns_cap ho1
  have hm := hcc.2
  have hlc : (ns.length : Int) ≤ (c1 : Int) := by omega
  have HB1 := Lib.hid (show Below w.heap.size w w1 from Below.trans (by repeat (first | (with_reducible exact Below.refl _ _) | (with_reducible refine Below.setCell ?_ ?_ _) | (with_reducible refine Below.alloc ?_ ?_ _) | (with_reducible refine Below.drewN ?_ _) | (with_reducible refine Below.drew ?_) | (with_reducible exact Nat.le_refl _) | (focus (simp only [World.size_alloc, World.size_setCell, World.size_drew, World.size_drewN]; omega)) | omega | exact Nat.le_refl _ | (focus (simp; done)) | (focus (simp; omega)))) (hb1.mono (by simp)))
  have hle1 := loadN_le es a
  have hle2 := loadN_le es b
  clear ho1 hb1 hbk hcc
  have hws : IntKind.i64.wrap ((ns.length : Int) - 1) = (nl : Int) := by
    have := HNL.out
    rw [IntWalk.i64_in _ (by omega)]; omega
  go_wp2_with fail
  refine wp_region_now0 [2, 8] [(0, 0), (1, 0), (2, 2), (3, 0), (4, 0), (5, 0), (6, 0), (7, 0), (8, 2), (9, 0), (10, 0)] (by kernel_rfl) (by kernel_rfl) rfl (by kernel_rfl) ?_
  refine stepE0 rfl rfl (fun K hK => ?_)
  go_simp
  refine hK _ ?_
  clear hK K
  refine stepE0 rfl rfl (fun K hK => ?_)
  go_simp
  refine hK _ ?_
  clear hK K
  refine stepE2 rfl rfl ?_ (fun w1 hS => ?_) (fun K hK => ?_)
  rotate_left
  focus (obtain rfl : w1 = _ := hS; go_simp; rfl)
  go_simp
  refine hK _ ?_
  clear hK K
  refine stepE0 rfl rfl (fun K hK => ?_)
  go_simp
  refine hK _ ?_
  clear hK K
  refine stepE0 rfl rfl (fun K hK => ?_)
  go_simp
  refine hK _ ?_
  clear hK K
  refine stepE0 rfl rfl (fun K hK => ?_)
  go_simp
  refine hK _ ?_
  clear hK K
  refine stepE0 rfl rfl (fun K hK => ?_)
  go_simp
  refine hK _ ?_
  clear hK K
  refine stepE0 rfl rfl (fun K hK => ?_)
  go_simp
  refine hK _ ?_
  clear hK K
  refine stepE2 rfl rfl ?_ (fun w1 hS => ?_) (fun K hK => ?_)
  rotate_left
  focus (obtain rfl : w1 = _ := hS; go_simp; rfl)
  go_simp
  refine hK _ ?_
  clear hK K
  refine stepE0 rfl rfl (fun K hK => ?_)
  go_simp
  refine hK _ ?_
  clear hK K
  refine stepE0 rfl rfl (fun K hK => ?_)
  go_simp
  refine hK _ ?_
  clear hK K
  try refine stepEnil0 ?_
  clear hws
  go_wp2_with fail
  refine (pload_any base bm v es b _ (H.out.below (by exact HB1.out.drew))).mono ?_
  rintro e w2 ⟨rfl, hb2⟩
  have HB2 := Lib.hid (show Below w1.heap.size w1 w2 from Below.trans (b := w1.drew) (by repeat (first | (with_reducible exact Below.refl _ _) | (with_reducible refine Below.setCell ?_ ?_ _) | (with_reducible refine Below.alloc ?_ ?_ _) | (with_reducible refine Below.drewN ?_ _) | (with_reducible refine Below.drew ?_) | (with_reducible exact Nat.le_refl _) | (focus (simp only [World.size_alloc, World.size_setCell, World.size_drew, World.size_drewN]; omega)) | omega | exact Nat.le_refl _ | (focus (simp; done)) | (focus (simp; omega)))) (hb2.mono (by simp)))
  have hz2 := HB2.out.size
  clear hb2
  go_wp2_with fail
  refine (pload_any base bm v es a _ (H.out.below (HB1.out.trans (HB2.out.mono (by omega))))).mono ?_
  rintro e w3 ⟨rfl, hb3⟩
  have HB3 := Lib.hid (show Below w1.heap.size w1 w3 from HB2.out.trans (hb3.mono hz2))
  have HBW := Lib.hid (show Below w.heap.size w w3 from HB1.out.trans (HB3.out.mono (by omega)))
  have hz3 := HB3.out.size
  have hbk := (HB3.out.block w.heap.size (by omega)).trans HBK.out
  have z0 := cell_of_row w3 w.heap.size 0 _ _ _ hbk
  have z1 := cell_of_row w3 w.heap.size 1 _ _ _ hbk
  have z2 := cell_of_row w3 w.heap.size 2 _ _ _ hbk
  have z3 := cell_of_row w3 w.heap.size 3 _ _ _ hbk
  have zf := fun o => frozen_of_row w3 w.heap.size o _ _ hbk
  simp at z0 z1 z2 z3
  have hzw : w.heap.size < w3.heap.size := by omega
  clear hb3 k0 k1
  have HBK3 := Lib.hid hbk
  clear hbk
  have hq0 : (0 : Int) ≤ (loadN es a : Int) ∧ (0 : Int) ≤ (loadN es b : Int) := by omega
  obtain ⟨hq1, hq2⟩ := hq0
  by_cases hlow : loadN es b < loadN es a + 2
  · have ht : decide ((loadN es b : Int) - (loadN es a : Int) < 2) = true := by simp; omega
    have HL := Lib.hid (evenAB_low hlow)
    clear hlow
    go_wp2_with fail
    refine bodyPost_ret (v := .tuple #[.agg #[.int .i64 0, .int .i64 0, .int .i64 0, .int .i64 0], .bool false, .nilIface]) ?_ rfl ?_
    · simp [results, Try.results52, go_sem, z0, z1, z2, z3]
    · refine ⟨by rw [HEV.out, HL.out]; rfl, ?_⟩
      (repeat (with_reducible refine Below.setCell ?_ ?_ _; rotate_left; focus (simp; done)))
      exact HBW.out
  · have ht : decide ((loadN es b : Int) - (loadN es a : Int) < 2) = false := by simp; omega
    have HL := Lib.hid (evenAB_go hlow)
    clear hlow
    go_wp2_with fail
    refine (all_any base bm v es _ (H.out.below HBW.out)).mono ?_
    rintro e w4 ⟨v4, rfl, ho4, _, hb4⟩
    obtain ⟨a4, c4, rfl⟩ := ownsRow_len ho4
    have HO4 := Lib.hid ho4
    have HBW4 := Lib.hid (HBW.out.trans (hb4.mono (by omega)))
    have HBK4 := Lib.hid ((hb4.block w.heap.size hzw).trans HBK3.out)
    have hz4 := hb4.size
    clear ho4 hb4 ht z0 z1 z2 z3 zf
    generalize loadN es a = la at *
    generalize loadN es b = lb at *
    go_wp2_with fail
    go_loopw [50] (fun i wr => ∃ k : Nat, k ≤ es.length ∧ i = .int .i64 k ∧ es.find? (canGo a b) = (es.drop k).find? (canGo a b) ∧ Below w4.heap.size w4 wr) (fun i _ => es.length - (intOf i).toNat)
    case atStart => exact ⟨0, Nat.zero_le _, rfl, rfl, Below.refl _ _⟩
    case round =>
      obtain ⟨k, hk, rfl, hfind, hbw⟩ := hrel
      have HF := Lib.hid hfind
      have HBR := Lib.hid hbw
      have hzr := hbw.size
      have hbk := (hbw.block w.heap.size (by omega)).trans HBK4.out
      have z0 := cell_of_row wr w.heap.size 0 _ _ _ hbk
      have z1 := cell_of_row wr w.heap.size 1 _ _ _ hbk
      have z2 := cell_of_row wr w.heap.size 2 _ _ _ hbk
      have z3 := cell_of_row wr w.heap.size 3 _ _ _ hbk
      have zf := fun o => frozen_of_row wr w.heap.size o _ _ hbk
      simp at z0 z1 z2 z3
      have hzw4 : w.heap.size < wr.heap.size := by omega
      clear hfind hbw hbk
      by_cases hlt : k < es.length
      · obtain ⟨x, hx⟩ : ∃ x, es[k]? = some x := ⟨_, List.getElem?_eq_getElem hlt⟩
        obtain ⟨g3, cc3, e3, hg3, _, _, x0, x1, x2, x3, x4, x5⟩ := row_ent (ownsRow_below HO4.out HBR.out) k x hx
        obtain ⟨e3', -, e3''⟩ := slice_inj e3
        subst e3' e3''
        have HX := Lib.hid (find_drop (p := canGo a b) hx)
        have HP := Lib.hid (hasI_pos x b)
        have HC := Lib.hid (contains_has x a)
        have HCG := Lib.hid (show canGo a b x = (hasB x b && !hasB x a) from rfl)
        clear hx e3
        obtain ⟨ha1, hbb1⟩ : ∃ p q, hasB x b = p ∧ hasB x a = q := ⟨_, _, rfl, rfl⟩
        obtain ⟨hq, hpe, hqe⟩ := hbb1
        rw [hpe] at HP HCG
        rw [hqe] at HC HCG
        clear hpe hqe
        have HI := Lib.hid (fun W h0 h1 h2 => index3 wr.heap.size 2 3 x b W h0 h1 h2)
        have hcg : canGo a b x = (ha1 && !hq) := HCG.out
        obtain ⟨r, hr⟩ : ∃ r, r = hasI x b := ⟨_, rfl⟩
        rw [← hr] at HI HP
        have HR := Lib.hid hr
        have HCG2 := Lib.hid hcg
        have HMV := Lib.hid (fun (h : es.find? (canGo a b) = some x) => mvVal_of (a := a) (b := b) h)
        clear hcg hr HCG
        obtain ⟨xv, xe, xa, xb, xc, xs⟩ := x
        simp only at x0 x1 x2 x3 x4 x5
        have hk0 : (0 : Int) ≤ (k : Int) := by omega
        have hk1 : (k : Int) < (es.length : Int) := by omega
        cases ha1
        · have hi : decide (0 ≤ r) = false := HP.out
          go_wp2_with fail
          refine (HI.out _ (by go_simp) (by go_simp) (by go_simp)).mono ?_
          rintro e w5 ⟨rfl, rfl⟩
          go_wp2_with fail
          go_roundw
          case rel => exact ⟨k + 1, by omega, by go_num, by rw [HF.out, HX.out, HCG2.out]; rfl, HBR.out.alloc hzr _⟩
          case measure => simp [intOf]; omega
        · have hi : decide (0 ≤ r) = true := HP.out
          cases hq
          · go_wp2_with fail
            refine (HI.out _ (by go_simp) (by go_simp) (by go_simp)).mono ?_
            rintro e w5 ⟨rfl, rfl⟩
            go_wp2_with fail
            refine (contains3 wr.heap.size 2 _ xa xb xc a _ _ HC.out (by go_simp) (by go_simp) (by go_simp)).mono ?_
            rintro e w5 ⟨rfl, rfl⟩
            go_wp2_with fail
            have HFS := Lib.hid (show es.find? (canGo a b) = some ⟨xv, xe, xa, xb, xc, xs⟩ by rw [HF.out, HX.out, HCG2.out]; rfl)
            refine bodyPost_ret (v := .tuple #[.agg #[.int .i64 xv, .int .i64 xe, .int .i64 r, .int .i64 a], .bool true, .nilIface]) ?_ rfl ?_
            · simp [results, Try.results52, go_sem, z0, z1, z2, z3, World.cell?_alloc_lt, hzw4]
            · refine ⟨by rw [HEV.out, HL.out, HMV.out HFS.out, HFS.out, HR.out]; rfl, ?_⟩
              refine Below.alloc ?_ (by simp; omega) _
              (repeat (with_reducible refine Below.setCell ?_ ?_ _; rotate_left; focus (simp; done)))
              exact HBW4.out.trans (HBR.out.mono (by omega))
          · go_wp2_with fail
            refine (HI.out _ (by go_simp) (by go_simp) (by go_simp)).mono ?_
            rintro e w5 ⟨rfl, rfl⟩
            go_wp2_with fail
            refine (contains3 wr.heap.size 2 _ xa xb xc a _ _ HC.out (by go_simp) (by go_simp) (by go_simp)).mono ?_
            rintro e w5 ⟨rfl, rfl⟩
            go_wp2_with fail
            go_roundw
            case rel => exact ⟨k + 1, by omega, by go_num, by rw [HF.out, HX.out, HCG2.out]; rfl, HBR.out.alloc hzr _⟩
            case measure => simp [intOf]; omega
      · have HN := Lib.hid (show es.find? (canGo a b) = none by rw [HF.out, List.drop_eq_nil_of_le (by omega)]; rfl)
        go_wp2_with fail
        refine bodyPost_ret (v := .tuple #[.agg #[.int .i64 0, .int .i64 0, .int .i64 0, .int .i64 0], .bool false, .nilIface]) ?_ rfl ?_
        · simp [results, Try.results52, go_sem, z0, z1, z2, z3]
        · refine ⟨by rw [HEV.out, HL.out, HN.out]; rfl, ?_⟩
          (repeat (with_reducible refine Below.setCell ?_ ?_ _; rotate_left; focus (simp; done)))
          exact HBW4.out.trans (HBR.out.mono (by omega))
set_option maxRecDepth 100000 in
set_option maxHeartbeats 4000000 in
theorem reven_any (base : Nat) (v va : Value) (es : List Ent) (ns : List Int) (w : World) (h : w.ownsRow base 128 6 v es.length (es.flatMap Ent.row)) (hfew : es.length ≤ 4096) (hr : Reads w 1 va ns.length (ns.map (Value.int .i64))) (hl : 2 ≤ ns.length) (hn : ns.length ≤ 100) :
    Calls Try.prog 54 #[v, va] w fun e w' => e = .returned (.tuple #[mvVal (evenI es ns), .bool (evenI es ns).isSome]) ∧ Below w.heap.size w w' := by
  have H := Lib.hid h
  obtain ⟨a0, cap0, rfl⟩ := ownsRow_len h
  have HO := Lib.hid (fun W (hb : Below w.heap.size w W) => rorder_any base _ va es ns W (ownsRow_below h hb) hfew (hr.below hb) hn)
  have HLEN := Lib.hid (show (sortI (fun k => (loadN es k : Int)) ns).length = ns.length by simp [sortI])
  have hl0 : (0 : Int) < (ns.length : Int) := by omega
  have hl0' : 0 < ns.length := by omega
  obtain ⟨a, ha⟩ : ∃ a, lightI es ns = a := ⟨_, rfl⟩
  obtain ⟨b, hb⟩ : ∃ b, heavyI es ns = b := ⟨_, rfl⟩
  obtain ⟨ev, hev⟩ : ∃ ev, ev = evenI es ns := ⟨_, rfl⟩
  rw [← hev]
  have HEV := Lib.hid (show ev = evenAB es a b by rw [hev, evenI, ha, hb])
  have HA := Lib.hid ha
  have HBB := Lib.hid hb
  unfold lightI at HA
  unfold heavyI at HBB
  clear h hr ha hb hev
  obtain ⟨nl, hnl⟩ : ∃ nl, nl = ns.length - 1 := ⟨_, rfl⟩
  rw [← hnl] at HBB
  have HNL := Lib.hid hnl
  have hn1 : (nl : Int) < (ns.length : Int) := by omega
  have hn1' : nl < ns.length := by omega
  clear hnl
  go_enter Try.func54, Try.ntmps54
  go_wp2_with fail
  refine (HO.out _ (by repeat (first | (with_reducible exact Below.refl _ _) | (with_reducible refine Below.setCell ?_ ?_ _) | (with_reducible refine Below.alloc ?_ ?_ _) | (with_reducible refine Below.drewN ?_ _) | (with_reducible refine Below.drew ?_) | (with_reducible exact Nat.le_refl _) | (focus (simp only [World.size_alloc, World.size_setCell, World.size_drew, World.size_drewN]; omega)) | omega | exact Nat.le_refl _ | (focus (simp; done)) | (focus (simp; omega))))).mono ?_
  rintro e w1 ⟨v1, rfl, ho1, hb1⟩
  obtain ⟨g, c1, rfl, hg, k0, k1⟩ := ends_of ho1 HLEN.out (by omega)
  rw [← HNL.out] at k1
  rw [HA.out] at k0
  rw [HBB.out] at k1
  have hbk := hb1.block w.heap.size (by simp)
  rw [heap_alloc_new] at hbk
  have HBK := Lib.hid hbk
  have hz1 := hb1.size
  simp only [World.size_alloc] at hz1
  have hcc := owns_cap ho1
  have hm := hcc.2
  have hlc : (ns.length : Int) ≤ (c1 : Int) := by omega
  have HB1 := Lib.hid (show Below w.heap.size w w1 from Below.trans (by repeat (first | (with_reducible exact Below.refl _ _) | (with_reducible refine Below.setCell ?_ ?_ _) | (with_reducible refine Below.alloc ?_ ?_ _) | (with_reducible refine Below.drewN ?_ _) | (with_reducible refine Below.drew ?_) | (with_reducible exact Nat.le_refl _) | (focus (simp only [World.size_alloc, World.size_setCell, World.size_drew, World.size_drewN]; omega)) | omega | exact Nat.le_refl _ | (focus (simp; done)) | (focus (simp; omega)))) (hb1.mono (by simp)))
  have hle1 := loadN_le es a
  have hle2 := loadN_le es b
  clear ho1 hb1 hbk hcc
  have hws : IntKind.i64.wrap ((ns.length : Int) - 1) = (nl : Int) := by
    have := HNL.out
    rw [IntWalk.i64_in _ (by omega)]; omega
  go_wp2_with fail
  refine wp_region_now0 [2, 8] [(0, 0), (1, 0), (2, 2), (3, 0), (4, 0), (5, 0), (6, 0), (7, 0), (8, 2), (9, 0), (10, 0)] (by kernel_rfl) (by kernel_rfl) rfl (by kernel_rfl) ?_
  refine stepE0 rfl rfl (fun K hK => ?_)
  go_simp
  refine hK _ ?_
  clear hK K
  refine stepE0 rfl rfl (fun K hK => ?_)
  go_simp
  refine hK _ ?_
  clear hK K
  refine stepE2 rfl rfl ?_ (fun w1 hS => ?_) (fun K hK => ?_)
  rotate_left
  focus (obtain rfl : w1 = _ := hS; go_simp; rfl)
  go_simp
  refine hK _ ?_
  clear hK K
  refine stepE0 rfl rfl (fun K hK => ?_)
  go_simp
  refine hK _ ?_
  clear hK K
  refine stepE0 rfl rfl (fun K hK => ?_)
  go_simp
  refine hK _ ?_
  clear hK K
  refine stepE0 rfl rfl (fun K hK => ?_)
  go_simp
  refine hK _ ?_
  clear hK K
  refine stepE0 rfl rfl (fun K hK => ?_)
  go_simp
  refine hK _ ?_
  clear hK K
  refine stepE0 rfl rfl (fun K hK => ?_)
  go_simp
  refine hK _ ?_
  clear hK K
  refine stepE2 rfl rfl ?_ (fun w1 hS => ?_) (fun K hK => ?_)
  rotate_left
  focus (obtain rfl : w1 = _ := hS; go_simp; rfl)
  go_simp
  refine hK _ ?_
  clear hK K
  refine stepE0 rfl rfl (fun K hK => ?_)
  go_simp
  refine hK _ ?_
  clear hK K
  refine stepE0 rfl rfl (fun K hK => ?_)
  go_simp
  refine hK _ ?_
  clear hK K
  try refine stepEnil0 ?_
  clear hws
  go_wp2_with fail
  refine (rload_any base _ es b _ (ownsRow_below H.out (by exact HB1.out.drew)) hfew).mono ?_
  rintro e w2 ⟨rfl, hb2⟩
  have HB2 := Lib.hid (show Below w1.heap.size w1 w2 from Below.trans (b := w1.drew) (by repeat (first | (with_reducible exact Below.refl _ _) | (with_reducible refine Below.setCell ?_ ?_ _) | (with_reducible refine Below.alloc ?_ ?_ _) | (with_reducible refine Below.drewN ?_ _) | (with_reducible refine Below.drew ?_) | (with_reducible exact Nat.le_refl _) | (focus (simp only [World.size_alloc, World.size_setCell, World.size_drew, World.size_drewN]; omega)) | omega | exact Nat.le_refl _ | (focus (simp; done)) | (focus (simp; omega)))) (hb2.mono (by simp)))
  have hz2 := HB2.out.size
  clear hb2
  go_wp2_with fail
  refine (rload_any base _ es a _ (ownsRow_below H.out (HB1.out.trans (HB2.out.mono (by omega)))) hfew).mono ?_
  rintro e w3 ⟨rfl, hb3⟩
  have HB3 := Lib.hid (show Below w1.heap.size w1 w3 from HB2.out.trans (hb3.mono hz2))
  have HBW := Lib.hid (show Below w.heap.size w w3 from HB1.out.trans (HB3.out.mono (by omega)))
  have hz3 := HB3.out.size
  have hbk := (HB3.out.block w.heap.size (by omega)).trans HBK.out
  have z0 := cell_of_row w3 w.heap.size 0 _ _ _ hbk
  have z1 := cell_of_row w3 w.heap.size 1 _ _ _ hbk
  have z2 := cell_of_row w3 w.heap.size 2 _ _ _ hbk
  have z3 := cell_of_row w3 w.heap.size 3 _ _ _ hbk
  have zf := fun o => frozen_of_row w3 w.heap.size o _ _ hbk
  simp at z0 z1 z2 z3
  have hzw : w.heap.size < w3.heap.size := by omega
  clear hb3 k0 k1
  have HBK3 := Lib.hid hbk
  clear hbk
  have hq0 : (0 : Int) ≤ (loadN es a : Int) ∧ (0 : Int) ≤ (loadN es b : Int) := by omega
  obtain ⟨hq1, hq2⟩ := hq0
  by_cases hlow : loadN es b < loadN es a + 2
  · have ht : decide ((loadN es b : Int) - (loadN es a : Int) < 2) = true := by simp; omega
    have HL := Lib.hid (evenAB_low hlow)
    clear hlow
    go_wp2_with fail
    refine bodyPost_ret (v := .tuple #[.agg #[.int .i64 0, .int .i64 0, .int .i64 0, .int .i64 0], .bool false]) ?_ rfl ?_
    · simp [results, Try.results54, go_sem, z0, z1, z2, z3]
    · refine ⟨by rw [HEV.out, HL.out]; rfl, ?_⟩
      (repeat (with_reducible refine Below.setCell ?_ ?_ _; rotate_left; focus (simp; done)))
      exact HBW.out
  · have ht : decide ((loadN es b : Int) - (loadN es a : Int) < 2) = false := by simp; omega
    have HL := Lib.hid (evenAB_go hlow)
    clear hlow
    clear z0 z1 z2 z3 zf
    go_wp2_with fail
    clear ht
    generalize loadN es a = la at *
    generalize loadN es b = lb at *
    go_loopw [9] (fun i wr => ∃ k : Nat, k ≤ es.length ∧ i = .int .i64 k ∧ es.find? (canGo a b) = (es.drop k).find? (canGo a b) ∧ Below w3.heap.size w3 wr) (fun i _ => es.length - (intOf i).toNat)
    case atStart => exact ⟨0, Nat.zero_le _, rfl, rfl, Below.refl _ _⟩
    case round =>
      obtain ⟨k, hk, rfl, hfind, hbw⟩ := hrel
      have HF := Lib.hid hfind
      have HBR := Lib.hid hbw
      have hzr := hbw.size
      have HBKR := Lib.hid ((hbw.block w.heap.size (by omega)).trans HBK3.out)
      have hzw4 : w.heap.size < wr.heap.size := by omega
      clear hfind hbw
      by_cases hlt : k < es.length
      · obtain ⟨x, hx⟩ : ∃ x, es[k]? = some x := ⟨_, List.getElem?_eq_getElem hlt⟩
        obtain ⟨g3, cc3, e3, hg3, hg3b, _, x0, x1, x2, x3, x4, x5⟩ := row_ent19 (ownsRow_below H.out (HBW.out.trans (HBR.out.mono (by omega)))) k x hx
        obtain ⟨e3', -, e3''⟩ := slice_inj e3
        have hgw := (H.out.lt g3 (by rw [e3']; rfl)).2
        subst e3' e3''
        have HX := Lib.hid (find_drop (p := canGo a b) hx)
        have HP := Lib.hid (hasI_pos x b)
        have HC := Lib.hid (hasI_pos x a)
        have HCG := Lib.hid (show canGo a b x = (hasB x b && !hasB x a) from rfl)
        clear hx e3
        obtain ⟨ha1, hbb1⟩ : ∃ p q, hasB x b = p ∧ hasB x a = q := ⟨_, _, rfl, rfl⟩
        obtain ⟨hq, hpe, hqe⟩ := hbb1
        rw [hpe] at HP HCG
        rw [hqe] at HC HCG
        clear hpe hqe
        have HI := Lib.hid (fun n W => has_any x n W)
        have hcg : canGo a b x = (ha1 && !hq) := HCG.out
        have HCG2 := Lib.hid hcg
        have HMV := Lib.hid (fun (h : es.find? (canGo a b) = some x) => mvVal_of (a := a) (b := b) h)
        clear hcg HCG
        have HIB := Lib.hid (fun W => HI.out b W)
        have HIA := Lib.hid (fun W => HI.out a W)
        obtain ⟨r, hr⟩ : ∃ r, hasI x b = r := ⟨_, rfl⟩
        obtain ⟨q, hqa⟩ : ∃ q, hasI x a = q := ⟨_, rfl⟩
        rw [hr] at HIB HP HMV
        rw [hqa] at HIA HC
        clear HI hr hqa
        obtain ⟨xv, xe, xa, xb, xc, xs⟩ := x
        simp only at x0 x1 x2 x3 x4 x5
        have hk0 : (0 : Int) ≤ (k : Int) := by omega
        have hk1 : (k : Int) < (es.length : Int) := by omega
        cases ha1
        · have hi : decide (0 ≤ r) = false := HP.out
          go_wp2_with fail
          refine (HIB.out _).mono ?_
          rintro e w5 ⟨rfl, hb5⟩
          have HB5 := Lib.hid (HBR.out.trans (hb5.mono hzr))
          clear hb5
          go_wp2_with fail
          go_roundw
          case rel => exact ⟨k + 1, by omega, by go_num, by rw [HF.out, HX.out, HCG2.out]; rfl, HB5.out⟩
          case measure => simp [intOf]; omega
        · have hi : decide (0 ≤ r) = true := HP.out
          cases hq
          · have hj : decide (q < 0) = true := by have := HC.out; simp at this ⊢; omega
            go_wp2_with fail
            refine (HIB.out _).mono ?_
            rintro e w5 ⟨rfl, hb5⟩
            have HB5 := Lib.hid (HBR.out.trans (hb5.mono hzr))
            have hz5 := HB5.out.size
            have y0 := (hb5.cell (p := ⟨g3, k * 6, none⟩) hg3).trans x0
            have y1 := (hb5.cell (p := ⟨g3, k * 6 + 1, none⟩) hg3).trans x1
            have y2 := (hb5.cell (p := ⟨g3, k * 6 + 2, none⟩) hg3).trans x2
            have y3 := (hb5.cell (p := ⟨g3, k * 6 + 3, none⟩) hg3).trans x3
            have y4 := (hb5.cell (p := ⟨g3, k * 6 + 4, none⟩) hg3).trans x4
            have y5 := (hb5.cell (p := ⟨g3, k * 6 + 5, none⟩) hg3).trans x5
            have hg5 : g3 < w5.heap.size := by have := hb5.size; omega
            clear hb5
            go_wp2_with fail
            refine (HIA.out _).mono ?_
            rintro e w6 ⟨rfl, hb6⟩
            have HB6 := Lib.hid (HB5.out.trans (hb6.mono hz5))
            have hz6 := HB6.out.size
            have t0 := (hb6.cell (p := ⟨g3, k * 6, none⟩) hg5).trans y0
            have t1 := (hb6.cell (p := ⟨g3, k * 6 + 1, none⟩) hg5).trans y1
            have hbk := (HB6.out.block w.heap.size (by omega)).trans HBK3.out
            have z0 := cell_of_row w6 w.heap.size 0 _ _ _ hbk
            have z1 := cell_of_row w6 w.heap.size 1 _ _ _ hbk
            have z2 := cell_of_row w6 w.heap.size 2 _ _ _ hbk
            have z3 := cell_of_row w6 w.heap.size 3 _ _ _ hbk
            have zf := fun o => frozen_of_row w6 w.heap.size o _ _ hbk
            simp at z0 z1 z2 z3
            clear hb6 hbk x0 x1 x2 x3 x4 x5 y0 y1 y2 y3 y4 y5
            go_wp2_with fail
            refine wp_region_now0 [4, 9] [(0, 0), (1, 0), (2, 0), (3, 0), (4, 2), (5, 0), (6, 0), (7, 0), (8, 0), (9, 2), (10, 0), (11, 0), (12, 0), (13, 1), (14, 0)] (by kernel_rfl) (by kernel_rfl) rfl (by kernel_rfl) ?_
            refine stepE0 rfl rfl (fun K hK => ?_)
            go_simp
            refine hK _ ?_
            clear hK K
            refine stepE0 rfl rfl (fun K hK => ?_)
            go_simp
            refine hK _ ?_
            clear hK K
            refine stepE0 rfl rfl (fun K hK => ?_)
            go_simp
            refine hK _ ?_
            clear hK K
            refine stepE0 rfl rfl (fun K hK => ?_)
            go_simp
            refine hK _ ?_
            clear hK K
            refine stepE2 rfl rfl ?_ (fun w1 hS => ?_) (fun K hK => ?_)
            rotate_left
            focus (obtain rfl : w1 = _ := hS; go_simp; rfl)
            go_simp
            refine hK _ ?_
            clear hK K
            refine stepE0 rfl rfl (fun K hK => ?_)
            go_simp
            refine hK _ ?_
            clear hK K
            refine stepE0 rfl rfl (fun K hK => ?_)
            go_simp
            refine hK _ ?_
            clear hK K
            refine stepE0 rfl rfl (fun K hK => ?_)
            go_simp
            refine hK _ ?_
            clear hK K
            refine stepE0 rfl rfl (fun K hK => ?_)
            go_simp
            refine hK _ ?_
            clear hK K
            refine stepE2 rfl rfl ?_ (fun w1 hS => ?_) (fun K hK => ?_)
            rotate_left
            focus (obtain rfl : w1 = _ := hS; go_simp; rfl)
            go_simp
            refine hK _ ?_
            clear hK K
            refine stepE0 rfl rfl (fun K hK => ?_)
            go_simp
            refine hK _ ?_
            clear hK K
            refine stepE0 rfl rfl (fun K hK => ?_)
            go_simp
            refine hK _ ?_
            clear hK K
            refine stepE0 rfl rfl (fun K hK => ?_)
            go_simp
            refine hK _ ?_
            clear hK K
            refine stepE1 rfl rfl (by kernel_rfl) (fun K hK => ?_)
            go_wp2
            refine stepE0 rfl rfl (fun K hK => ?_)
            go_simp
            refine hK _ ?_
            clear hK K
            try refine stepEnil0 ?_
            go_wp2_with fail
            have HFS := Lib.hid (show es.find? (canGo a b) = some ⟨xv, xe, xa, xb, xc, xs⟩ by rw [HF.out, HX.out, HCG2.out]; rfl)
            refine bodyPost_ret (v := .tuple #[.agg #[.int .i64 xv, .int .i64 xe, .int .i64 r, .int .i64 a], .bool true]) ?_ rfl ?_
            · simp [results, Try.results54, go_sem, z0, z1, z2, z3]
            · refine ⟨by rw [HEV.out, HL.out, HMV.out HFS.out, HFS.out]; rfl, ?_⟩
              (repeat (first | with_reducible refine Below.drew ?_ | (with_reducible refine Below.setCell ?_ ?_ _; rotate_left; focus (simp; done))))
              exact HBW.out.trans (HB6.out.mono (by omega))
          · have hj : decide (q < 0) = false := by have := HC.out; simp at this ⊢; omega
            go_wp2_with fail
            refine (HIB.out _).mono ?_
            rintro e w5 ⟨rfl, hb5⟩
            have HB5 := Lib.hid (HBR.out.trans (hb5.mono hzr))
            have hz5 := HB5.out.size
            have y0 := (hb5.cell (p := ⟨g3, k * 6, none⟩) hg3).trans x0
            have y1 := (hb5.cell (p := ⟨g3, k * 6 + 1, none⟩) hg3).trans x1
            have y2 := (hb5.cell (p := ⟨g3, k * 6 + 2, none⟩) hg3).trans x2
            have y3 := (hb5.cell (p := ⟨g3, k * 6 + 3, none⟩) hg3).trans x3
            have y4 := (hb5.cell (p := ⟨g3, k * 6 + 4, none⟩) hg3).trans x4
            have y5 := (hb5.cell (p := ⟨g3, k * 6 + 5, none⟩) hg3).trans x5
            clear hb5
            go_wp2_with fail
            refine (HIA.out _).mono ?_
            rintro e w6 ⟨rfl, hb6⟩
            have HB6 := Lib.hid (HB5.out.trans (hb6.mono hz5))
            clear hb6
            go_wp2_with fail
            go_roundw
            case rel => exact ⟨k + 1, by omega, by go_num, by rw [HF.out, HX.out, HCG2.out]; rfl, HB6.out⟩
            case measure => simp [intOf]; omega
      · have HN := Lib.hid (show es.find? (canGo a b) = none by rw [HF.out, List.drop_eq_nil_of_le (by omega)]; rfl)
        have hbk := HBKR.out
        have z0 := cell_of_row wr w.heap.size 0 _ _ _ hbk
        have z1 := cell_of_row wr w.heap.size 1 _ _ _ hbk
        have z2 := cell_of_row wr w.heap.size 2 _ _ _ hbk
        have z3 := cell_of_row wr w.heap.size 3 _ _ _ hbk
        have zf := fun o => frozen_of_row wr w.heap.size o _ _ hbk
        simp at z0 z1 z2 z3
        clear hbk
        go_wp2_with fail
        refine bodyPost_ret (v := .tuple #[.agg #[.int .i64 0, .int .i64 0, .int .i64 0, .int .i64 0], .bool false]) ?_ rfl ?_
        · simp [results, Try.results54, go_sem, z0, z1, z2, z3]
        · refine ⟨by rw [HEV.out, HL.out, HN.out]; rfl, ?_⟩
          (repeat (with_reducible refine Below.setCell ?_ ?_ _; rotate_left; focus (simp; done)))
          exact HBW.out.trans (HBR.out.mono (by omega))
end Go.Proofs.Ytigkcbnlbdiimaa

/- place.Leave. -/
namespace Go.Proofs.Ytigkcbnlbdiimaa
open Go.RowKit Go.Maps Go.Sort
theorem move_info : (Try.prog.info? 94).map (fun i => (i.zero, i.size, i.bytes)) = some (some (.agg #[.int .i64 0, .int .i64 0, .int .i64 0, .int .i64 0]), 4, 32) := by kernel_rfl
/-- DeleteFunc at whatever row of nodes, none too. -/
theorem may_gen (so : List Int) (x : Ent) (v : Value) (bx base : Nat) (w : World) (ho : w.ownsRow base 3 1 v so.length (so.map (Value.int .i64))) (hp : ∀ n ∈ so, placeB n = true)
    (hb : bx < w.heap.size) (hne : v.ownBlock ≠ some bx) (h0 : w.cell? ⟨bx, 2, none⟩ = some (.int .i64 x.n0)) (h1 : w.cell? ⟨bx, 3, none⟩ = some (.int .i64 x.n1)) (h2 : w.cell? ⟨bx, 4, none⟩ = some (.int .i64 x.n2)) :
    Calls Try.prog 76 #[v, .func (.func 77) #[] #[.pointer (some ⟨bx, 0, none⟩)]] w
      fun e w' => ∃ am cm, e = .returned (.slice am (so.filter fun t => !hasB x t).length cm) ∧ (∀ t r, (so.filter fun t => !hasB x t) = t :: r → ∃ g, am = some ⟨g, 0, none⟩ ∧ base ≤ g ∧ v.ownBlock = some g ∧ w'.cell? ⟨g, 0, none⟩ = some (.int .i64 t)) ∧ Keeps (fun k => v.ownBlock = some k) w w' := by
  rcases ho.2 with ⟨hv, hz⟩ | ⟨g, cap, cur, hv, hg, _⟩
  · subst hv
    have hso : so = [] := List.eq_nil_of_length_eq_zero hz
    subst hso
    go_enter Try.func76, Try.ntmps76
    go_wp2_with fail
    refine (Try.slices_IndexFunc_empty (α := Fin 256) none 0 _ _).mono ?_
    rintro e w' ⟨rfl, rfl⟩
    go_wp2_with fail
    go_ret
    exact ⟨_, _, rfl, fun t r h => by simp at h, Keeps.refl _ _⟩
  · subst hv
    refine (may_any so x g cap bx base w ho hp hb (fun e => hne (by rw [e]; rfl)) h0 h1 h2).mono ?_
    rintro e w' ⟨rfl, h3, h4⟩
    exact ⟨_, _, rfl, fun t r h => ⟨g, rfl, hg, rfl, h3 t r h⟩, h4.mono fun k _ hk => by rw [hk]; rfl⟩
theorem mvs_one (l : List Mv) : ∀ u ∈ l.flatMap Mv.row, u.oneCell' = true := by
  intro u hu
  obtain ⟨m, _, hm⟩ := List.mem_flatMap.1 hu
  simp only [Mv.row, List.mem_cons, List.not_mem_nil, or_false] at hm
  rcases hm with rfl | rfl | rfl | rfl <;> rfl
theorem reads_row4 (w : World) (a b c d : Value) (T : Nat) : Reads ((w.alloc (.cells #[a, b, c, d] T)).drew) 4 (.slice (some ⟨w.heap.size, 0, none⟩) 1 1) 1 [a, b, c, d] :=
  ⟨rfl, .inr ⟨_, _, rfl, by unfold maxLen; omega, World.news_of_block (heap_alloc_new w _)⟩⟩
/-- What Leave gives. -/
def LeaveOut (w : World) (r : Option (List Mv)) (e : Ending) (w' : World) : Prop := match r with
  | none => e = .returned (.tuple #[.slice none 0 0, errV 11]) ∧ Below w.heap.size w w'
  | some l => ∃ v', e = .returned (.tuple #[v', .nilIface]) ∧ w'.ownsRow w.heap.size 94 4 v' l.length (l.flatMap Mv.row) ∧ Below w.heap.size w w'
theorem LeaveOut.no {w : World} {r : Option (List Mv)} {e : Ending} {w' : World} (h : r = none) (h1 : e = .returned (.tuple #[.slice none 0 0, errV 11])) (h2 : Below w.heap.size w w') : LeaveOut w r e w' := by subst h; exact ⟨h1, h2⟩
theorem LeaveOut.yes {w : World} {r : Option (List Mv)} {e : Ending} {w' : World} {l : List Mv} {v' : Value} (h : r = some l) (h1 : e = .returned (.tuple #[v', .nilIface])) (h3 : w'.ownsRow w.heap.size 94 4 v' l.length (l.flatMap Mv.row)) (h2 : Below w.heap.size w w') : LeaveOut w r e w' := by subst h; exact ⟨_, h1, h3, h2⟩
theorem MapIs.congr {w : World} {b n : Nat} {f g : Int → Int} (h : MapIs w b n f) (e : ∀ j, f j = g j) : MapIs w b n g := by
  have : f = g := funext e
  rw [← this]; exact h
set_option maxHeartbeats 1000000 in
theorem pleave_bad (base bm : Nat) (v va : Value) (es : List Ent) (ns : List Int) (node : Int) (w : World) (h : MapAt w base bm v es) (hr : Reads w 1 va ns.length (ns.map (Value.int .i64))) (hcap : ∀ a n c, va = .slice a n c → n ≤ c) (hok : rightB ns = false) :
    Calls Try.prog 51 #[.pointer (some ⟨bm, 0, none⟩), .int .i64 node, va] w fun e w' => e = .returned (.tuple #[.slice none 0 0, errV 1]) ∧ w = w' := by
  have HN := Lib.hid (errV_ne (k := 1) (by omega))
  have HO := Lib.hid (porder_bad base bm v va es ns w h hr hcap hok)
  clear h hr hcap hok
  go_enter Try.func51, Try.ntmps51
  go_wp2_with fail
  refine HO.out.mono ?_
  rintro e w1 ⟨rfl, rfl⟩
  rw [HN.out]
  go_wp2_with fail
  go_ret2
  exact ⟨by rw [HN.out]; rfl, rfl⟩
set_option maxRecDepth 100000 in
set_option maxHeartbeats 8000000 in
theorem pleave_any (base bm : Nat) (v va : Value) (es : List Ent) (ns : List Int) (node : Int) (w : World) (h : MapAt w base bm v es) (hno : NodesOk es) (hr : Reads w 1 va ns.length (ns.map (Value.int .i64))) (hcap : ∀ a n c, va = .slice a n c → n ≤ c) (hok : rightB ns = true) :
    Calls Try.prog 51 #[.pointer (some ⟨bm, 0, none⟩), .int .i64 node, va] w (LeaveOut w (leaveI es node ns)) := by
  have hfew := h.few
  have H := Lib.hid h
  have HNO := Lib.hid hno
  have HR := Lib.hid hr
  have HOK := Lib.hid hok
  have HO := Lib.hid (porder_any base bm v va es ns w h hno hr hcap hok)
  have HN := Lib.hid (errV_ne (k := 11) (by omega))
  obtain ⟨i0, hi, hz0, hz1, hz2⟩ := info_parts move_info
  have HI := Lib.hid hi
  have HZ0 := Lib.hid hz0
  have HZ1 := Lib.hid hz1
  have HZ2 := Lib.hid hz2
  clear h hr hcap hok hno hi hz0 hz1 hz2
  obtain ⟨res, hres⟩ : ∃ res, res = leaveI es node ns := ⟨_, rfl⟩
  rw [← hres]
  have HRES := Lib.hid hres
  clear hres
  go_enter Try.func51, Try.ntmps51
  go_wp2_with fail
  refine HO.out.mono ?_
  rintro e w1 ⟨v1, rfl, ho1, hb1⟩
  have HB1 := Lib.hid hb1
  have hz1 := hb1.size
  clear ho1 hb1
  go_wp2_with fail
  refine (all_any base bm v es _ (H.out.below HB1.out)).mono ?_
  rintro e w2 ⟨v2, rfl, ho2, _, hb2⟩
  obtain ⟨a2, c2, rfl⟩ := ownsRow_len ho2
  have HB2 := Lib.hid (HB1.out.trans (hb2.mono hz1))
  have hz2 := hb2.size
  have HO2 := Lib.hid ho2
  clear ho2 hb2
  go_wp2_with fail
  refine (loads_any _ _ es _ HO2.out hfew HNO.out).mono ?_
  rintro e w3 ⟨n3, rfl, hn3, hm3, hb3⟩
  have HB3 := Lib.hid (HB2.out.trans (hb3.mono (by omega)))
  have HO3 := Lib.hid (ownsRow_below HO2.out hb3)
  have hz3 := hb3.size
  have hlm := hm3.lt
  have HM3 := Lib.hid hm3
  have hmb := HO2.out.lt
  obtain ⟨mb, hmbe⟩ : ∃ mb, mb = w2.heap.size := ⟨_, rfl⟩
  rw [← hmbe] at HM3 hlm ⊢
  have hmw : w1.heap.size ≤ mb := by omega
  have hmne : ∀ k, (Value.slice a2 es.length c2).ownBlock = some k → k ≠ mb := fun k hk => by have := hmb k hk; omega
  have HMNE := Lib.hid hmne
  clear hm3 hb3 hmb hmne hmbe
  go_wp2_with fail
  go_loopw [12, 32] (fun ov i wr => ∃ (k : Nat) (out : List Mv) (l : List Ent) (n : Nat) (ow : Value), k ≤ es.length ∧ i = .int .i64 k ∧ ov = ow ∧ leaveI es node ns = (leaveF node ns (l.length - k) k l).map (out ++ ·) ∧ l.length = es.length ∧ (∀ j, k ≤ j → l[j]? = es[j]?) ∧ NodesOk l ∧
      MapIs wr mb n (fun j => (loadN l j : Int)) ∧ n ≤ 12288 + 2 * k ∧ out.length ≤ k ∧ wr.ownsRow w3.heap.size 94 4 ow out.length (out.flatMap Mv.row) ∧ Keeps (fun j => j = mb) w3 wr) (fun _ i _ => es.length - (intOf i).toNat)
  case atStart => exact ⟨0, [], es, n3, _, Nat.zero_le _, rfl, rfl, by simp [leaveI, Option.map_id'], rfl, fun _ _ => rfl, HNO.out, HM3.out, by omega, Nat.le_refl _, World.ownsRow_nil _ _ _ _, Keeps.refl _ _⟩
  case round =>
    obtain ⟨k, out, l, n, ow, hk, rfl, hov, hlv, hll, hle, hnl, hml, hnb, hol, hown, hkp⟩ := hrel
    have hov' := hov.symm
    clear hov
    subst hov'
    obtain ⟨ao, co, rfl⟩ := ownsRow_len hown
    have HLV := Lib.hid hlv
    have HLL := Lib.hid hll
    have HNL := Lib.hid hnl
    have HML := Lib.hid hml
    have HOW := Lib.hid hown
    have HKP := Lib.hid hkp
    have HLE := Lib.hid hle
    have hzr := hkp.size
    have hmr : mb < wr.heap.size := by omega
    clear hlv hll hle hnl hml hown hkp
    by_cases hlt : k < es.length
    · obtain ⟨x, hx⟩ : ∃ x, es[k]? = some x := ⟨_, List.getElem?_eq_getElem hlt⟩
      obtain ⟨g3, cc3, e3, hg3, _, _, x0, x1, x2, x3, x4, x5⟩ := row_ent (ownsRow_keeps HO3.out HKP.out (fun j hj => HMNE.out j hj)) k x hx
      obtain ⟨rfl, -, rfl⟩ := slice_inj e3
      have HX := Lib.hid ((HLE.out k (Nat.le_refl _)).trans hx)
      have HP := Lib.hid (hasI_pos x node)
      have HXN := Lib.hid (HNL.out x (List.mem_of_getElem? HX.out))
      clear hx e3
      have HI3 := Lib.hid (fun W h0 h1 h2 => index3 wr.heap.size 2 3 x node W h0 h1 h2)
      obtain ⟨r, hr⟩ : ∃ r, hasI x node = r := ⟨_, rfl⟩
      rw [hr] at HI3 HP
      have HR' := Lib.hid hr
      clear hr
      obtain ⟨p, hp⟩ : ∃ p, hasB x node = p := ⟨_, rfl⟩
      rw [hp] at HP
      have HPB := Lib.hid hp
      clear hp
      have hk0 : (0 : Int) ≤ (k : Int) := by omega
      have hk1 : (k : Int) < (es.length : Int) := by omega
      cases p
      · have hi : decide (r < 0) = true := by have := HP.out; simp at this ⊢; omega
        have HNX := Lib.hid (leaveF_no (node := node) (ns := ns) rfl HX.out HPB.out)
        obtain ⟨xv, xe, xa, xb, xc, xs⟩ := x
        simp only at x0 x1 x2 x3 x4 x5
        go_wp2_with fail
        refine (HI3.out _ (by go_simp) (by go_simp) (by go_simp)).mono ?_
        rintro e w5 ⟨rfl, rfl⟩
        go_wp2_with fail
        go_roundw
        case rel => exact ⟨k + 1, out, l, n, _, by omega, by go_num, rfl, by rw [HLV.out, HNX.out], HLL.out, fun j hj => HLE.out j (by omega), HNL.out, HML.out.below (by repeat (first | (with_reducible exact Below.refl _ _) | (with_reducible refine Below.setCell ?_ ?_ _) | (with_reducible refine Below.alloc ?_ ?_ _) | (with_reducible refine Below.drewN ?_ _) | (with_reducible refine Below.drew ?_) | (with_reducible exact Nat.le_refl _) | (focus (simp only [World.size_alloc, World.size_setCell, World.size_drew, World.size_drewN]; omega)) | omega | exact Nat.le_refl _ | (focus (simp; done)) | (focus (simp; omega)))), by omega, by omega, HOW.out.alloc _, HKP.out.alloc _⟩
        case measure => simp [intOf]; omega
      · have hi : decide (r < 0) = false := by have := HP.out; simp at this ⊢; omega
        obtain ⟨mo, hmo⟩ : ∃ mo, mo = mayOf l ns x := ⟨_, rfl⟩
        have HMO := Lib.hid hmo
        have HXL := Lib.hid hlt
        have HXV := Lib.hid (Eq.refl x)
        clear hmo
        obtain ⟨xv, hxv⟩ : ∃ xv, xv = x.vol := ⟨_, rfl⟩
        obtain ⟨xe, hxe⟩ : ∃ xe, xe = x.epoch := ⟨_, rfl⟩
        obtain ⟨xa, hxa⟩ : ∃ xa, xa = x.n0 := ⟨_, rfl⟩
        obtain ⟨xb, hxb⟩ : ∃ xb, xb = x.n1 := ⟨_, rfl⟩
        obtain ⟨xc, hxc⟩ : ∃ xc, xc = x.n2 := ⟨_, rfl⟩
        obtain ⟨xs, hxs⟩ : ∃ xs, xs = x.shut := ⟨_, rfl⟩
        rw [← hxv] at x0
        rw [← hxe] at x1
        rw [← hxa] at x2
        rw [← hxb] at x3
        rw [← hxc] at x4
        rw [← hxs] at x5
        rw [← hxa, ← hxb, ← hxc] at HI3
        have HXX := Lib.hid (And.intro hxv (And.intro hxe (And.intro hxa (And.intro hxb hxc))))
        clear hxv hxe hxa hxb hxc hxs
        go_wp2_with fail
        refine (HI3.out _ (by go_simp) (by go_simp) (by go_simp)).mono ?_
        rintro e w5 ⟨rfl, rfl⟩
        go_wp2_with fail
        have HSL := Lib.hid (show (sortI (fun j => (loadN l j : Int)) ns).length = ns.length by simp [sortI])
        have hBwr : Below w.heap.size w wr := HB3.out.trans (HKP.out.below (by omega) (fun j e => by omega))
        have HBWR := Lib.hid hBwr
        clear hBwr
        refine (order_any (fun j => (loadN l j : Int)) mb n ns va _ (HML.out.below (by repeat (first | (with_reducible exact Below.refl _ _) | (with_reducible refine Below.setCell ?_ ?_ _) | (with_reducible refine Below.alloc ?_ ?_ _) | (with_reducible refine Below.drewN ?_ _) | (with_reducible refine Below.drew ?_) | (with_reducible exact Nat.le_refl _) | (focus (simp only [World.size_alloc, World.size_setCell, World.size_drew, World.size_drewN]; omega)) | omega | exact Nat.le_refl _ | (focus (simp; done)) | (focus (simp; omega))))) (HR.out.below (HBWR.out.alloc (by have := HBWR.out.size; omega) _)) HOK.out).mono ?_
        rintro e w6 ⟨v6, rfl, ho6, hb6⟩
        have HB6 := Lib.hid hb6
        have HO6 := Lib.hid ho6
        have hz6 := hb6.size
        simp only [World.size_alloc] at hz6
        have HV6 := Lib.hid ho6.lt
        have HBX6 := Lib.hid ((hb6.block wr.heap.size (by simp)).trans (heap_alloc_new wr _))
        have kx2 := cell_of_row w6 wr.heap.size 2 _ _ _ HBX6.out
        have kx3 := cell_of_row w6 wr.heap.size 3 _ _ _ HBX6.out
        have kx4 := cell_of_row w6 wr.heap.size 4 _ _ _ HBX6.out
        simp at kx2 kx3 kx4
        have KX := Lib.hid (And.intro kx2 (And.intro kx3 kx4))
        clear ho6 hb6 kx2 kx3 kx4
        go_wp2_with fail
        refine (may_gen (sortI (fun j => (loadN l j : Int)) ns) x v6 wr.heap.size (wr.heap.size + 1) w6 (by rw [HSL.out]; have := HO6.out; simpa using this) (fun m hm => (right_nodes HOK.out).2 m ((List.mergeSort_perm _ _).mem_iff.1 hm)) (by omega)
          (fun e => by have := HV6.out _ e; simp only [World.size_alloc] at this; omega) (by rw [KX.out.1, HXX.out.2.2.1]) (by rw [KX.out.2.1, HXX.out.2.2.2.1]) (by rw [KX.out.2.2, HXX.out.2.2.2.2])).mono ?_
        rintro e w7 ⟨am, cm, rfl, hmay, hk7⟩
        rw [show ((sortI (fun j => (loadN l j : Int)) ns).filter fun t => !hasB x t) = mo from HMO.out.symm] at hmay ⊢
        have HSO := Lib.hid (show ∀ m, m ∈ mo → placeB m = true ∧ hasB x m = false from fun m hm => by
          rw [HMO.out] at hm
          have h1 := List.mem_filter.1 hm
          exact ⟨(right_nodes HOK.out).2 m ((List.mergeSort_perm _ _).mem_iff.1 h1.1), by simpa using h1.2⟩)
        have HK7 := Lib.hid hk7
        have hz7 := hk7.size
        have HMAY := Lib.hid hmay
        have hV6 : ∀ j, v6.ownBlock = some j → wr.heap.size + 1 ≤ j ∧ j < w6.heap.size := fun j hj => by have := HV6.out j hj; simp only [World.size_alloc] at this; exact this
        have HV6' := Lib.hid hV6
        have HK37 := Lib.hid (show Keeps (fun j => j = mb) w3 w7 from ((HKP.out.alloc _).trans (Keeps.of_below (F := fun j => j = mb) HB6.out (fun j hj _ => by simpa using hj)) (fun _ _ h => h)).trans hk7 (fun i hi h => by have := hV6 i h; omega))
        clear hmay hk7 hV6
        have hmb7 : mb < w7.heap.size := by omega
        have HBW7 := Lib.hid (show Below w.heap.size w w7 from HB3.out.trans (HK37.out.below (by omega) (fun j e => by omega)))
        have hwr7 : wr.heap.size < w7.heap.size := by omega
        have hbx := (HK7.out.block wr.heap.size (by omega) (fun h => by have := HV6'.out _ h; omega)).trans HBX6.out
        have kx0 := cell_of_row w7 wr.heap.size 0 _ _ _ hbx
        have kx1 := cell_of_row w7 wr.heap.size 1 _ _ _ hbx
        simp at kx0 kx1
        clear hbx x0 x1 x2 x3 x4 x5
        obtain ⟨ml, hml⟩ : ∃ ml, mo.length = ml := ⟨_, rfl⟩
        rw [hml]
        have HLN := Lib.hid hml
        clear hml
        rcases hmc : mo with _ | ⟨t, rest⟩
        · have h0 : ((ml : Int) == 0) = true := by have := HLN.out; rw [hmc] at this; simp at this ⊢; omega
          have HFU := Lib.hid (leaveF_full (node := node) (ns := ns) rfl HX.out HPB.out (by rw [← HMO.out, hmc]))
          clear hmc
          go_wp2_with fail
          go_ret2
          exact LeaveOut.no (by rw [HRES.out, HLV.out, HFU.out]; rfl) (by rw [HN.out]; rfl) HBW7.out
        · have hml1 : 0 < ml := by have := HLN.out; rw [hmc] at this; simp at this; omega
          have h0 : ((ml : Int) == 0) = false := by rw [beq_eq_false_iff_ne]; omega
          have HMT := Lib.hid (show mayOf l ns x = t :: rest by rw [← HMO.out, hmc])
          obtain ⟨htp, htb⟩ := HSO.out t (by rw [hmc]; exact List.mem_cons_self)
          obtain ⟨g, rfl, hg, hvg, kt⟩ := HMAY.out t rest hmc
          have hgl : g < w7.heap.size := by have := (HV6'.out g hvg).2; omega
          have HT := Lib.hid (And.intro htp htb)
          have HGO := Lib.hid (leaveF_go (node := node) (ns := ns) rfl HX.out HPB.out HMT.out)
          have hnp : placeB node = true := by
            have hb := HPB.out
            obtain ⟨p0, p1, p2, _⟩ := HXN.out
            simp only [hasB, Bool.or_eq_true, beq_iff_eq] at hb
            rcases hb with (hb | hb) | hb
            · rw [← hb]; exact p0
            · rw [← hb]; exact p1
            · rw [← hb]; exact p2
          have hne : t ≠ node := fun e => by rw [e, HPB.out] at htb; cases htb
          have HNE := Lib.hid hne
          have hwk : ∀ n, placeB n = true → (Lit.int .i64 n).wf = true := fun n h => by simp [placeB] at h; exact wf_i64 (by omega) (by omega)
          have W0 := Lib.hid (hwk _ hnp)
          have W1 := Lib.hid (hwk _ htp)
          obtain ⟨f, hf⟩ : ∃ f : Int → Int, f = (fun j => (loadN l j : Int)) := ⟨_, rfl⟩
          have hfb : ∀ j, 0 ≤ f j ∧ f j ≤ 4096 := fun j => by
            have h := loadN_le l j
            have := HLL.out
            rw [hf]
            show 0 ≤ (loadN l j : Int) ∧ (loadN l j : Int) ≤ 4096
            omega
          obtain ⟨b0, b1⟩ := hfb node
          obtain ⟨b2, b3⟩ := hfb t
          have HM7 := Lib.hid (show MapIs w7 mb n f by
            rw [hf]
            exact ((HML.out.below (w' := w6) (Below.trans (by repeat (first | (with_reducible exact Below.refl _ _) | (with_reducible refine Below.setCell ?_ ?_ _) | (with_reducible refine Below.alloc ?_ ?_ _) | (with_reducible refine Below.drewN ?_ _) | (with_reducible refine Below.drew ?_) | (with_reducible exact Nat.le_refl _) | (focus (simp only [World.size_alloc, World.size_setCell, World.size_drew, World.size_drewN]; omega)) | omega | exact Nat.le_refl _ | (focus (simp; done)) | (focus (simp; omega)))) (HB6.out.mono (by simp))))).of_block (HK7.out.block mb (by omega) (fun h => by have := HV6'.out _ h; omega)))
          have HF := Lib.hid hf
          have hoB : ∀ j, (Value.slice ao out.length co).ownBlock = some j → w3.heap.size ≤ j ∧ j < wr.heap.size := fun j hj => HOW.out.lt j hj
          have HOB := Lib.hid hoB
          have HOW7 := Lib.hid (show w7.ownsRow w3.heap.size 94 4 (.slice ao out.length co) out.length (out.flatMap Mv.row) from
            ownsRow_keeps (ownsRow_below (HOW.out.alloc _) HB6.out) HK7.out (fun j hj h => by have := HV6'.out _ h; have := hoB j hj; omega))
          clear hmc hfb hf hoB hwk htp htb hne hnp
          go_wp2_with fail
          refine wp_region_now0 [2, 4, 8] [(0, 0), (1, 0), (2, 2), (3, 0), (4, 2), (5, 0), (6, 0), (7, 0), (8, 2), (9, 0), (10, 1), (11, 1), (12, 0)] (by kernel_rfl) (by kernel_rfl) rfl (by kernel_rfl) ?_
          refine stepE0 rfl rfl (fun K hK => ?_)
          go_simp
          refine hK _ ?_
          clear hK K
          refine stepE0 rfl rfl (fun K hK => ?_)
          go_simp
          refine hK _ ?_
          clear hK K
          refine stepE2 rfl rfl ?_ (fun w1 hS => ?_) (fun K hK => ?_)
          rotate_left
          focus (obtain rfl : w1 = _ := hS; go_simp; rfl)
          go_simp
          refine hK _ ?_
          clear hK K
          refine stepE0 rfl rfl (fun K hK => ?_)
          go_simp
          refine hK _ ?_
          clear hK K
          refine stepE2 rfl rfl ?_ (fun w1 hS => ?_) (fun K hK => ?_)
          rotate_left
          focus (obtain rfl : w1 = _ := hS; go_simp; rfl)
          go_simp
          refine hK _ ?_
          clear hK K
          refine stepE0 rfl rfl (fun K hK => ?_)
          go_simp
          refine hK _ ?_
          clear hK K
          refine stepE0 rfl rfl (fun K hK => ?_)
          go_simp
          refine hK _ ?_
          clear hK K
          refine stepE0 rfl rfl (fun K hK => ?_)
          go_simp
          refine hK _ ?_
          clear hK K
          refine stepE2 rfl rfl ?_ (fun w1 hS => ?_) (fun K hK => ?_)
          rotate_left
          focus (obtain rfl : w1 = _ := hS; go_simp; rfl)
          go_simp
          refine hK _ ?_
          clear hK K
          refine stepE0 rfl rfl (fun K hK => ?_)
          go_simp
          refine hK _ ?_
          clear hK K
          refine stepE1 rfl rfl (by kernel_rfl) (fun K hK => ?_)
          go_wp2
          refine stepE1 rfl rfl (by kernel_rfl) (fun K hK => ?_)
          (refine wp_append_reads _ _ _ 90 rfl w3.heap.size 94 i0 (.agg #[.int .i64 0, .int .i64 0, .int .i64 0, .int .i64 0]) 4 32 Try.underlying90 HI.out HZ0.out HZ1.out HZ2.out rfl (by decide) (.slice ao out.length co) out.length (out.flatMap Mv.row) rfl ((HOW7.out.alloc _).drew) (.slice (some ⟨w7.heap.size, 0, none⟩) 1 1) 1 [.int .i64 xv, .int .i64 xe, .int .i64 r, .int .i64 t] rfl (reads_row4 w7 _ _ _ _ _) (by simp [Value.oneCell']) (by unfold maxLen; omega) (by omega) (by simp; omega) ?_; intro v8 w8 hown8 hg8 hat8; have HOW8 := Lib.hid hown8; have HG8 := Lib.hid hg8; clear hown8 hg8 hat8; go_wp2)
          refine stepE0 rfl rfl (fun K hK => ?_)
          go_simp
          refine hK _ ?_
          clear hK K
          try refine stepEnil0 ?_
          have hz8 := HG8.out.size
          simp only [World.size_drew, World.size_alloc] at hz8
          have hgw : g < w8.heap.size := by omega
          have HM8 := Lib.hid ((HM7.out.below (w' := (w7.alloc (.cells #[.int .i64 xv, .int .i64 xe, .int .i64 r, .int .i64 t] 94)).drew) (by repeat (first | (with_reducible exact Below.refl _ _) | (with_reducible refine Below.setCell ?_ ?_ _) | (with_reducible refine Below.alloc ?_ ?_ _) | (with_reducible refine Below.drewN ?_ _) | (with_reducible refine Below.drew ?_) | (with_reducible exact Nat.le_refl _) | (focus (simp only [World.size_alloc, World.size_setCell, World.size_drew, World.size_drewN]; omega)) | omega | exact Nat.le_refl _ | (focus (simp; done)) | (focus (simp; omega))))).kept HG8.out (fun e => by have := HOB.out mb e.symm; omega))
          have kt8 : w8.cell? ⟨g, 0, none⟩ = some (.int .i64 t) := (World.cell?_of_block (a := ⟨g, 0, none⟩) ((HG8.out.block g (by simp; omega) (fun e => by have := HOB.out g e.symm; omega)).trans (Below.heap_alloc _ _ _ hgl))).trans kt
          clear kt
          have mbg : g ≠ mb := by omega
          obtain ⟨f1, hf1⟩ : ∃ f1 : Int → Int, f1 = (fun j => if j = node then f node - 1 else f j) := ⟨_, rfl⟩
          have hft : f1 t = f t := by rw [hf1]; exact if_neg HNE.out
          have b4 : 0 ≤ f1 t := by omega
          have b5 : f1 t ≤ 4096 := by omega
          have HF1 := Lib.hid hf1
          have HFT := Lib.hid hft
          clear hf1 hft
          go_wp2_with (first
            | (at_lookup; refine wpList_look _ rfl _ _ rfl mb n f rfl HM8.out node rfl W0.out ?_)
            | (at_mapUpdate; refine wpList_mark _ rfl _ _ _ rfl mb n f rfl HM8.out (by unfold maxLen; omega) node _ rfl rfl W0.out (wf_i64 (by omega) (by omega)) ?_; intro w9 hm9 hg9; rw [← HF1.out] at hm9; have HM9 := Lib.hid hm9; have HG9 := Lib.hid hg9; have hz9 := hg9.size; have kt9 := (World.cell?_of_block (a := ⟨g, 0, none⟩) (hg9.block g hgw (fun e => mbg (Option.some.inj e)))).trans kt8; clear hm9 hg9 kt8)
            | (at_lookup; refine wpList_look _ rfl _ _ rfl mb (n + 1) f1 rfl HM9.out t rfl W1.out ?_)
            | (at_mapUpdate; refine wpList_mark _ rfl _ _ _ rfl mb (n + 1) f1 rfl HM9.out (by unfold maxLen; omega) t _ rfl rfl W1.out (wf_i64 (by omega) (by omega)) ?_; intro w10 hm10 hg10; have HM10 := Lib.hid hm10; have HG10 := Lib.hid hg10; have hz10 := hg10.size; clear hm10 hg10))
          go_roundw
          case rel =>
            have hxa : Apart3 x := ⟨HXN.out.2.2.2.1, HXN.out.2.2.2.2.1, HXN.out.2.2.2.2.2⟩
            have hv8 := HOW8.out.lt
            have hown10 : w10.ownsRow w3.heap.size 94 4 v8 (out.length + 1) (out.flatMap Mv.row ++ [.int .i64 xv, .int .i64 xe, .int .i64 r, .int .i64 t]) :=
              ownsRow_at HOW8.out fun j hj => (HG10.out.block j (by have := (hv8 j hj).2; omega) (fun e => by have := (hv8 j hj).1; have := Option.some.inj e; omega)).trans (HG9.out.block j (hv8 j hj).2 (fun e => by have := (hv8 j hj).1; have := Option.some.inj e; omega))
            refine ⟨k + 1, out ++ [⟨x.vol, x.epoch, hasI x node, t⟩], l.set k (x.mv node t), n + 1 + 1, _, by omega, by go_num, rfl, ?_, by rw [List.length_set]; exact HLL.out, fun j hj => ?_, nodes_set HNL.out HX.out HT.out.1 HPB.out HT.out.2, HM10.out.congr (fun j => ?_), by omega, by simp; omega, ?_, ?_⟩
            · rw [HLV.out, HGO.out, Option.map_map, List.length_set]
              congr 1
              funext q
              simp
            · rw [List.getElem?_set_ne (by omega)]
              exact HLE.out j (by omega)
            · rw [load_set HX.out hxa HPB.out HT.out.2 j]
              show (if j = t then f1 t + 1 else f1 j) = _
              rw [HFT.out, HF1.out]
              show (if j = t then f t + 1 else if j = node then f node - 1 else f j) = _
              rw [HF.out]
            · have e : (out ++ [(⟨x.vol, x.epoch, hasI x node, t⟩ : Mv)]).flatMap Mv.row = out.flatMap Mv.row ++ [.int .i64 xv, .int .i64 xe, .int .i64 r, .int .i64 t] := by
                rw [List.flatMap_append, HXX.out.1, HXX.out.2.1, HR'.out.symm]
                simp [Mv.row]
              rw [e, List.length_append]
              exact hown10
            · exact (((HK37.out.alloc _).drew.grown HG8.out (fun j hj hl => by have := (HOB.out j hj).1; omega)).grown HG9.out (fun j hj _ => (Option.some.inj hj).symm)).grown HG10.out (fun j hj _ => (Option.some.inj hj).symm)
          case measure => simp [intOf]; omega
    · have HEN := Lib.hid (show leaveF node ns (l.length - k) k l = some [] by rw [show l.length - k = 0 by have := HLL.out; omega]; rfl)
      go_wp2_with fail
      go_ret2
      exact LeaveOut.yes (by rw [HRES.out, HLV.out, HEN.out]; simp) rfl (ownsRow_mono HOW.out (by omega)) (HB3.out.trans (HKP.out.below (by omega) (fun j e => by omega)))
end Go.Proofs.Ytigkcbnlbdiimaa
