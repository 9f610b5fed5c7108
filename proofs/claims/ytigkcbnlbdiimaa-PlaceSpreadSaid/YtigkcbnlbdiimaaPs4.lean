/- Joined texts: PlaceOrd, Place4, Place5, PlaceLv, PlaceIns, Place7, PlaceEven, Place6, PlaceAlive, DirsParts, DirsParts2. -/
import Derived.Test.YtigkcbnlbdiimaaPs3
/- place.order. -/
namespace Go.Proofs.Ytigkcbnlbdiimaa
open Go.RowKit Go.Maps Go.Sort
/-- slices.Clone at []int,int. -/
theorem clone_info_int : (Try.prog.info? 3).map (fun i => (i.zero, i.size, i.bytes)) = some (some (.int .i64 0), 1, 8) := by kernel_rfl
set_option maxRecDepth 100000 in
set_option maxHeartbeats 1000000 in
theorem clone_int (v : Value) (n : Nat) (xs : List Value) (w : World) (h : Reads w 1 v n xs) (h1 : ∀ u ∈ xs, u.oneCell' = true) (hb : n * 8 ≤ 140737488355328) :
    Calls Try.prog 86 #[v] w (CloneOut w 3 1 v n xs) := by
  obtain ⟨i0, hi, hz0, hz1, hz2⟩ := info_parts clone_info_int
  obtain ⟨hlen, ⟨rfl, rfl⟩ | ⟨a, c, rfl, hm, hcell⟩⟩ := h
  · have hx : xs = [] := List.eq_nil_of_length_eq_zero (by simpa using hlen)
    subst hx
    clear hi hz0 hz1 hz2 hlen h1 hb
    have hne := fun (wx : World) => Lib.run_eql_slice_nil (P := Try.prog) wx 42 3 none 0 0 0 0 Try.underlying42
    go_enter Try.func86, Try.ntmps86
    go_wp2
    go_ret
    exact ⟨_, rfl, World.ownsRow_nil _ _ _ _, Iff.rfl, Below.refl _ _⟩
  · have hne := fun (wx : World) => Lib.run_eql_slice_nil (P := Try.prog) wx 42 3 (some a) n c 0 0 Try.underlying42
    have HI := Lib.hid hi
    have HZ0 := Lib.hid hz0
    have HZ1 := Lib.hid hz1
    have HZ2 := Lib.hid hz2
    have HL := Lib.hid hlen
    have HC := Lib.hid hcell
    have H1 := Lib.hid h1
    clear hi hz0 hz1 hz2 hlen hcell h1
    go_enter Try.func86, Try.ntmps86
    go_wp2_with (at_builtin; refine wpList_append_own _ rfl _ _ 42 rfl w.heap.size 3 i0 (.int .i64 0) 1 8 Try.underlying42 HI.out HZ0.out HZ1.out HZ2.out rfl (by decide) (.slice (some ⟨w.heap.size, 0, none⟩) 0 0) 0 [] rfl (World.ownsRow_lit w #[] 0 (Nat.le_refl _) (by unfold maxLen; omega) rfl) a n c xs rfl HL.out (fun j u hu => cell_later ((Below.refl _ _).alloc (Nat.le_refl _) _) (HC.out j u hu)) H1.out (by omega) (by omega) (by simp) ?_; intro v' w1 hown' hgrow hnil)
    go_ret
    exact ⟨_, rfl, by simpa using hown', by simpa using hnil, (((Below.refl _ _).alloc (Nat.le_refl _) _).grown hgrow (by simp) (by simp [Value.ownBlock]))⟩
def sortI (f : Int → Int) (ns : List Int) : List Int := ns.mergeSort fun x y => !ltP f y x
def toN (n : Int) : Fin 256 := Fin.ofNat 256 n.toNat
theorem toN_val {n : Int} (h : placeB n = true) : ((toN n).val : Int) = n := by
  simp [placeB] at h
  unfold toN
  simp only [Fin.ofNat]
  omega
theorem encN_toN {n : Int} (h : placeB n = true) : encN (toN n) = .int .i64 n := by
  unfold encN
  rw [toN_val h]
theorem right_nodes {ns : List Int} (h : rightB ns = true) : ns.length ≤ 64 ∧ ∀ x ∈ ns, placeB x = true := by
  simp only [rightB, prefOk, Bool.and_eq_true, decide_eq_true_eq, List.all_eq_true, List.mem_range] at h
  refine ⟨h.1, fun x hx => ?_⟩
  obtain ⟨i, hi, rfl⟩ := List.getElem_of_mem hx
  have := (h.2 i hi).1
  simpa [hi] using this
theorem sort_map (f : Int → Int) (ns : List Int) (h : ∀ x ∈ ns, placeB x = true) : ((ns.map toN).mergeSort fun x y => !(ltOf (cfP f)) y x).map encN = (sortI f ns).map (Value.int .i64) := by
  have e : ns = (ns.map toN).map (fun i => (i.val : Int)) := by
    rw [List.map_map]
    conv => lhs; rw [← List.map_id ns]
    exact List.map_congr_left fun x hx => (toN_val (h x hx)).symm
  have h1 : ((ns.map toN).mergeSort fun x y => !(ltOf (cfP f)) y x).map (fun i => (i.val : Int)) = sortI f ns := by
    unfold sortI
    conv => rhs; rw [e]
    exact List.map_mergeSort fun a _ b _ => by rw [ltOf_cfP]
  rw [← h1, List.map_map]
  rfl
/-- A row of nodes behind the sort. -/
theorem sorted_row {w : World} {base g cap m n : Nat} {xs : List Value} {d : Array (Fin 256)} (os : Array Obj) (h : w.ownsRow base 3 1 (.slice (some ⟨g, 0, none⟩) n cap) n xs) (hd : d.size = n) :
    (Go.Proofs.sortWorld encN w g 0 m d os).ownsRow base 3 1 (.slice (some ⟨g, 0, none⟩) n cap) n (d.toList.map encN) := by
  rcases h.2 with ⟨h', _⟩ | ⟨g', cap', cur, h', hb, hg, hnc, hcm, hcs, htake⟩
  · cases h'
  · simp only [Value.slice.injEq, Option.some.injEq, Addr.mk.injEq, and_true, true_and] at h'
    obtain ⟨rfl, rfl⟩ := h'
    have hlt := (Array.getElem?_eq_some_iff.1 hg).1
    refine ⟨by simp [hd], .inr ⟨g, cap, putCells encN 0 d cur, rfl, hb, ?_, hnc, hcm, by simp [putCells, hcs], ?_⟩⟩
    · show ((w.heap.modify g _) ++ os)[g]? = _
      rw [Array.getElem?_append_left (by simpa using hlt), Array.getElem?_modify]
      simp [hg, onCells]
    · apply List.ext_getElem?
      intro j
      rw [Nat.mul_one]
      by_cases hj : j < n
      · rw [List.getElem?_take_of_lt hj]
        have hjc : j < cur.size := by omega
        have hjd : j < d.size := by omega
        simp [putCells, hjc, hjd, hj]
      · rw [List.getElem?_eq_none (by simp; omega), List.getElem?_eq_none (by simp; omega)]
set_option maxRecDepth 100000 in
set_option maxHeartbeats 2000000 in
theorem order_any (f : Int → Int) (mb n : Nat) (ns : List Int) (v : Value) (w : World) (hm : MapIs w mb n f) (hr : Reads w 1 v ns.length (ns.map (Value.int .i64))) (hok : rightB ns = true) :
    Calls Try.prog 72 #[.map (some mb), v] w fun e w' => ∃ v', e = .returned v' ∧ w'.ownsRow w.heap.size 3 1 v' ns.length ((sortI f ns).map (Value.int .i64)) ∧ Below w.heap.size w w' := by
  obtain ⟨hl64, hpl⟩ := right_nodes hok
  have HM := Lib.hid hm
  have hml := hm.lt
  have HR := Lib.hid hr
  have HPL := Lib.hid hpl
  clear hm hr hok hpl
  go_enter Try.func72, Try.ntmps72
  go_wp2_with fail
  refine (clone_int v ns.length (ns.map (Value.int .i64)) _ (HR.out.below (by repeat (first | (with_reducible exact Below.refl _ _) | (with_reducible refine Below.setCell ?_ ?_ _) | (with_reducible refine Below.alloc ?_ ?_ _) | (with_reducible refine Below.drewN ?_ _) | (with_reducible refine Below.drew ?_) | (with_reducible exact Nat.le_refl _) | (focus (simp only [World.size_alloc, World.size_setCell, World.size_drew, World.size_drewN]; omega)) | omega | exact Nat.le_refl _ | (focus (simp; done)) | (focus (simp; omega))))) (fun u hu => by obtain ⟨x, _, rfl⟩ := List.mem_map.1 hu; rfl) (by omega)).mono ?_
  rintro e w1 ⟨v1, rfl, ho1, _, hb1⟩
  have HO1 := Lib.hid ho1
  have hz1 := hb1.size
  simp only [World.size_alloc] at hz1
  have hbk := hb1.block w.heap.size (by simp)
  rw [heap_alloc_new] at hbk
  have kb := (cell_of_row w1 w.heap.size 0 _ _ _ hbk)
  have HB1 := Lib.hid (show Below w.heap.size w w1 from Below.trans (by repeat (first | (with_reducible exact Below.refl _ _) | (with_reducible refine Below.setCell ?_ ?_ _) | (with_reducible refine Below.alloc ?_ ?_ _) | (with_reducible refine Below.drewN ?_ _) | (with_reducible refine Below.drew ?_) | (with_reducible exact Nat.le_refl _) | (focus (simp only [World.size_alloc, World.size_setCell, World.size_drew, World.size_drewN]; omega)) | omega | exact Nat.le_refl _ | (focus (simp; done)) | (focus (simp; omega)))) (hb1.mono (by simp)))
  have HM1 := Lib.hid (HM.out.below HB1.out)
  clear ho1 hb1 hbk
  have eg : ∀ args w, (callFunc 88 args).run Try.prog w = .ok (.enter 88 args) w := enters_of Try.func88 (by kernel_rfl) rfl
  rcases HO1.out.2 with ⟨hv, h0⟩ | ⟨g, cap, cur, hv, hg, hh, _⟩
  · subst hv
    have hns : ns = [] := List.eq_nil_of_length_eq_zero h0
    have HNS := Lib.hid hns
    clear hns h0 eg
    go_wp2_with fail
    refine (Try.slices_SortFunc_none (α := Fin 256) none 0 _ _).mono ?_
    rintro e w2 ⟨rfl, rfl⟩
    go_wp2_with fail
    go_ret
    refine ⟨.slice none 0 0, rfl, ?_, HB1.out⟩
    rw [HNS.out]
    simpa [sortI] using World.ownsRow_nil w2 w.heap.size 3 1
  · subst hv
    have hS := fun W (h1 : CmpLays1 Try.prog 88 #[.pointer (some ⟨w.heap.size, 0, none⟩)] encN (cfP f) g 0 (ns.map toN).toArray.size W) (h2 : Holds encN W g 0 (ns.map toN).toArray) (h3 : g < W.heap.size) => Try.slices_SortFunc_total encN (fun _ => rfl) (cfP f) (swoP f) 88 #[.pointer (some ⟨w.heap.size, 0, none⟩)] g 0 cap (ns.map toN).toArray W eg h1 h2 h3 (by simp; omega) (totP f)
    simp only [List.size_toArray, List.length_map] at hS
    have hgb : w.heap.size + 1 ≤ g := by simpa using hg
    have hgl := (HO1.out.lt g rfl).2
    have hcmp := cmpLays f mb n w.heap.size g 0 ns.length w1 HM1.out kb (by omega) (by omega) (by omega)
    have hh0 : Holds encN w1 g 0 (ns.map toN).toArray := by
      intro j hj
      have hj' : j < ns.length := by simpa using hj
      refine ⟨?_, HO1.out.frozenAt _⟩
      rw [Nat.zero_add, HO1.out.cellAt j (by omega), List.getElem?_map, List.getElem?_eq_getElem hj']
      simp only [Option.map_some]
      rw [getElem!_pos _ j (by simpa using hj')]
      simp only [List.getElem_toArray, List.getElem_map]
      rw [encN_toN (HPL.out _ (List.getElem_mem hj'))]
    have HS := Lib.hid (hS w1 hcmp hh0 hgl)
    clear hS eg hcmp hh0 hh
    go_wp2_with fail
    refine HS.out.mono ?_
    rintro e w2 ⟨rfl, m, os, rfl⟩
    have ho2 := sorted_row (m := m) (d := ((ns.map toN).mergeSort fun x y => !(ltOf (cfP f)) y x).toArray) os HO1.out (by simp)
    simp only [List.toList_toArray] at ho2
    rw [sort_map f ns HPL.out] at ho2
    have hbl : ∀ k, k < w1.heap.size → k ≠ g → (Go.Proofs.sortWorld encN w1 g 0 m ((ns.map toN).mergeSort fun x y => !(ltOf (cfP f)) y x).toArray os).heap[k]? = w1.heap[k]? := fun k hk hne => sortWorld_block encN w1 g 0 m k _ os hk hne
    have hB2 : Below w.heap.size w (Go.Proofs.sortWorld encN w1 g 0 m ((ns.map toN).mergeSort fun x y => !(ltOf (cfP f)) y x).toArray os) :=
      HB1.out.trans ⟨rfl, rfl, rfl, by show w1.heap.size ≤ ((w1.heap.modify g _) ++ os).size; simp, fun k hk => hbl k (by omega) (by omega)⟩
    have HO2 := Lib.hid ho2
    have HB2 := Lib.hid hB2
    clear ho2 hB2 hbl
    generalize Go.Proofs.sortWorld encN w1 g 0 m ((ns.map toN).mergeSort fun x y => !(ltOf (cfP f)) y x).toArray os = w2 at *
    go_wp2_with fail
    go_ret
    exact ⟨_, rfl, ownsRow_mono HO2.out (by simp), HB2.out⟩
end Go.Proofs.Ytigkcbnlbdiimaa

/- place.Load, Order, Pick, New. -/
namespace Go.Proofs.Ytigkcbnlbdiimaa
open Go.RowKit
theorem len_onVols (es : List Ent) (node : Int) : (onVols node es).length = loadN es node := by
  unfold onVols loadN
  rw [List.length_map, List.countP_eq_length_filter]
  congr 1
  apply List.filter_congr
  intro x _
  unfold onB hasB
  simp only [List.contains_cons, List.contains_nil, Bool.or_false]
  rw [BEq.comm (a := node) (b := x.n0), BEq.comm (a := node) (b := x.n1), BEq.comm (a := node) (b := x.n2), Bool.or_assoc]
set_option maxHeartbeats 400000 in
theorem pload_any (base bm : Nat) (v : Value) (es : List Ent) (node : Int) (w : World) (h : MapAt w base bm v es) :
    Calls Try.prog 45 #[.pointer (some ⟨bm, 0, none⟩), .int .i64 node] w fun e w' => e = .returned (.int .i64 (loadN es node)) ∧ Below w.heap.size w w' := by
  have HL := Lib.hid (len_onVols es node)
  have H := Lib.hid h
  clear h
  go_enter Try.func45, Try.ntmps45
  go_wp2_with fail
  refine (on_any _ _ _ _ _ _ H.out).mono ?_
  rintro e w1 ⟨v1, rfl, ho1, hb1⟩
  obtain ⟨a1, c1, rfl⟩ := ownsRow_len ho1
  have HB := Lib.hid hb1
  clear ho1 hb1
  go_wp2_with fail
  go_ret
  exact ⟨by rw [← HL.out]; rfl, HB.out⟩
set_option maxHeartbeats 1000000 in
theorem porder_bad (base bm : Nat) (v va : Value) (es : List Ent) (ns : List Int) (w : World) (h : MapAt w base bm v es) (hr : Reads w 1 va ns.length (ns.map (Value.int .i64))) (hcap : ∀ a n c, va = .slice a n c → n ≤ c) (hok : rightB ns = false) :
    Calls Try.prog 43 #[.pointer (some ⟨bm, 0, none⟩), va] w fun e w' => e = .returned (.tuple #[.slice none 0 0, errV 1]) ∧ w = w' := by
  obtain ⟨ao, cap, rfl⟩ := reads_len hr
  have HR := Lib.hid hr
  have HCAP := Lib.hid (hcap _ _ _ rfl)
  have HOK := Lib.hid hok
  have HN := Lib.hid (errV_ne (k := 1) (by omega))
  clear h hr hcap hok
  go_enter Try.func43, Try.ntmps43
  go_wp2_with fail
  refine (right27_any _ ns cap ao _ rfl HR.out HCAP.out).mono ?_
  rintro e w' ⟨rfl, rfl⟩
  rw [HOK.out]
  go_wp2_with fail
  go_ret2
  exact ⟨by rw [HN.out]; rfl, rfl⟩
set_option maxHeartbeats 1000000 in
theorem porder_any (base bm : Nat) (v va : Value) (es : List Ent) (ns : List Int) (w : World) (h : MapAt w base bm v es) (hno : NodesOk es) (hr : Reads w 1 va ns.length (ns.map (Value.int .i64))) (hcap : ∀ a n c, va = .slice a n c → n ≤ c) (hok : rightB ns = true) :
    Calls Try.prog 43 #[.pointer (some ⟨bm, 0, none⟩), va] w
      fun e w' => ∃ v', e = .returned (.tuple #[v', .nilIface]) ∧ w'.ownsRow w.heap.size 3 1 v' ns.length ((sortI (fun k => (loadN es k : Int)) ns).map (Value.int .i64)) ∧ Below w.heap.size w w' := by
  obtain ⟨ao, cap, rfl⟩ := reads_len hr
  have HR := Lib.hid hr
  have HCAP := Lib.hid (hcap _ _ _ rfl)
  have HOK := Lib.hid hok
  have HNO := Lib.hid hno
  have hfew := h.few
  have H := Lib.hid h
  clear h hr hcap hok hno
  go_enter Try.func43, Try.ntmps43
  go_wp2_with fail
  refine (right27_any _ ns cap ao _ rfl HR.out HCAP.out).mono ?_
  rintro e w' ⟨rfl, rfl⟩
  rw [HOK.out]
  go_wp2_with fail
  refine (all_any _ _ _ _ _ H.out).mono ?_
  rintro e w1 ⟨v1, rfl, ho1, _, hb1⟩
  have HO1 := Lib.hid ho1
  have HB1 := Lib.hid hb1
  have hz1 := hb1.size
  clear ho1 hb1
  go_wp2_with fail
  refine (loads_any _ _ es _ HO1.out hfew HNO.out).mono ?_
  rintro e w2 ⟨n2, rfl, _, hm2, hb2⟩
  have HM2 := Lib.hid hm2
  have HB2 := Lib.hid (HB1.out.trans (hb2.mono hz1))
  have hz2 := hb2.size
  clear hm2 hb2
  go_wp2_with fail
  refine (order_any _ _ n2 ns _ _ HM2.out (HR.out.below HB2.out) HOK.out).mono ?_
  rintro e w3 ⟨v3, rfl, ho3, hb3⟩
  have HO3 := Lib.hid ho3
  have HB3 := Lib.hid (HB2.out.trans (hb3.mono (by omega)))
  clear ho3 hb3
  go_wp2_with fail
  go_ret2
  exact ⟨_, rfl, ownsRow_mono HO3.out (by omega), HB3.out⟩
/-- What Pick gives. -/
def three (l : List Int) : Value := .agg #[.int .i64 (l.getD 0 0), .int .i64 (l.getD 1 0), .int .i64 (l.getD 2 0)]
set_option maxHeartbeats 1000000 in
theorem pick_bad (base bm : Nat) (v va : Value) (es : List Ent) (ns : List Int) (w : World) (h : MapAt w base bm v es) (hr : Reads w 1 va ns.length (ns.map (Value.int .i64))) (hcap : ∀ a n c, va = .slice a n c → n ≤ c) (hok : rightB ns = false) :
    Calls Try.prog 44 #[.pointer (some ⟨bm, 0, none⟩), va] w fun e w' => e = .returned (.tuple #[.agg #[.int .i64 0, .int .i64 0, .int .i64 0], errV 1]) ∧ Below w.heap.size w w' := by
  have HN := Lib.hid (errV_ne (k := 1) (by omega))
  have HO := Lib.hid (fun W (hb : Below w.heap.size w W) => porder_bad base bm v va es ns W (h.below hb) (hr.below hb) hcap hok)
  clear h hr hcap hok
  go_enter Try.func44, Try.ntmps44
  go_wp2_with fail
  refine (HO.out _ (by repeat (first | (with_reducible exact Below.refl _ _) | (with_reducible refine Below.setCell ?_ ?_ _) | (with_reducible refine Below.alloc ?_ ?_ _) | (with_reducible refine Below.drewN ?_ _) | (with_reducible refine Below.drew ?_) | (with_reducible exact Nat.le_refl _) | (focus (simp only [World.size_alloc, World.size_setCell, World.size_drew, World.size_drewN]; omega)) | omega | exact Nat.le_refl _ | (focus (simp; done)) | (focus (simp; omega))))).mono ?_
  rintro e w1 ⟨rfl, rfl⟩
  rw [HN.out]
  go_wp2_with fail
  refine bodyPost_ret (v := .tuple #[.agg #[.int .i64 0, .int .i64 0, .int .i64 0], .iface 106 (.int .i64 1)]) ?_ rfl ?_
  · simp [results, Try.results44, go_sem]
  · exact ⟨by rw [HN.out], (by repeat (first | (with_reducible exact Below.refl _ _) | (with_reducible refine Below.setCell ?_ ?_ _) | (with_reducible refine Below.alloc ?_ ?_ _) | (with_reducible refine Below.drewN ?_ _) | (with_reducible refine Below.drew ?_) | (with_reducible exact Nat.le_refl _) | (focus (simp only [World.size_alloc, World.size_setCell, World.size_drew, World.size_drewN]; omega)) | omega | exact Nat.le_refl _ | (focus (simp; done)) | (focus (simp; omega))))⟩
def PickOut (es : List Ent) (ns : List Int) (w : World) (e : Ending) (w' : World) : Prop :=
  ∃ a b c, e = .returned (.tuple #[.agg #[.int .i64 a, .int .i64 b, .int .i64 c], errV (if ns.length < 3 then 11 else 0)]) ∧ (if ns.length < 3 then a = 0 ∧ b = 0 ∧ c = 0 else [a, b, c] = (sortI (fun k => (loadN es k : Int)) ns).take 3) ∧ Below w.heap.size w w'
set_option maxRecDepth 100000 in
set_option maxHeartbeats 1000000 in
theorem pick_any (base bm : Nat) (v va : Value) (es : List Ent) (ns : List Int) (w : World) (h : MapAt w base bm v es) (hno : NodesOk es) (hr : Reads w 1 va ns.length (ns.map (Value.int .i64))) (hcap : ∀ a n c, va = .slice a n c → n ≤ c) (hok : rightB ns = true) :
    Calls Try.prog 44 #[.pointer (some ⟨bm, 0, none⟩), va] w
      (PickOut es ns w) := by
  have HO := Lib.hid (fun W (hb : Below w.heap.size w W) => porder_any base bm v va es ns W (h.below hb) hno (hr.below hb) hcap hok)
  clear h hr hcap hok hno
  by_cases hl : ns.length < 3
  · have HN := Lib.hid (errV_ne (k := 11) (by omega))
    have hd : decide ((ns.length : Int) < 3) = true := by simp; omega
    have HL := Lib.hid hl
    clear hl
    go_enter Try.func44, Try.ntmps44
    go_wp2_with fail
    refine (HO.out _ (by repeat (first | (with_reducible exact Below.refl _ _) | (with_reducible refine Below.setCell ?_ ?_ _) | (with_reducible refine Below.alloc ?_ ?_ _) | (with_reducible refine Below.drewN ?_ _) | (with_reducible refine Below.drew ?_) | (with_reducible exact Nat.le_refl _) | (focus (simp only [World.size_alloc, World.size_setCell, World.size_drew, World.size_drewN]; omega)) | omega | exact Nat.le_refl _ | (focus (simp; done)) | (focus (simp; omega))))).mono ?_
    rintro e w1 ⟨v1, rfl, ho1, hb1⟩
    obtain ⟨a1, c1, rfl⟩ := ownsRow_len ho1
    have hbk := hb1.block w.heap.size (by simp)
    rw [heap_alloc_new] at hbk
    have z0 := cell_of_row w1 w.heap.size 0 _ _ _ hbk
    have z1 := cell_of_row w1 w.heap.size 1 _ _ _ hbk
    have z2 := cell_of_row w1 w.heap.size 2 _ _ _ hbk
    have zf := fun o => frozen_of_row w1 w.heap.size o _ _ hbk
    simp at z0 z1 z2
    have hz1 := hb1.size
    simp only [World.size_alloc] at hz1
    have HB1 := Lib.hid (show Below w.heap.size w w1 from Below.trans (by repeat (first | (with_reducible exact Below.refl _ _) | (with_reducible refine Below.setCell ?_ ?_ _) | (with_reducible refine Below.alloc ?_ ?_ _) | (with_reducible refine Below.drewN ?_ _) | (with_reducible refine Below.drew ?_) | (with_reducible exact Nat.le_refl _) | (focus (simp only [World.size_alloc, World.size_setCell, World.size_drew, World.size_drewN]; omega)) | omega | exact Nat.le_refl _ | (focus (simp; done)) | (focus (simp; omega)))) (hb1.mono (by simp)))
    have HO1 := Lib.hid ho1
    clear ho1 hb1 hbk
    go_wp2_with fail
    refine bodyPost_ret (v := .tuple #[.agg #[.int .i64 0, .int .i64 0, .int .i64 0], .iface 106 (.int .i64 11)]) ?_ rfl ?_
    · simp [results, Try.results44, go_sem, z0, z1, z2]
    · refine ⟨0, 0, 0, by rw [if_pos HL.out, HN.out], by rw [if_pos HL.out]; exact ⟨rfl, rfl, rfl⟩, ?_⟩
      (repeat (with_reducible refine Below.setCell ?_ ?_ _; rotate_left; focus (simp; done)))
      exact HB1.out
  · have hd : decide ((ns.length : Int) < 3) = false := by simp; omega
    have hn3 : (3 : Int) ≤ (ns.length : Int) := by omega
    have hn3' : 3 ≤ ns.length := by omega
    have HL := Lib.hid hl
    clear hl
    go_enter Try.func44, Try.ntmps44
    go_wp2_with fail
    refine (HO.out _ (by repeat (first | (with_reducible exact Below.refl _ _) | (with_reducible refine Below.setCell ?_ ?_ _) | (with_reducible refine Below.alloc ?_ ?_ _) | (with_reducible refine Below.drewN ?_ _) | (with_reducible refine Below.drew ?_) | (with_reducible exact Nat.le_refl _) | (focus (simp only [World.size_alloc, World.size_setCell, World.size_drew, World.size_drewN]; omega)) | omega | exact Nat.le_refl _ | (focus (simp; done)) | (focus (simp; omega))))).mono ?_
    rintro e w1 ⟨v1, rfl, ho1, hb1⟩
    obtain ⟨a1, c1, rfl⟩ := ownsRow_len ho1
    have hbk := hb1.block w.heap.size (by simp)
    rw [heap_alloc_new] at hbk
    have z0 := cell_of_row w1 w.heap.size 0 _ _ _ hbk
    have z1 := cell_of_row w1 w.heap.size 1 _ _ _ hbk
    have z2 := cell_of_row w1 w.heap.size 2 _ _ _ hbk
    have zf := fun o => frozen_of_row w1 w.heap.size o _ _ hbk
    simp at z0 z1 z2
    have hz1 := hb1.size
    simp only [World.size_alloc] at hz1
    have HB1 := Lib.hid (show Below w.heap.size w w1 from Below.trans (by repeat (first | (with_reducible exact Below.refl _ _) | (with_reducible refine Below.setCell ?_ ?_ _) | (with_reducible refine Below.alloc ?_ ?_ _) | (with_reducible refine Below.drewN ?_ _) | (with_reducible refine Below.drew ?_) | (with_reducible exact Nat.le_refl _) | (focus (simp only [World.size_alloc, World.size_setCell, World.size_drew, World.size_drewN]; omega)) | omega | exact Nat.le_refl _ | (focus (simp; done)) | (focus (simp; omega)))) (hb1.mono (by simp)))
    have HO1 := Lib.hid ho1
    clear ho1 hb1 hbk
    have hlen : (sortI (fun k => (loadN es k : Int)) ns).length = ns.length := by simp [sortI]
    obtain ⟨l, hll⟩ : ∃ l, l = sortI (fun k => (loadN es k : Int)) ns := ⟨_, rfl⟩
    rw [← hll] at hlen HO1
    have HLL := Lib.hid hll
    clear hll
    obtain ⟨x, y, z, r, rfl⟩ : ∃ x y z r, l = x :: y :: z :: r := by
      match l, hlen with
      | [], h => simp at h; omega
      | [_], h => simp at h; omega
      | [_, _], h => simp at h; omega
      | x :: y :: z :: r, _ => exact ⟨x, y, z, r, rfl⟩
    obtain ⟨g, hg⟩ : ∃ g, a1 = some ⟨g, 0, none⟩ := by
      rcases HO1.out.2 with ⟨e, h0⟩ | ⟨g, _, _, e, _⟩
      · omega
      · simp only [Value.slice.injEq] at e
        exact ⟨g, e.1⟩
    subst hg
    have hcc := (owns_cap HO1.out).1
    have hc3 : (3 : Int) ≤ (c1 : Int) := by omega
    have k0 := HO1.out.cellAt 0 (by omega)
    have k1 := HO1.out.cellAt 1 (by omega)
    have k2 := HO1.out.cellAt 2 (by omega)
    simp at k0 k1 k2
    have hgb := (HO1.out.lt g rfl).1
    simp only [World.size_alloc] at hgb
    clear hlen hcc
    have har : ∀ W : World, (Instr.arrayAt 30 (.slice (some ⟨g, 0, none⟩) 3 c1)).run Try.prog W = .ok (.pointer (some ⟨g, 0, none⟩)) W := fun _ => by kernel_rfl
    go_wp2_with fail
    refine bodyPost_ret (v := .tuple #[.agg #[.int .i64 x, .int .i64 y, .int .i64 z], .nilIface]) ?_ rfl ?_
    · simp [results, Try.results44, go_sem, z0, z1, z2]
    · refine ⟨x, y, z, by rw [if_neg HL.out]; rfl, by rw [if_neg HL.out, ← HLL.out]; rfl, ?_⟩
      (repeat (with_reducible refine Below.setCell ?_ ?_ _; rotate_left; focus (simp; done)))
      exact HB1.out
end Go.Proofs.Ytigkcbnlbdiimaa

/- corncriblaw27.made; place.New; nodes stay apart. -/
namespace Go.Proofs.Ytigkcbnlbdiimaa
open Go.RowKit
theorem turn_nodes {x : Ent} {c : Cmd} (hk : 2 ≤ c.kind) (hk2 : c.kind ≤ 4) (ht : turnE x c = 0) (hx : placeB x.n0 = true ∧ placeB x.n1 = true ∧ placeB x.n2 = true ∧ x.n0 ≠ x.n1 ∧ x.n0 ≠ x.n2 ∧ x.n1 ≠ x.n2) :
    placeB (turnX x c).n0 = true ∧ placeB (turnX x c).n1 = true ∧ placeB (turnX x c).n2 = true ∧ (turnX x c).n0 ≠ (turnX x c).n1 ∧ (turnX x c).n0 ≠ (turnX x c).n2 ∧ (turnX x c).n1 ≠ (turnX x c).n2 := by
  obtain ⟨p0, p1, p2, d1, d2, d3⟩ := hx
  rcases turn_ways hk hk2 ht with ⟨_, _, e⟩ | ⟨_, _, e⟩ | ⟨_, hp, h0, h1, h2, ⟨_, e⟩ | ⟨_, e⟩ | ⟨_, e⟩⟩
  · rw [e]; exact ⟨p0, p1, p2, d1, d2, d3⟩
  · rw [e]; exact ⟨p0, p1, p2, d1, d2, d3⟩
  · simp at h0 h1 h2
    rw [e]; exact ⟨hp, p1, p2, Ne.symm h1, Ne.symm h2, d3⟩
  · simp at h0 h1 h2
    rw [e]; exact ⟨p0, hp, p2, h0, d2, Ne.symm h2⟩
  · simp at h0 h1 h2
    rw [e]; exact ⟨p0, p1, hp, d1, h0, h1⟩
theorem three_nodes {a b c : Int} (h : threeB a b c = true) : placeB a = true ∧ placeB b = true ∧ placeB c = true ∧ a ≠ b ∧ a ≠ c ∧ b ≠ c := by
  obtain ⟨h1, h2, h3, h4, h5, h6⟩ := three_yes h
  exact ⟨h1, h2, h3, by simpa using h4, by simpa using h5, by simpa using h6⟩
theorem nodes_do (es : List Ent) (c : Cmd) (h : NodesOk es) : NodesOk (doEs es c) := by
  unfold doEs
  split
  · split
    · rename_i ht
      intro x hx
      rcases List.mem_append.1 hx with hx | hx
      · exact h x hx
      · simp at hx
        subst hx
        exact three_nodes (by simp_all)
    · exact h
  · split
    · rename_i hk
      split
      · split
        · rename_i x hx
          split
          · rename_i ht
            intro y hy
            rcases List.mem_or_eq_of_mem_set hy with hy | rfl
            · exact h y hy
            · exact turn_nodes (by omega) (by omega) ht.2 (h x (List.mem_of_getElem? hx))
          · exact h
        · exact h
      · exact h
    · exact h
theorem nodes_all (cs : List Cmd) : ∀ (es : List Ent), NodesOk es → NodesOk (doAll es cs) := by
  induction cs with
  | nil => intro es h; exact h
  | cons c cs ih => intro es h; exact ih _ (nodes_do es c h)
theorem doAll_few (log : List Cmd) : ∀ (es : List Ent), (doAll es log).length ≤ es.length + log.length := by
  induction log with
  | nil => intro es; simp [doAll]
  | cons c log ih =>
    intro es
    have h1 := (doEs_len es c).2
    have h2 := ih (doEs es c)
    simp only [doAll, List.foldl_cons, List.length_cons] at h2 ⊢
    omega
/-- A row of the document's entries lies apart from a map. -/
theorem DoOut.beside {w w' : World} {B bm b n : Nat} {v xv : Value} {es es' : List Ent} {m k : Int} {e : Ending} {xs : List Value} (h : DoOut w B bm v es' m k e w') (hm : MapAt w B bm v es)
    (hr : w.ownsRow b 128 6 xv n xs) : w'.ownsRow b 128 6 xv n xs := by
  obtain ⟨_, _, _, _, hk⟩ := h
  refine ownsRow_keeps hr hk fun g hg hf => ?_
  rcases hr.2 with ⟨rfl, _⟩ | ⟨g', cap, cur, rfl, _, hh, _⟩
  · cases hg
  · simp only [Value.ownBlock, Option.some.injEq] at hg
    subst hg
    rcases hf with rfl | hf
    · rw [hm.blk] at hh
      simp only [Option.some.injEq, Obj.cells.injEq] at hh
      exact absurd hh.2.1 (by decide)
    · rcases hm.row.2 with ⟨e, _⟩ | ⟨g2, cap2, cur2, e, _, hh2, _⟩
      · rw [e] at hf; cases hf
      · rw [e] at hf
        simp only [Value.ownBlock, Option.some.injEq] at hf
        subst hf
        rw [hh2] at hh
        simp only [Option.some.injEq, Obj.cells.injEq] at hh
        exact absurd hh.2.1 (by decide)
end Go.Proofs.Ytigkcbnlbdiimaa

/- place.Leave, Even: the plain law; the closure of Leave; what it leaves of a row of nodes. -/
namespace Go.Proofs.Ytigkcbnlbdiimaa
open Go.RowKit Go.Maps Go.Sort
/-- A move. -/
structure Mv where
  vol : Int
  epoch : Int
  spot : Int
  node : Int
def Mv.row (m : Mv) : List Value := [.int .i64 m.vol, .int .i64 m.epoch, .int .i64 m.spot, .int .i64 m.node]
theorem Mv.row_len (m : Mv) : m.row.length = 4 := rfl
/-- An entry whose node n went to t. -/
def Ent.mv (x : Ent) (n t : Int) : Ent := if x.n0 = n then { x with n0 := t } else if x.n1 = n then { x with n1 := t } else if x.n2 = n then { x with n2 := t } else x
def Apart3 (x : Ent) : Prop := x.n0 ≠ x.n1 ∧ x.n0 ≠ x.n2 ∧ x.n1 ≠ x.n2
theorem has_mv {x : Ent} {n t : Int} (hd : Apart3 x) (hn : hasB x n = true) (ht : hasB x t = false) (j : Int) : hasB (x.mv n t) j = (decide (j = t) || (hasB x j && !decide (j = n))) := by
  obtain ⟨v, e, a, b, c, s⟩ := x
  obtain ⟨h1, h2, h3⟩ := hd
  simp only [hasB, Bool.or_eq_true, Bool.or_eq_false_iff, beq_iff_eq, beq_eq_false_iff_ne, ne_eq] at *
  rw [Bool.eq_iff_iff]
  unfold Ent.mv
  by_cases ha : a = n
  · simp only [ha, if_true]
    simp
    omega
  · by_cases hb : b = n
    · simp only [ha, hb, if_true, if_false]
      simp
      omega
    · have hc : c = n := by omega
      simp only [ha, hb, hc, if_true, if_false]
      simp
      omega
theorem mv_nodes {x : Ent} {n t : Int} (hp : placeB t = true) (hn : hasB x n = true) (ht : hasB x t = false) (hx : placeB x.n0 = true ∧ placeB x.n1 = true ∧ placeB x.n2 = true ∧ x.n0 ≠ x.n1 ∧ x.n0 ≠ x.n2 ∧ x.n1 ≠ x.n2) :
    placeB (x.mv n t).n0 = true ∧ placeB (x.mv n t).n1 = true ∧ placeB (x.mv n t).n2 = true ∧ (x.mv n t).n0 ≠ (x.mv n t).n1 ∧ (x.mv n t).n0 ≠ (x.mv n t).n2 ∧ (x.mv n t).n1 ≠ (x.mv n t).n2 := by
  obtain ⟨v, e, a, b, c, s⟩ := x
  obtain ⟨p0, p1, p2, h1, h2, h3⟩ := hx
  simp only [hasB, Bool.or_eq_true, Bool.or_eq_false_iff, beq_iff_eq, beq_eq_false_iff_ne, ne_eq] at *
  unfold Ent.mv
  by_cases ha : a = n
  · simp only [ha, if_true]
    exact ⟨hp, p1, p2, by omega, by omega, by omega⟩
  · by_cases hb : b = n
    · simp only [ha, hb, if_true, if_false]
      exact ⟨p0, hp, p2, by omega, by omega, by omega⟩
    · have hc : c = n := by omega
      simp only [ha, hb, hc, if_true, if_false]
      exact ⟨p0, p1, hp, by omega, by omega, by omega⟩
theorem load_set {l : List Ent} {k : Nat} {x : Ent} {n t : Int} (hx : l[k]? = some x) (hd : Apart3 x) (hn : hasB x n = true) (ht : hasB x t = false) (j : Int) :
    (loadN (l.set k (x.mv n t)) j : Int) = if j = t then (loadN l t : Int) + 1 else if j = n then (loadN l n : Int) - 1 else loadN l j := by
  obtain ⟨hk, hx'⟩ := List.getElem?_eq_some_iff.1 hx
  have h := List.countP_set (p := fun y => hasB y j) (l := l) (i := k) (a := x.mv n t) hk
  have hle : (if hasB l[k] j = true then 1 else 0) ≤ l.countP fun y => hasB y j := by
    by_cases hh : hasB l[k] j = true
    · rw [if_pos hh]
      exact List.countP_pos_iff.2 ⟨_, List.getElem_mem hk, hh⟩
    · rw [if_neg hh]
      exact Nat.zero_le _
  unfold loadN
  rw [h]
  rw [hx'] at hle ⊢
  rw [has_mv hd hn ht]
  have hnt : n ≠ t := fun e => by rw [e, ht] at hn; cases hn
  by_cases h1 : j = t
  · subst h1
    simp only [ht, if_true]
    simp
  · by_cases h2 : j = n
    · subst h2
      rw [hn] at hle ⊢
      simp only [h1, if_true, if_false, decide_false, decide_true, Bool.false_or, Bool.not_true, Bool.and_false, Bool.false_eq_true] at hle ⊢
      omega
    · simp only [h1, h2, decide_false, decide_true, Bool.false_or, Bool.not_false, Bool.and_true, if_false] at hle ⊢
      cases hb : hasB x j
      · simp
      · rw [hb] at hle
        simp only [if_true] at hle ⊢
        omega
theorem nodes_set {l : List Ent} {k : Nat} {x : Ent} {n t : Int} (hl : NodesOk l) (hx : l[k]? = some x) (hp : placeB t = true) (hn : hasB x n = true) (ht : hasB x t = false) : NodesOk (l.set k (x.mv n t)) := by
  intro y hy
  rcases List.mem_or_eq_of_mem_set hy with h | h
  · exact hl y h
  · rw [h]; exact mv_nodes hp hn ht (hl x (List.mem_of_getElem? hx))
/-- Where a volume's node may go. -/
def mayOf (l : List Ent) (ns : List Int) (x : Ent) : List Int := (sortI (fun k => (loadN l k : Int)) ns).filter fun t => !hasB x t
/-- Leave, from entry k on (f of them), the earlier ones moved. -/
def leaveF (node : Int) (ns : List Int) : Nat → Nat → List Ent → Option (List Mv)
  | 0, _, _ => some []
  | f + 1, k, l => match l[k]? with
    | none => some []
    | some x => if hasB x node then match mayOf l ns x with
        | [] => none
        | t :: _ => (leaveF node ns f (k + 1) (l.set k (x.mv node t))).map fun r => ⟨x.vol, x.epoch, hasI x node, t⟩ :: r
      else leaveF node ns f (k + 1) l
def leaveI (es : List Ent) (node : Int) (ns : List Int) : Option (List Mv) := leaveF node ns es.length 0 es
theorem leaveF_no {node : Int} {ns : List Int} {f k : Nat} {l : List Ent} {x : Ent} (hf : f = l.length - k) (hx : l[k]? = some x) (hn : hasB x node = false) : leaveF node ns f k l = leaveF node ns (l.length - (k + 1)) (k + 1) l := by
  have hk := (List.getElem?_eq_some_iff.1 hx).1
  obtain ⟨g, rfl⟩ : ∃ g, f = g + 1 := ⟨f - 1, by omega⟩
  rw [show l.length - (k + 1) = g by omega]
  simp [leaveF, hx, hn]
theorem leaveF_full {node : Int} {ns : List Int} {f k : Nat} {l : List Ent} {x : Ent} (hf : f = l.length - k) (hx : l[k]? = some x) (hn : hasB x node = true) (hm : mayOf l ns x = []) : leaveF node ns f k l = none := by
  have hk := (List.getElem?_eq_some_iff.1 hx).1
  obtain ⟨g, rfl⟩ : ∃ g, f = g + 1 := ⟨f - 1, by omega⟩
  simp [leaveF, hx, hn, hm]
theorem leaveF_go {node : Int} {ns : List Int} {f k : Nat} {l : List Ent} {x : Ent} {t : Int} {r : List Int} (hf : f = l.length - k) (hx : l[k]? = some x) (hn : hasB x node = true) (hm : mayOf l ns x = t :: r) :
    leaveF node ns f k l = (leaveF node ns (l.length - (k + 1)) (k + 1) (l.set k (x.mv node t))).map fun r => ⟨x.vol, x.epoch, hasI x node, t⟩ :: r := by
  have hk := (List.getElem?_eq_some_iff.1 hx).1
  obtain ⟨g, rfl⟩ : ∃ g, f = g + 1 := ⟨f - 1, by omega⟩
  rw [show l.length - (k + 1) = g by omega]
  simp [leaveF, hx, hn, hm]
theorem idxOf_has (x : Ent) (n : Int) : idxOf [x.n0, x.n1, x.n2] n = hasI x n := by
  unfold idxOf hasI
  by_cases h0 : x.n0 = n
  · simp [h0, List.findIdx?_cons]
  · by_cases h1 : x.n1 = n
    · simp [h0, h1, List.findIdx?_cons]
    · by_cases h2 : x.n2 = n <;> simp [h0, h1, h2, List.findIdx?_cons]
theorem contains_has (x : Ent) (n : Int) : [x.n0, x.n1, x.n2].contains n = hasB x n := by
  unfold hasB
  simp only [List.contains_cons, List.contains_nil, Bool.or_false]
  rw [BEq.comm (a := n) (b := x.n0), BEq.comm (a := n) (b := x.n1), BEq.comm (a := n) (b := x.n2), Bool.or_assoc]
/-- Index at an array of three. -/
theorem index3 (b o cap : Nat) (e : Ent) (x : Int) (w : World) (h0 : w.cell? ⟨b, o, none⟩ = some (.int .i64 e.n0)) (h1 : w.cell? ⟨b, o + 1, none⟩ = some (.int .i64 e.n1)) (h2 : w.cell? ⟨b, o + 2, none⟩ = some (.int .i64 e.n2)) :
    Calls Try.prog 75 #[.slice (some ⟨b, o, none⟩) 3 cap, .int .i64 x] w fun r w' => r = .returned (.int .i64 (hasI e x)) ∧ w = w' := by
  rw [← idxOf_has]
  refine index_any b o 3 cap [e.n0, e.n1, e.n2] x w rfl (fun i hi => ?_) (by unfold maxLen; omega)
  match i, hi with
  | 0, _ => simpa using h0
  | 1, _ => simpa using h1
  | 2, _ => simpa using h2
set_option maxHeartbeats 400000 in
theorem del_any (bx : Nat) (x : Ent) (n : Int) (w : World) (h0 : w.cell? ⟨bx, 2, none⟩ = some (.int .i64 x.n0)) (h1 : w.cell? ⟨bx, 3, none⟩ = some (.int .i64 x.n1)) (h2 : w.cell? ⟨bx, 4, none⟩ = some (.int .i64 x.n2)) :
    Calls Try.prog 77 #[.int .i64 n, .pointer (some ⟨bx, 0, none⟩)] w fun e w' => e = .returned (.bool (hasB x n)) ∧ ∃ q, w' = w.drewN q := by
  have HC := Lib.hid (contains_has x n)
  obtain ⟨v, ep, a, b, c, s⟩ := x
  go_enter Try.func77, Try.ntmps77
  go_wp2_with fail
  refine (contains3 bx 2 _ a b c n _ _ HC.out (by go_simp) (by go_simp) (by go_simp)).mono ?_
  rintro e w' ⟨rfl, rfl⟩
  go_wp2_with fail
  go_ret
  exact ⟨rfl, 0, rfl⟩
theorem filter_toN (so : List Int) (hp : ∀ n ∈ so, placeB n = true) (q : Int → Bool) : ((so.map toN).filter fun i => q (i.val : Int)) = (so.filter q).map toN := by
  induction so with
  | nil => rfl
  | cons a so ih =>
    have h := ih (fun n hn => hp n (List.mem_cons_of_mem _ hn))
    have ha := toN_val (hp a List.mem_cons_self)
    simp only [List.map_cons, List.filter_cons, ha, h]
    split <;> rfl
set_option maxHeartbeats 400000 in
theorem may_any (so : List Int) (x : Ent) (g cap bx base : Nat) (w : World) (ho : w.ownsRow base 3 1 (.slice (some ⟨g, 0, none⟩) so.length cap) so.length (so.map (Value.int .i64))) (hp : ∀ n ∈ so, placeB n = true)
    (hb : bx < w.heap.size) (hne : bx ≠ g) (h0 : w.cell? ⟨bx, 2, none⟩ = some (.int .i64 x.n0)) (h1 : w.cell? ⟨bx, 3, none⟩ = some (.int .i64 x.n1)) (h2 : w.cell? ⟨bx, 4, none⟩ = some (.int .i64 x.n2)) :
    Calls Try.prog 76 #[.slice (some ⟨g, 0, none⟩) so.length cap, .func (.func 77) #[] #[.pointer (some ⟨bx, 0, none⟩)]] w
      fun e w' => e = .returned (.slice (some ⟨g, 0, none⟩) (so.filter fun t => !hasB x t).length cap) ∧ (∀ t r, (so.filter fun t => !hasB x t) = t :: r → w'.cell? ⟨g, 0, none⟩ = some (.int .i64 t)) ∧ Keeps (fun k => k = g) w w' := by
  have eg : ∀ args w, (callFunc 77 args).run Try.prog w = .ok (.enter 77 args) w := enters_of Try.func77 (by kernel_rfl) rfl
  have hg := ho.lt g rfl
  have hH : Holds encN w g 0 (so.map toN).toArray := by
    intro j hj
    have hj' : j < so.length := by simpa using hj
    refine ⟨?_, ho.frozenAt _⟩
    rw [Nat.zero_add, ho.cellAt j (by omega), List.getElem?_map, List.getElem?_eq_getElem hj']
    simp only [Option.map_some]
    rw [getElem!_pos _ j (by simpa using hj')]
    simp only [List.getElem_toArray, List.getElem_map]
    rw [encN_toN (hp _ (List.getElem_mem hj'))]
  have hP : PredAt Try.prog 77 #[.pointer (some ⟨bx, 0, none⟩)] encN (fun i => hasB x (i.val : Int)) w := fun W i hW =>
    del_any bx x _ W ((hW.cell (p := ⟨bx, 2, none⟩) hb).trans h0) ((hW.cell (p := ⟨bx, 3, none⟩) hb).trans h1) ((hW.cell (p := ⟨bx, 4, none⟩) hb).trans h2)
  have hPO : PredOver Try.prog 77 #[.pointer (some ⟨bx, 0, none⟩)] encN (fun i => hasB x (i.val : Int)) g 0 (so.map toN).toArray.size w := fun m os dk i _ => by
    have hbl := sortWorld_block encN w g 0 m bx dk os hb hne
    exact del_any bx x _ _ ((World.cell?_of_block (a := ⟨bx, 2, none⟩) hbl).trans h0) ((World.cell?_of_block (a := ⟨bx, 3, none⟩) hbl).trans h1) ((World.cell?_of_block (a := ⟨bx, 4, none⟩) hbl).trans h2)
  have hcap := (owns_cap ho).1
  have hm := (owns_cap ho).2
  have hD := Try.slices_DeleteFunc encN (fun _ => rfl) (fun i => hasB x (i.val : Int)) 77 #[.pointer (some ⟨bx, 0, none⟩)] eg (0 : Fin 256) (fun w => by kernel_rfl) g 0 cap (so.map toN).toArray w hP hPO hH (by simp; omega) (by simp; omega)
  have e1 : ((so.map toN).toArray.toList.filter fun i => !hasB x (i.val : Int)) = (so.filter fun t => !hasB x t).map toN := by
    simpa using filter_toN so hp (fun t => !hasB x t)
  rw [e1] at hD
  simp only [List.size_toArray, List.length_map] at hD
  refine hD.mono ?_
  rintro e w' ⟨rfl, q, rfl⟩
  refine ⟨rfl, ?_, ?_⟩
  · intro t r ht
    have hlen : (so.filter fun t => !hasB x t).length ≤ so.length := List.length_filter_le _ _
    have hz : ((so.filter fun t => !hasB x t).map toN ++ List.replicate (so.length - (so.filter fun t => !hasB x t).length) (0 : Fin 256)).toArray.size = (so.map toN).toArray.size := by
      simp; omega
    have hpos : 0 < so.length := by rw [ht] at hlen; simp at hlen; omega
    have hc := cell?_putRow encN (Sort.ahead w q) g 0 (so.map toN).toArray _ hH hz 0 (by rw [hz]; simpa using hpos)
    rw [Nat.zero_add] at hc
    rw [hc]
    have htp : placeB t = true := hp t (List.mem_filter.1 (show t ∈ so.filter fun t => !hasB x t by rw [ht]; exact List.mem_cons_self)).1
    rw [getElem!_pos _ 0 (by rw [hz]; simpa using hpos)]
    simp only [ht, List.map_cons, List.getElem_toArray, List.cons_append, List.getElem_cons_zero]
    rw [encN_toN htp]
  · refine ⟨rfl, rfl, rfl, by show w.heap.size ≤ (w.heap.modify g _).size; simp, fun k hk hn => ?_⟩
    show (w.heap.modify g _)[k]? = _
    rw [Array.getElem?_modify]
    simp [Ne.symm hn]
end Go.Proofs.Ytigkcbnlbdiimaa

/- The document's order (by insertion) is the sorted one. No program. -/
namespace Go.Proofs.Ytigkcbnlbdiimaa
open Go.RowKit
def goOn (f : Int → Int) (x y : Int) : Bool := !ltP f x y
def insL (f : Int → Int) (out : List Int) (x : Int) : List Int := out.takeWhile (goOn f x) ++ x :: out.dropWhile (goOn f x)
def refOrd (f : Int → Int) (ns : List Int) : List Int := ns.foldl (insL f) []
theorem refOrd_snoc (f : Int → Int) (ns : List Int) (x : Int) : refOrd f (ns ++ [x]) = insL f (refOrd f ns) x := by simp [refOrd]
theorem insL_perm (f : Int → Int) (out : List Int) (x : Int) : (insL f out x).Perm (x :: out) := by
  unfold insL
  refine List.perm_middle.trans ?_
  rw [List.takeWhile_append_dropWhile]
theorem refOrd_perm (f : Int → Int) : ∀ (ns acc : List Int), (ns.foldl (insL f) acc).Perm (acc ++ ns)
  | [], acc => by simp
  | x :: ns, acc => by
    refine (refOrd_perm f ns (insL f acc x)).trans ?_
    refine ((insL_perm f acc x).append_right ns).trans ?_
    exact List.perm_middle.symm
def leP (f : Int → Int) (x y : Int) : Prop := ltP f y x = false
theorem leP_trans {f : Int → Int} {x y z : Int} (h1 : leP f x y) (h2 : leP f y z) : leP f x z := by
  unfold leP ltP at *
  simp at *
  omega
theorem leP_anti {f : Int → Int} {x y : Int} (h1 : leP f x y) (h2 : leP f y x) : x = y := by
  unfold leP ltP at *
  simp at *
  omega
theorem leP_of_lt {f : Int → Int} {x y : Int} (h : ltP f x y = true) : leP f x y := by
  unfold leP ltP at *
  simp at *
  omega
theorem sorted_dropWhile (f : Int → Int) (x : Int) : ∀ (l : List Int), l.Pairwise (leP f) → ∀ y ∈ l.dropWhile (goOn f x), leP f x y
  | [], _, y, hy => by simp at hy
  | a :: l, h, y, hy => by
    rw [List.dropWhile_cons] at hy
    split at hy
    · exact sorted_dropWhile f x l (List.pairwise_cons.1 h).2 y hy
    · rename_i hg
      have hxa : leP f x a := leP_of_lt (by simpa [goOn] using hg)
      rcases List.mem_cons.1 hy with rfl | hy
      · exact hxa
      · exact leP_trans hxa ((List.pairwise_cons.1 h).1 y hy)
theorem mem_takeWhile_go {f : Int → Int} {x y : Int} {l : List Int} (h : y ∈ l.takeWhile (goOn f x)) : leP f y x := by
  have := List.all_takeWhile (p := goOn f x) (l := l)
  rw [List.all_eq_true] at this
  simpa [goOn, leP] using this y h
theorem insL_sorted (f : Int → Int) (out : List Int) (x : Int) (h : out.Pairwise (leP f)) : (insL f out x).Pairwise (leP f) := by
  unfold insL
  rw [← List.takeWhile_append_dropWhile (p := goOn f x) (l := out)] at h
  have hs := List.pairwise_append.1 h
  refine List.pairwise_append.2 ⟨hs.1, List.pairwise_cons.2 ⟨?_, hs.2.1⟩, ?_⟩
  · rw [List.takeWhile_append_dropWhile] at h
    exact sorted_dropWhile f x out h
  · intro a ha b hb
    rcases List.mem_cons.1 hb with rfl | hb
    · exact mem_takeWhile_go ha
    · exact hs.2.2 a ha b hb
theorem refOrd_sorted (f : Int → Int) : ∀ (ns acc : List Int), acc.Pairwise (leP f) → (ns.foldl (insL f) acc).Pairwise (leP f)
  | [], _, h => h
  | x :: ns, acc, h => refOrd_sorted f ns _ (insL_sorted f acc x h)
theorem sorted_eq {f : Int → Int} : ∀ (l m : List Int), l.Pairwise (leP f) → m.Pairwise (leP f) → l.Perm m → l = m
  | [], m, _, _, hp => by simpa using hp.symm.eq_nil
  | a :: l, [], _, _, hp => by simpa using hp.eq_nil
  | a :: l, b :: m, hl, hm, hp => by
    have hab : a = b := by
      have h1 : a ∈ b :: m := hp.mem_iff.1 List.mem_cons_self
      have h2 : b ∈ a :: l := hp.mem_iff.2 List.mem_cons_self
      rcases List.mem_cons.1 h1 with h1 | h1
      · exact h1
      · rcases List.mem_cons.1 h2 with h2 | h2
        · exact h2.symm
        · exact leP_anti ((List.pairwise_cons.1 hl).1 b h2) ((List.pairwise_cons.1 hm).1 a h1)
    subst hab
    rw [sorted_eq l m (List.pairwise_cons.1 hl).2 (List.pairwise_cons.1 hm).2 hp.cons_inv]
theorem sortI_sorted (f : Int → Int) (ns : List Int) : (sortI f ns).Pairwise (leP f) := by
  have h := List.pairwise_mergeSort (le := fun x y => !ltP f y x) (fun a b c h1 h2 => by simp [ltP] at *; omega) (fun a b => by simp [ltP]; omega) ns
  exact h.imp (fun {a b} h => by simpa [leP] using h)
theorem refOrd_eq (f : Int → Int) (ns : List Int) : refOrd f ns = sortI f ns := by
  refine sorted_eq _ _ (refOrd_sorted f ns [] List.Pairwise.nil) (sortI_sorted f ns) ?_
  have h1 : (refOrd f ns).Perm ns := by
    have h := refOrd_perm f ns []
    rw [List.nil_append] at h
    exact h
  have h2 : (sortI f ns).Perm ns := List.mergeSort_perm _ _
  exact h1.trans h2.symm
end Go.Proofs.Ytigkcbnlbdiimaa

/- corncribref27.Order: by insertion; what it gives is the sorted one. -/
namespace Go.Proofs.Ytigkcbnlbdiimaa
open Go.RowKit
theorem ints_one (l : List Int) : ∀ u ∈ l.map (Value.int .i64), u.oneCell' = true := by
  intro u hu
  obtain ⟨x, _, rfl⟩ := List.mem_map.1 hu
  rfl
theorem insL_at (f : Int → Int) (out : List Int) (x : Int) (j : Nat) (hj : j ≤ out.length) (h1 : ∀ t, t < j → goOn f x (out.getD t 0) = true) (h2 : j = out.length ∨ goOn f x (out.getD j 0) = false) : insL f out x = out.take j ++ x :: out.drop j := by
  have key : ∀ (l : List Int) (j : Nat), j ≤ l.length → (∀ t, t < j → goOn f x (l.getD t 0) = true) → (j = l.length ∨ goOn f x (l.getD j 0) = false) → l.takeWhile (goOn f x) = l.take j ∧ l.dropWhile (goOn f x) = l.drop j := by
    intro l
    induction l with
    | nil => intro j hj _ _; simp at hj; subst hj; simp
    | cons a l ih =>
      intro j hj h1 h2
      cases j with
      | zero =>
        rcases h2 with h2 | h2
        · simp at h2
        · have : goOn f x a = false := by simpa using h2
          simp [List.takeWhile_cons, List.dropWhile_cons, this]
      | succ j =>
        have h0 : goOn f x a = true := by simpa using h1 0 (by omega)
        have := ih j (by simpa using hj) (fun t ht => by simpa using h1 (t + 1) (by omega)) (by simpa using h2)
        simp [List.takeWhile_cons, List.dropWhile_cons, h0, this.1, this.2]
  obtain ⟨e1, e2⟩ := key out j hj h1 h2
  unfold insL
  rw [e1, e2]
theorem reads_pre {w : World} {base g n c j : Nat} {xs : List Value} (h : w.ownsRow base 3 1 (.slice (some ⟨g, 0, none⟩) n c) n xs) (hj : j ≤ n) : Reads w 1 (.slice (some ⟨g, 0, none⟩) j c) j (xs.take j) := by
  have hl := h.1
  have hm : n ≤ maxLen := by
    rcases h.2 with ⟨e, _⟩ | ⟨_, _, _, e, _, _, h1, h2, _⟩
    · cases e
    · simp only [Value.slice.injEq] at e; omega
  refine ⟨by rw [List.length_take]; omega, .inr ⟨_, _, rfl, by omega, fun i u hu => ?_⟩⟩
  have hi : i < j := by
    have := (List.getElem?_eq_some_iff.1 hu).1
    rw [List.length_take] at this; omega
  rw [List.getElem?_take_of_lt hi] at hu
  exact h.cells (g := g) rfl i u hu
theorem reads_suf {w : World} {base g n c j m c' : Nat} {xs : List Value} (h : w.ownsRow base 3 1 (.slice (some ⟨g, 0, none⟩) n c) n xs) (hj : j ≤ n) (hm : m = n - j) : Reads w 1 (.slice (some ⟨g, j, none⟩) m c') m (xs.drop j) := by
  subst hm
  have hl := h.1
  have hm : n ≤ maxLen := by
    rcases h.2 with ⟨e, _⟩ | ⟨_, _, _, e, _, _, h1, h2, _⟩
    · cases e
    · simp only [Value.slice.injEq] at e; omega
  refine ⟨by rw [List.length_drop]; omega, .inr ⟨_, _, rfl, by omega, fun i u hu => ?_⟩⟩
  rw [List.getElem?_drop] at hu
  have h1 := h.cells (g := g) rfl _ u hu
  have e : ∀ n : Nat, (⟨g, 0, none⟩ : Addr).add n = ⟨g, n, none⟩ := fun n => by unfold Addr.add; split <;> simp_all
  have e2 : ∀ n : Nat, (⟨g, j, none⟩ : Addr).add n = ⟨g, j + n, none⟩ := fun n => by unfold Addr.add; split <;> simp_all
  rw [e] at h1
  rw [e2]
  exact h1
theorem reads_unit (w : World) (u : Value) : Reads (w.alloc (.cells #[u] 3)) 1 (.slice (some ⟨w.heap.size, 0, none⟩) 1 1) 1 [u] :=
  ⟨rfl, .inr ⟨_, _, rfl, by unfold maxLen; omega, World.news_of_block (heap_alloc_new w _)⟩⟩
theorem reads_nothing {w : World} {a : Addr} {c : Nat} : Reads w 1 (.slice (some a) 0 c) 0 [] := ⟨rfl, .inr ⟨a, c, rfl, Nat.zero_le _, fun _ _ h => by simp at h⟩⟩
theorem reads_none {w : World} : Reads w 1 (.slice none 0 0) 0 [] := ⟨rfl, .inl ⟨rfl, rfl⟩⟩
theorem goOn_eq (f : Int → Int) (x y : Int) : goOn f x y = !(decide (f x < f y) || (f x == f y && decide (x < y))) := rfl
set_option maxRecDepth 100000 in
set_option maxHeartbeats 8000000 in
theorem rorder_any (base : Nat) (v va : Value) (es : List Ent) (ns : List Int) (w : World) (h : w.ownsRow base 128 6 v es.length (es.flatMap Ent.row)) (hfew : es.length ≤ 4096) (hr : Reads w 1 va ns.length (ns.map (Value.int .i64))) (hn : ns.length ≤ 100) :
    Calls Try.prog 49 #[v, va] w fun e w' => ∃ v', e = .returned v' ∧ w'.ownsRow w.heap.size 3 1 v' ns.length ((sortI (fun k => (loadN es k : Int)) ns).map (Value.int .i64)) ∧ Below w.heap.size w w' := by
  obtain ⟨i0, hi, hz0, hz1, hz2⟩ := info_parts int_info
  have HI := Lib.hid hi
  have HZ0 := Lib.hid hz0
  have HZ1 := Lib.hid hz1
  have HZ2 := Lib.hid hz2
  clear hi hz0 hz1 hz2
  obtain ⟨ao, cap, rfl⟩ := reads_len hr
  have H := Lib.hid h
  have HR := Lib.hid hr
  obtain ⟨a0, cap0, rfl⟩ := ownsRow_len h
  clear h hr
  obtain ⟨f, hf⟩ : ∃ f : Int → Int, f = (fun k => (loadN es k : Int)) := ⟨_, rfl⟩
  rw [← hf, ← refOrd_eq]
  have HF := Lib.hid hf
  clear hf
  go_enter Try.func49, Try.ntmps49
  go_wp2_with fail
  go_loopw [5, 6] (fun out i wr => ∃ (k : Nat) (ov : Value), k ≤ ns.length ∧ i = .int .i64 k ∧ out = ov ∧ wr.ownsRow w.heap.size 3 1 ov k ((refOrd f (ns.take k)).map (Value.int .i64)) ∧ Below w.heap.size w wr) (fun _ i _ => ns.length - (intOf i).toNat)
  case atStart => exact ⟨0, _, Nat.zero_le _, rfl, rfl, World.ownsRow_nil _ _ _ _, Below.refl _ _⟩
  case round =>
    obtain ⟨k, ov, hk, rfl, hov, hown, hbw⟩ := hrel
    have hov' := hov.symm
    clear hov
    subst hov'
    have HO := Lib.hid hown
    have HB := Lib.hid hbw
    have hzr := hbw.size
    obtain ⟨a5, c5, rfl⟩ := ownsRow_len hown
    clear hown hbw
    by_cases hlt : k < ns.length
    · obtain ⟨b, o, cc, e1, hb, hm, hc⟩ := ints_at HR.out (by omega)
      obtain ⟨rfl, -, rfl⟩ := sl_inj e1
      unfold maxLen at hm
      have hbr : b < wr.heap.size := by omega
      have kx0 := (HB.out.cell (p := ⟨b, o + k, none⟩) hb).trans (hc k hlt)
      obtain ⟨x, hx⟩ : ∃ x, ns.getD k 0 = x := ⟨_, rfl⟩
      rw [hx] at kx0
      have HTK := Lib.hid (show ns.take (k + 1) = ns.take k ++ [x] by rw [List.take_succ_eq_append_getElem hlt, ← hx]; simp [hlt])
      clear hc e1 hx
      obtain ⟨out, hout⟩ : ∃ out, out = refOrd f (ns.take k) := ⟨_, rfl⟩
      rw [← hout] at HO
      have HOUT := Lib.hid hout
      have hlen : out.length = k := by have := HO.out.1; simpa using this
      clear hout
      have hk0 : (0 : Int) ≤ (k : Int) := by omega
      have hk1 : (k : Int) < (ns.length : Int) := by omega
      obtain ⟨wo, rfl⟩ : ∃ wo : World, wo = wr := ⟨_, rfl⟩
      have HLEN := Lib.hid hlen
      clear hlen
      go_wp2_with fail
      go_loopw [7] (fun jv wx => ∃ j : Nat, j ≤ k ∧ jv = .int .i64 j ∧ (∀ t, t < j → goOn f x (out.getD t 0) = true) ∧ Below wo.heap.size wo wx) (fun jv _ => k - (intOf jv).toNat)
      case atStart => exact ⟨0, Nat.zero_le _, rfl, fun t ht => absurd ht (by omega), Below.refl _ _⟩
      case round =>
        obtain ⟨j, hj, rfl, hall, hbx⟩ := hrel
        have HALL := Lib.hid hall
        have HBX := Lib.hid hbx
        have hzx := hbx.size
        have kx := (hbx.cell (p := ⟨b, o + k, none⟩) hbr).trans kx0
        clear hall hbx
        by_cases hjk : j < k
        · obtain ⟨y, hy⟩ : ∃ y, out.getD j 0 = y := ⟨_, rfl⟩
          obtain ⟨g, hg⟩ : ∃ g, a5 = some ⟨g, 0, none⟩ := by
            rcases HO.out.2 with ⟨e, h0⟩ | ⟨g, _, _, e, _⟩
            · omega
            · simp only [Value.slice.injEq] at e
              exact ⟨g, e.1⟩
          subst hg
          have hgl := (HO.out.lt g rfl).2
          have ky0 : wo.cell? ⟨g, j, none⟩ = some (.int .i64 y) := by
            have hjl : j < out.length := by have := HLEN.out; omega
            rw [HO.out.cellAt j (by omega), List.getElem?_map, List.getElem?_eq_getElem hjl, ← hy]
            simp [hjl]
          have ky := (HBX.out.cell (p := ⟨g, j, none⟩) hgl).trans ky0
          have HY := Lib.hid hy
          clear hy ky0
          have hj0 : (0 : Int) ≤ (j : Int) := by omega
          have hj1 : (j : Int) < (k : Int) := by omega
          have hgx : g < wr.heap.size := by omega
          have hbx2 : b < wr.heap.size := by omega
          have HYS := Lib.hid (And.intro ky kx)
          clear ky kx
          obtain ⟨ly, hly⟩ : ∃ ly : Nat, loadN es y = ly := ⟨_, rfl⟩
          obtain ⟨lx, hlx⟩ : ∃ lx : Nat, loadN es x = lx := ⟨_, rfl⟩
          have HGO := Lib.hid (show goOn f x (out.getD j 0) = !(decide ((lx : Int) < (ly : Int)) || ((lx : Int) == (ly : Int) && decide (x < y))) by rw [HY.out, goOn_eq, HF.out, ← hly, ← hlx])
          have HLY := Lib.hid hly
          have HLX := Lib.hid hlx
          clear hly hlx
          go_wp2_with fail
          obtain ⟨SS, HSD⟩ : ∃ SS : World → Prop, Hid (SS = fun w' => w'.cell? ⟨g, j, none⟩ = some (.int .i64 y) ∧ w'.cell? ⟨b, o + k, none⟩ = some (.int .i64 x)) := ⟨_, Lib.hid rfl⟩
          refine wp_region_mask0 SS [4, 10] [0, 0, 0, 6, 14, 31, 0, 0, 0, 384, 896, 2047, 4095, 8191] (.op 0 0 (.op 1 0 (.op 2 0 (.op 3 0 (.op 4 2 (.op 6 0 (.op 7 0 (.op 8 0 (.op 9 0 (.op 10 2 (.op 5 1 (.op 11 1 (.op 12 0 (.op 13 0 .nil)))))))))))))) (by kernel_rfl) (by kernel_rfl) rfl (by kernel_rfl) (by kernel_rfl) ?_ ?_
          focus (rw [HSD.out]; exact HYS.out)
          refine stepM0 rfl rfl (fun K hK => ?_)
          go_simp
          refine hK _ ?_
          clear hK K
          refine stepM0 rfl rfl (fun K hK => ?_)
          go_simp
          refine hK _ ?_
          clear hK K
          refine stepM0 rfl rfl (fun K hK => ?_)
          go_simp
          refine hK _ ?_
          clear hK K
          refine stepM0 rfl rfl (fun K hK => ?_)
          go_simp
          refine hK _ ?_
          clear hK K
          refine stepM2 rfl rfl ?_ (fun w1 hS => ?_) (fun K hK => ?_)
          rotate_left
          focus (rw [HSD.out] at hS; obtain ⟨sy, sx⟩ := hS; go_simp; rfl)
          go_simp
          refine hK _ ?_
          clear hK K
          refine stepM0 rfl rfl (fun K hK => ?_)
          go_simp
          refine hK _ ?_
          clear hK K
          refine stepM0 rfl rfl (fun K hK => ?_)
          go_simp
          refine hK _ ?_
          clear hK K
          refine stepM0 rfl rfl (fun K hK => ?_)
          go_simp
          refine hK _ ?_
          clear hK K
          refine stepM0 rfl rfl (fun K hK => ?_)
          go_simp
          refine hK _ ?_
          clear hK K
          refine stepM2 rfl rfl ?_ (fun w1 hS => ?_) (fun K hK => ?_)
          rotate_left
          focus (rw [HSD.out] at hS; obtain ⟨sy, sx⟩ := hS; go_simp; rfl)
          go_simp
          refine hK _ ?_
          clear hK K
          refine stepM1S rfl rfl (fun K hK => ?_)
          (go_wp2_with fail; refine Calls.mono (rload_any base _ es y _ (ownsRow_below (ownsRow_below H.out HB.out) (HBX.out.drew.mono (Nat.le_refl _))) hfew) ?_; rintro e w4 ⟨rfl, hb4⟩; rw [HLY.out]; have HB4 := Lib.hid (show Below wo.heap.size wo w4 from Below.trans HBX.out.drew (hb4.mono hzx)); have HY4 := Lib.hid (show w4.cell? ⟨g, j, none⟩ = some (.int .i64 y) ∧ w4.cell? ⟨b, o + k, none⟩ = some (.int .i64 x) from ⟨(hb4.cell (p := ⟨g, j, none⟩) hgx).trans HYS.out.1, (hb4.cell (p := ⟨b, o + k, none⟩) hbx2).trans HYS.out.2⟩); have hz4 := HB4.out.size; have hz4r := hb4.size; (try simp only [World.size_drew] at hz4r); clear hb4; go_wp2)
          refine ⟨by rw [HSD.out]; exact (HY4.out), ?_⟩
          refine stepM1 rfl rfl (by kernel_rfl) (fun K hK => ?_)
          (go_wp2_with fail; refine Calls.mono (rload_any base _ es x _ (ownsRow_below (ownsRow_below H.out HB.out) HB4.out) hfew) ?_; rintro e w5 ⟨rfl, hb5⟩; rw [HLX.out]; have HB5 := Lib.hid (show Below wo.heap.size wo w5 from HB4.out.trans (hb5.mono hz4)); have HY5 := Lib.hid (show w5.cell? ⟨g, j, none⟩ = some (.int .i64 y) ∧ w5.cell? ⟨b, o + k, none⟩ = some (.int .i64 x) from ⟨(hb5.cell (p := ⟨g, j, none⟩) (show g < w4.heap.size by omega)).trans HY4.out.1, (hb5.cell (p := ⟨b, o + k, none⟩) (show b < w4.heap.size by omega)).trans HY4.out.2⟩); have hz5 := HB5.out.size; clear hb5; go_wp2)
          refine stepM0 rfl rfl (fun K hK => ?_)
          go_simp
          refine hK _ ?_
          clear hK K
          refine stepM0 rfl rfl (fun K hK => ?_)
          go_simp
          refine hK _ ?_
          clear hK K
          try refine stepMnil0 ?_
          clear HSD SS
          go_wp2_with fail
          have hw8 : (lx < ly) ∨ (lx = ly ∧ x < y) ∨ (lx = ly ∧ ¬ x < y) ∨ (ly < lx) := by omega
          obtain ⟨sy, sx⟩ := HY5.out
          rcases hw8 with h8 | ⟨h8, h9⟩ | ⟨h8, h9⟩ | h8
          · have d1 : decide (lx < ly) = true := by simpa using h8
            have HG1 := Lib.hid (show goOn f x (out.getD j 0) = false by rw [HGO.out]; simp [h8])
            clear h8
            go_quiet (fail)
            have hc := owns_cap HO.out
            have hjc0 : (j : Int) ≤ (c5 : Int) := by omega
            have hjc1 : (j : Int) < (c5 : Int) := by omega
            have hjc2 : ¬ j = c5 := by omega
            have hjk : j ≤ k := by omega
            have hkc : (k : Int) ≤ (c5 : Int) := by omega
            have HINS := Lib.hid (insL_at f out x j (by have := HLEN.out; omega) HALL.out (.inr HG1.out))
            have HBE := Lib.hid (show Below wo.heap.size wo (w5.drewN nq) from HB5.out.drewN nq)
            have HKX := Lib.hid (show (w5.drewN nq).cell? ⟨b, o + k, none⟩ = some (.int .i64 x) from HY5.out.2)
            clear sy sx HY5 HB5 HY4 HB4
            generalize w5.drewN nq = wE at *
            have HPRE := Lib.hid (show Reads wE 1 (.slice (some ⟨g, 0, none⟩) j c5) j ((out.take j).map (Value.int .i64)) by rw [List.map_take]; exact reads_pre (ownsRow_below HO.out HBE.out) (by omega))
            have HSUF := Lib.hid (show Reads wE 1 (.slice (some ⟨g, j, none⟩) (k - j) (c5 - j)) (k - j) ((out.drop j).map (Value.int .i64)) by rw [List.map_drop]; exact reads_suf (ownsRow_below HO.out HBE.out) (by omega) rfl)
            clear hc
            have hbE : b < wE.heap.size := by have := HBE.out.size; omega
            go_wp2_with (first
              | (at_builtin; refine wpList_append_reads _ rfl (.tmp 54) (.tmp 57) 42 rfl wE.heap.size 3 i0 (.int .i64 0) 1 8 Try.underlying42 HI.out HZ0.out HZ1.out HZ2.out rfl (by decide) (.slice (some ⟨wE.heap.size, 0, none⟩) 0 0) 0 [] rfl (World.ownsRow_lit wE #[] 0 (Nat.le_refl _) (by unfold maxLen; omega) rfl) (.slice (some ⟨g, 0, none⟩) j c5) j ((out.take j).map (Value.int .i64)) rfl (HPRE.out.below (by repeat (first | (with_reducible exact Below.refl _ _) | (with_reducible refine Below.setCell ?_ ?_ _) | (with_reducible refine Below.alloc ?_ ?_ _) | (with_reducible refine Below.drewN ?_ _) | (with_reducible refine Below.drew ?_) | (with_reducible exact Nat.le_refl _) | (focus (simp only [World.size_alloc, World.size_setCell, World.size_drew, World.size_drewN]; omega)) | omega | exact Nat.le_refl _ | (focus (simp; done)) | (focus (simp; omega))))) (ints_one _) (by unfold maxLen; omega) (by omega) (by simp) ?_; intro v1 w1 ho1 hg1 _; simp only [Nat.zero_add, List.nil_append] at ho1; have HBa := Lib.hid (show Below wE.heap.size wE w1 from Below.grown (Below.alloc (Below.refl _ _) (Nat.le_refl _) _) hg1 (by simp) (fun q hq => by simp [Value.ownBlock] at hq; omega)); have HO1 := Lib.hid ho1; have kx1 := (HBa.out.cell (p := ⟨b, o + k, none⟩) hbE).trans HKX.out; have hz1 := HBa.out.size; clear ho1 hg1)
              | (at_builtin; refine wpList_append_reads _ rfl (.tmp 59) (.tmp 64) 42 rfl wE.heap.size 3 i0 (.int .i64 0) 1 8 Try.underlying42 HI.out HZ0.out HZ1.out HZ2.out rfl (by decide) v1 j ((out.take j).map (Value.int .i64)) rfl (HO1.out.alloc _) (.slice (some ⟨w1.heap.size, 0, none⟩) 1 1) 1 [.int .i64 x] rfl (reads_unit _ _) (by simp [Value.oneCell']) (by unfold maxLen; omega) (by omega) (by simp; omega) ?_; intro v2 w2 ho2 hg2 _; have HBb := Lib.hid (show Below wE.heap.size wE w2 from (HBa.out.alloc hz1 _).grown hg2 (by simp; omega) (fun q hq => (HO1.out.lt q hq).1)); have HO2 := Lib.hid ho2; have hz2 := HBb.out.size; clear ho2 hg2)
              | (at_builtin; refine wpList_append_reads _ rfl (.tmp 66) (.tmp 69) 42 rfl wE.heap.size 3 i0 (.int .i64 0) 1 8 Try.underlying42 HI.out HZ0.out HZ1.out HZ2.out rfl (by decide) v2 (j + 1) ((out.take j).map (Value.int .i64) ++ [.int .i64 x]) rfl HO2.out (.slice (some ⟨g, j, none⟩) (k - j) (c5 - j)) (k - j) ((out.drop j).map (Value.int .i64)) rfl (HSUF.out.below HBb.out) (ints_one _) (by unfold maxLen; omega) (by omega) (by omega) ?_; intro v3 w3 ho3 hg3 _; have HBc := Lib.hid (show Below wE.heap.size wE w3 from HBb.out.grown hg3 (by omega) (fun q hq => (HO2.out.lt q hq).1)); have HO3 := Lib.hid ho3; clear ho3 hg3))
            go_roundw
            case rel =>
              refine ⟨k + 1, v3, by omega, by go_num, rfl, ?_, ?_⟩
              · have h := ownsRow_mono HO3.out (show w.heap.size ≤ wE.heap.size by have := HBE.out.size; omega)
                have e : (refOrd f (ns.take (k + 1))).map (Value.int .i64) = ((out.take j).map (Value.int .i64) ++ [.int .i64 x]) ++ (out.drop j).map (Value.int .i64) := by
                  rw [HTK.out, refOrd_snoc, ← HOUT.out, HINS.out]; simp
                rw [e]
                have e2 : j + 1 + (k - j) = k + 1 := by omega
                rw [e2] at h
                exact h
              · exact (HB.out.trans (HBE.out.mono hzr)).trans (HBc.out.mono (by have := HBE.out.size; omega))
            case measure => simp [intOf]; omega
          · subst h8
            have d1 : decide (lx < lx) = false := by simp
            have d2 : decide (x < y) = true := by simpa using h9
            have HG1 := Lib.hid (show goOn f x (out.getD j 0) = false by rw [HGO.out]; simp [h9])
            clear h9
            go_quiet (fail)
            have hc := owns_cap HO.out
            have hjc0 : (j : Int) ≤ (c5 : Int) := by omega
            have hjc1 : (j : Int) < (c5 : Int) := by omega
            have hjc2 : ¬ j = c5 := by omega
            have hjk : j ≤ k := by omega
            have hkc : (k : Int) ≤ (c5 : Int) := by omega
            have HINS := Lib.hid (insL_at f out x j (by have := HLEN.out; omega) HALL.out (.inr HG1.out))
            have HBE := Lib.hid (show Below wo.heap.size wo (w5.drewN nq) from HB5.out.drewN nq)
            have HKX := Lib.hid (show (w5.drewN nq).cell? ⟨b, o + k, none⟩ = some (.int .i64 x) from HY5.out.2)
            clear sy sx HY5 HB5 HY4 HB4
            generalize w5.drewN nq = wE at *
            have HPRE := Lib.hid (show Reads wE 1 (.slice (some ⟨g, 0, none⟩) j c5) j ((out.take j).map (Value.int .i64)) by rw [List.map_take]; exact reads_pre (ownsRow_below HO.out HBE.out) (by omega))
            have HSUF := Lib.hid (show Reads wE 1 (.slice (some ⟨g, j, none⟩) (k - j) (c5 - j)) (k - j) ((out.drop j).map (Value.int .i64)) by rw [List.map_drop]; exact reads_suf (ownsRow_below HO.out HBE.out) (by omega) rfl)
            clear hc
            have hbE : b < wE.heap.size := by have := HBE.out.size; omega
            go_wp2_with (first
              | (at_builtin; refine wpList_append_reads _ rfl (.tmp 54) (.tmp 57) 42 rfl wE.heap.size 3 i0 (.int .i64 0) 1 8 Try.underlying42 HI.out HZ0.out HZ1.out HZ2.out rfl (by decide) (.slice (some ⟨wE.heap.size, 0, none⟩) 0 0) 0 [] rfl (World.ownsRow_lit wE #[] 0 (Nat.le_refl _) (by unfold maxLen; omega) rfl) (.slice (some ⟨g, 0, none⟩) j c5) j ((out.take j).map (Value.int .i64)) rfl (HPRE.out.below (by repeat (first | (with_reducible exact Below.refl _ _) | (with_reducible refine Below.setCell ?_ ?_ _) | (with_reducible refine Below.alloc ?_ ?_ _) | (with_reducible refine Below.drewN ?_ _) | (with_reducible refine Below.drew ?_) | (with_reducible exact Nat.le_refl _) | (focus (simp only [World.size_alloc, World.size_setCell, World.size_drew, World.size_drewN]; omega)) | omega | exact Nat.le_refl _ | (focus (simp; done)) | (focus (simp; omega))))) (ints_one _) (by unfold maxLen; omega) (by omega) (by simp) ?_; intro v1 w1 ho1 hg1 _; simp only [Nat.zero_add, List.nil_append] at ho1; have HBa := Lib.hid (show Below wE.heap.size wE w1 from Below.grown (Below.alloc (Below.refl _ _) (Nat.le_refl _) _) hg1 (by simp) (fun q hq => by simp [Value.ownBlock] at hq; omega)); have HO1 := Lib.hid ho1; have kx1 := (HBa.out.cell (p := ⟨b, o + k, none⟩) hbE).trans HKX.out; have hz1 := HBa.out.size; clear ho1 hg1)
              | (at_builtin; refine wpList_append_reads _ rfl (.tmp 59) (.tmp 64) 42 rfl wE.heap.size 3 i0 (.int .i64 0) 1 8 Try.underlying42 HI.out HZ0.out HZ1.out HZ2.out rfl (by decide) v1 j ((out.take j).map (Value.int .i64)) rfl (HO1.out.alloc _) (.slice (some ⟨w1.heap.size, 0, none⟩) 1 1) 1 [.int .i64 x] rfl (reads_unit _ _) (by simp [Value.oneCell']) (by unfold maxLen; omega) (by omega) (by simp; omega) ?_; intro v2 w2 ho2 hg2 _; have HBb := Lib.hid (show Below wE.heap.size wE w2 from (HBa.out.alloc hz1 _).grown hg2 (by simp; omega) (fun q hq => (HO1.out.lt q hq).1)); have HO2 := Lib.hid ho2; have hz2 := HBb.out.size; clear ho2 hg2)
              | (at_builtin; refine wpList_append_reads _ rfl (.tmp 66) (.tmp 69) 42 rfl wE.heap.size 3 i0 (.int .i64 0) 1 8 Try.underlying42 HI.out HZ0.out HZ1.out HZ2.out rfl (by decide) v2 (j + 1) ((out.take j).map (Value.int .i64) ++ [.int .i64 x]) rfl HO2.out (.slice (some ⟨g, j, none⟩) (k - j) (c5 - j)) (k - j) ((out.drop j).map (Value.int .i64)) rfl (HSUF.out.below HBb.out) (ints_one _) (by unfold maxLen; omega) (by omega) (by omega) ?_; intro v3 w3 ho3 hg3 _; have HBc := Lib.hid (show Below wE.heap.size wE w3 from HBb.out.grown hg3 (by omega) (fun q hq => (HO2.out.lt q hq).1)); have HO3 := Lib.hid ho3; clear ho3 hg3))
            go_roundw
            case rel =>
              refine ⟨k + 1, v3, by omega, by go_num, rfl, ?_, ?_⟩
              · have h := ownsRow_mono HO3.out (show w.heap.size ≤ wE.heap.size by have := HBE.out.size; omega)
                have e : (refOrd f (ns.take (k + 1))).map (Value.int .i64) = ((out.take j).map (Value.int .i64) ++ [.int .i64 x]) ++ (out.drop j).map (Value.int .i64) := by
                  rw [HTK.out, refOrd_snoc, ← HOUT.out, HINS.out]; simp
                rw [e]
                have e2 : j + 1 + (k - j) = k + 1 := by omega
                rw [e2] at h
                exact h
              · exact (HB.out.trans (HBE.out.mono hzr)).trans (HBc.out.mono (by have := HBE.out.size; omega))
            case measure => simp [intOf]; omega
          · subst h8
            have d1 : decide (lx < lx) = false := by simp
            have d2 : decide (x < y) = false := by simpa using h9
            have HG1 := Lib.hid (show goOn f x (out.getD j 0) = true by rw [HGO.out]; simp [h9])
            clear h9
            go_quiet (fail)
            go_wp2_with fail
            go_roundw
            case rel =>
              refine ⟨j + 1, by omega, by go_num, fun t ht => ?_, HB5.out.drewN _⟩
              by_cases htj : t = j
              · rw [htj]; exact HG1.out
              · exact HALL.out t (by omega)
            case measure => simp [intOf]; omega
          · have d1 : decide (lx < ly) = false := by simp; omega
            have d3 : ((ly : Int) == (lx : Int)) = false := by rw [beq_eq_false_iff_ne]; omega
            have d4 : (ly == lx) = false := by rw [beq_eq_false_iff_ne]; omega
            have d5 : ¬ ly = lx := by omega
            have HG1 := Lib.hid (show goOn f x (out.getD j 0) = true by
              rw [HGO.out]; simp; omega)
            clear h8
            go_quiet (fail)
            go_wp2_with fail
            go_roundw
            case rel =>
              refine ⟨j + 1, by omega, by go_num, fun t ht => ?_, HB5.out.drewN _⟩
              by_cases htj : t = j
              · rw [htj]; exact HG1.out
              · exact HALL.out t (by omega)
            case measure => simp [intOf]; omega
        · have hjk2 : k = j := by omega
          subst hjk2
          have HINS := Lib.hid (insL_at f out x k (by have := HLEN.out; omega) HALL.out (.inl (by have := HLEN.out; omega)))
          have HBE := HBX
          have HKX := Lib.hid kx
          clear kx kx0
          obtain ⟨wE, rfl⟩ : ∃ wE : World, wE = wr := ⟨_, rfl⟩
          have HDR := Lib.hid (show out.drop k = [] from List.drop_of_length_le (by have := HLEN.out; omega))
          have HRO := Lib.hid (ownsRow_below HO.out HBE.out)
          have hsome : (a5 = none ∧ k = 0 ∧ c5 = 0) ∨ ∃ g, a5 = some ⟨g, 0, none⟩ := by
            rcases HO.out.2 with ⟨e, h0⟩ | ⟨g, _, _, e, _⟩
            · simp only [Value.slice.injEq] at e; exact .inl ⟨e.1, h0, e.2.2⟩
            · simp only [Value.slice.injEq] at e; exact .inr ⟨g, e.1⟩
          rcases hsome with ⟨rfl, hk00, rfl⟩ | ⟨g, rfl⟩
          · subst hk00
            have HPRE := Lib.hid (show Reads wE 1 (.slice none 0 0) 0 ((out.take 0).map (Value.int .i64)) from reads_none)
            have HSUF := Lib.hid (show Reads wE 1 (.slice none 0 0) 0 ((out.drop 0).map (Value.int .i64)) by rw [HDR.out]; exact reads_none)
            have hbE : b < wE.heap.size := by have := HBE.out.size; omega
            have kxE := HKX.out
            simp only [Nat.add_zero] at kxE
            go_wp2_with (first
              | (at_builtin; refine wpList_append_reads _ rfl (.tmp 59) (.tmp 64) 42 rfl wE.heap.size 3 i0 (.int .i64 0) 1 8 Try.underlying42 HI.out HZ0.out HZ1.out HZ2.out rfl (by decide) (.slice (some ⟨wE.heap.size, 0, none⟩) 0 0) 0 [] rfl ((World.ownsRow_lit wE #[] 0 (Nat.le_refl _) (by unfold maxLen; omega) rfl).alloc _) (.slice (some ⟨wE.heap.size + 1, 0, none⟩) 1 1) 1 [.int .i64 x] rfl (by have h := reads_unit (wE.alloc (.cells #[] 3)) (.int .i64 x); simp only [World.size_alloc] at h; exact h) (by simp [Value.oneCell']) (by unfold maxLen; omega) (by omega) (by simp; omega) ?_; intro v2 w2 ho2 hg2 _; simp only [Nat.zero_add, List.nil_append] at ho2; have HBb := Lib.hid (show Below wE.heap.size wE w2 from Below.grown (Below.alloc (Below.alloc (Below.refl _ _) (Nat.le_refl _) _) (by simp) _) hg2 (by simp; omega) (fun q hq => by simp [Value.ownBlock] at hq; omega)); have HO2 := Lib.hid ho2; have hz2 := HBb.out.size; clear ho2 hg2)
              | (at_builtin; refine wpList_append_reads _ rfl (.tmp 66) (.tmp 69) 42 rfl wE.heap.size 3 i0 (.int .i64 0) 1 8 Try.underlying42 HI.out HZ0.out HZ1.out HZ2.out rfl (by decide) v2 1 [.int .i64 x] rfl HO2.out (.slice none 0 0) 0 [] rfl reads_none (by simp) (by unfold maxLen; omega) (by omega) (by omega) ?_; intro v3 w3 ho3 hg3 _; simp only [Nat.add_zero, List.append_nil] at ho3; have HBc := Lib.hid (show Below wE.heap.size wE w3 from HBb.out.grown hg3 (by omega) (fun q hq => (HO2.out.lt q hq).1)); have HO3 := Lib.hid ho3; clear ho3 hg3))
            go_roundw
            case rel =>
              refine ⟨0 + 1, v3, by omega, by go_num, rfl, ?_, ?_⟩
              · have h := ownsRow_mono HO3.out (show w.heap.size ≤ wE.heap.size by have := HBE.out.size; omega)
                have e : (refOrd f (ns.take (0 + 1))).map (Value.int .i64) = [.int .i64 x] := by
                  rw [HTK.out, refOrd_snoc, ← HOUT.out, HINS.out, List.take_zero, HDR.out]; simp
                rw [e]
                exact h
              · exact (HB.out.trans (HBE.out.mono hzr)).trans (HBc.out.mono (by have := HBE.out.size; omega))
            case measure => simp [intOf]; omega
          · have hc := owns_cap HO.out
            have HPRE := Lib.hid (show Reads wE 1 (.slice (some ⟨g, 0, none⟩) k c5) k ((out.take k).map (Value.int .i64)) by rw [List.map_take]; exact reads_pre HRO.out (Nat.le_refl _))
            have hkc : (k : Int) ≤ (c5 : Int) := by omega
            by_cases hcc : k = c5
            · subst hcc
              have HSUF := Lib.hid (show Reads wE 1 (.slice (some ⟨g, 0, none⟩) 0 0) 0 ((out.drop k).map (Value.int .i64)) by rw [HDR.out]; exact reads_nothing)
              clear hc
              have hbE : b < wE.heap.size := by have := HBE.out.size; omega
              go_wp2_with (first
                | (at_builtin; refine wpList_append_reads _ rfl (.tmp 54) (.tmp 57) 42 rfl wE.heap.size 3 i0 (.int .i64 0) 1 8 Try.underlying42 HI.out HZ0.out HZ1.out HZ2.out rfl (by decide) (.slice (some ⟨wE.heap.size, 0, none⟩) 0 0) 0 [] rfl (World.ownsRow_lit wE #[] 0 (Nat.le_refl _) (by unfold maxLen; omega) rfl) (.slice (some ⟨g, 0, none⟩) k k) k ((out.take k).map (Value.int .i64)) rfl (HPRE.out.below (by repeat (first | (with_reducible exact Below.refl _ _) | (with_reducible refine Below.setCell ?_ ?_ _) | (with_reducible refine Below.alloc ?_ ?_ _) | (with_reducible refine Below.drewN ?_ _) | (with_reducible refine Below.drew ?_) | (with_reducible exact Nat.le_refl _) | (focus (simp only [World.size_alloc, World.size_setCell, World.size_drew, World.size_drewN]; omega)) | omega | exact Nat.le_refl _ | (focus (simp; done)) | (focus (simp; omega))))) (ints_one _) (by unfold maxLen; omega) (by omega) (by simp) ?_; intro v1 w1 ho1 hg1 _; simp only [Nat.zero_add, List.nil_append] at ho1; have HBa := Lib.hid (show Below wE.heap.size wE w1 from Below.grown (Below.alloc (Below.refl _ _) (Nat.le_refl _) _) hg1 (by simp) (fun q hq => by simp [Value.ownBlock] at hq; omega)); have HO1 := Lib.hid ho1; have kx1 := (HBa.out.cell (p := ⟨b, o + k, none⟩) hbE).trans HKX.out; have hz1 := HBa.out.size; clear ho1 hg1)
                | (at_builtin; refine wpList_append_reads _ rfl (.tmp 59) (.tmp 64) 42 rfl wE.heap.size 3 i0 (.int .i64 0) 1 8 Try.underlying42 HI.out HZ0.out HZ1.out HZ2.out rfl (by decide) v1 k ((out.take k).map (Value.int .i64)) rfl (HO1.out.alloc _) (.slice (some ⟨w1.heap.size, 0, none⟩) 1 1) 1 [.int .i64 x] rfl (reads_unit _ _) (by simp [Value.oneCell']) (by unfold maxLen; omega) (by omega) (by simp; omega) ?_; intro v2 w2 ho2 hg2 _; have HBb := Lib.hid (show Below wE.heap.size wE w2 from (HBa.out.alloc hz1 _).grown hg2 (by simp; omega) (fun q hq => (HO1.out.lt q hq).1)); have HO2 := Lib.hid ho2; have hz2 := HBb.out.size; clear ho2 hg2)
                | (at_builtin; refine wpList_append_reads _ rfl (.tmp 66) (.tmp 69) 42 rfl wE.heap.size 3 i0 (.int .i64 0) 1 8 Try.underlying42 HI.out HZ0.out HZ1.out HZ2.out rfl (by decide) v2 (k + 1) ((out.take k).map (Value.int .i64) ++ [.int .i64 x]) rfl HO2.out (.slice (some ⟨g, 0, none⟩) 0 0) (0) ((out.drop k).map (Value.int .i64)) rfl (HSUF.out.below HBb.out) (ints_one _) (by unfold maxLen; omega) (by omega) (by omega) ?_; intro v3 w3 ho3 hg3 _; have HBc := Lib.hid (show Below wE.heap.size wE w3 from HBb.out.grown hg3 (by omega) (fun q hq => (HO2.out.lt q hq).1)); have HO3 := Lib.hid ho3; clear ho3 hg3))
              go_roundw
              case rel =>
                refine ⟨k + 1, v3, by omega, by go_num, rfl, ?_, ?_⟩
                · have h := ownsRow_mono HO3.out (show w.heap.size ≤ wE.heap.size by have := HBE.out.size; omega)
                  have e : (refOrd f (ns.take (k + 1))).map (Value.int .i64) = ((out.take k).map (Value.int .i64) ++ [.int .i64 x]) ++ (out.drop k).map (Value.int .i64) := by
                    rw [HTK.out, refOrd_snoc, ← HOUT.out, HINS.out]; simp
                  rw [e]
                  have e2 : k + 1 + (0) = k + 1 := by omega
                  rw [e2] at h
                  exact h
                · exact (HB.out.trans (HBE.out.mono hzr)).trans (HBc.out.mono (by have := HBE.out.size; omega))
              case measure => simp [intOf]; omega
            · have hkc2 : (k : Int) < (c5 : Int) := by omega
              have HSUF := Lib.hid (show Reads wE 1 (.slice (some ⟨g, k, none⟩) 0 (c5 - k)) 0 ((out.drop k).map (Value.int .i64)) by rw [HDR.out]; exact reads_nothing)
              clear hc
              have hbE : b < wE.heap.size := by have := HBE.out.size; omega
              go_wp2_with (first
                | (at_builtin; refine wpList_append_reads _ rfl (.tmp 54) (.tmp 57) 42 rfl wE.heap.size 3 i0 (.int .i64 0) 1 8 Try.underlying42 HI.out HZ0.out HZ1.out HZ2.out rfl (by decide) (.slice (some ⟨wE.heap.size, 0, none⟩) 0 0) 0 [] rfl (World.ownsRow_lit wE #[] 0 (Nat.le_refl _) (by unfold maxLen; omega) rfl) (.slice (some ⟨g, 0, none⟩) k c5) k ((out.take k).map (Value.int .i64)) rfl (HPRE.out.below (by repeat (first | (with_reducible exact Below.refl _ _) | (with_reducible refine Below.setCell ?_ ?_ _) | (with_reducible refine Below.alloc ?_ ?_ _) | (with_reducible refine Below.drewN ?_ _) | (with_reducible refine Below.drew ?_) | (with_reducible exact Nat.le_refl _) | (focus (simp only [World.size_alloc, World.size_setCell, World.size_drew, World.size_drewN]; omega)) | omega | exact Nat.le_refl _ | (focus (simp; done)) | (focus (simp; omega))))) (ints_one _) (by unfold maxLen; omega) (by omega) (by simp) ?_; intro v1 w1 ho1 hg1 _; simp only [Nat.zero_add, List.nil_append] at ho1; have HBa := Lib.hid (show Below wE.heap.size wE w1 from Below.grown (Below.alloc (Below.refl _ _) (Nat.le_refl _) _) hg1 (by simp) (fun q hq => by simp [Value.ownBlock] at hq; omega)); have HO1 := Lib.hid ho1; have kx1 := (HBa.out.cell (p := ⟨b, o + k, none⟩) hbE).trans HKX.out; have hz1 := HBa.out.size; clear ho1 hg1)
                | (at_builtin; refine wpList_append_reads _ rfl (.tmp 59) (.tmp 64) 42 rfl wE.heap.size 3 i0 (.int .i64 0) 1 8 Try.underlying42 HI.out HZ0.out HZ1.out HZ2.out rfl (by decide) v1 k ((out.take k).map (Value.int .i64)) rfl (HO1.out.alloc _) (.slice (some ⟨w1.heap.size, 0, none⟩) 1 1) 1 [.int .i64 x] rfl (reads_unit _ _) (by simp [Value.oneCell']) (by unfold maxLen; omega) (by omega) (by simp; omega) ?_; intro v2 w2 ho2 hg2 _; have HBb := Lib.hid (show Below wE.heap.size wE w2 from (HBa.out.alloc hz1 _).grown hg2 (by simp; omega) (fun q hq => (HO1.out.lt q hq).1)); have HO2 := Lib.hid ho2; have hz2 := HBb.out.size; clear ho2 hg2)
                | (at_builtin; refine wpList_append_reads _ rfl (.tmp 66) (.tmp 69) 42 rfl wE.heap.size 3 i0 (.int .i64 0) 1 8 Try.underlying42 HI.out HZ0.out HZ1.out HZ2.out rfl (by decide) v2 (k + 1) ((out.take k).map (Value.int .i64) ++ [.int .i64 x]) rfl HO2.out (.slice (some ⟨g, k, none⟩) 0 (c5 - k)) (0) ((out.drop k).map (Value.int .i64)) rfl (HSUF.out.below HBb.out) (ints_one _) (by unfold maxLen; omega) (by omega) (by omega) ?_; intro v3 w3 ho3 hg3 _; have HBc := Lib.hid (show Below wE.heap.size wE w3 from HBb.out.grown hg3 (by omega) (fun q hq => (HO2.out.lt q hq).1)); have HO3 := Lib.hid ho3; clear ho3 hg3))
              go_roundw
              case rel =>
                refine ⟨k + 1, v3, by omega, by go_num, rfl, ?_, ?_⟩
                · have h := ownsRow_mono HO3.out (show w.heap.size ≤ wE.heap.size by have := HBE.out.size; omega)
                  have e : (refOrd f (ns.take (k + 1))).map (Value.int .i64) = ((out.take k).map (Value.int .i64) ++ [.int .i64 x]) ++ (out.drop k).map (Value.int .i64) := by
                    rw [HTK.out, refOrd_snoc, ← HOUT.out, HINS.out]; simp
                  rw [e]
                  have e2 : k + 1 + (0) = k + 1 := by omega
                  rw [e2] at h
                  exact h
                · exact (HB.out.trans (HBE.out.mono hzr)).trans (HBc.out.mono (by have := HBE.out.size; omega))
              case measure => simp [intOf]; omega
    · have hks : k = ns.length := by omega
      have HKS := Lib.hid (show ns.take k = ns from List.take_of_length_le (by omega))
      go_wp2_with fail
      go_ret
      have h := HO.out
      rw [HKS.out] at h
      subst hks
      exact ⟨.slice a5 ns.length c5, rfl, h, HB.out⟩
end Go.Proofs.Ytigkcbnlbdiimaa

/- place.Even, corncribref27.Even. -/
namespace Go.Proofs.Ytigkcbnlbdiimaa
open Go.RowKit
def lightI (es : List Ent) (ns : List Int) : Int := (sortI (fun k => (loadN es k : Int)) ns).getD 0 0
def heavyI (es : List Ent) (ns : List Int) : Int := (sortI (fun k => (loadN es k : Int)) ns).getD (ns.length - 1) 0
/-- A volume that the heavy node has, and the light one hasn't. -/
def canGo (a b : Int) (x : Ent) : Bool := hasB x b && !hasB x a
def Mv.of (a b : Int) (x : Ent) : Mv := ⟨x.vol, x.epoch, hasI x b, a⟩
def evenAB (es : List Ent) (a b : Int) : Option Mv := if loadN es b < loadN es a + 2 then none else (es.find? (canGo a b)).map (Mv.of a b)
def evenI (es : List Ent) (ns : List Int) : Option Mv := evenAB es (lightI es ns) (heavyI es ns)
theorem evenAB_low {es : List Ent} {a b : Int} (h : loadN es b < loadN es a + 2) : evenAB es a b = none := by rw [evenAB, if_pos h]
theorem evenAB_go {es : List Ent} {a b : Int} (h : ¬ loadN es b < loadN es a + 2) : evenAB es a b = (es.find? (canGo a b)).map (Mv.of a b) := by rw [evenAB, if_neg h]
def mvVal : Option Mv → Value
  | none => .agg #[.int .i64 0, .int .i64 0, .int .i64 0, .int .i64 0]
  | some m => .agg #[.int .i64 m.vol, .int .i64 m.epoch, .int .i64 m.spot, .int .i64 m.node]
theorem mvVal_of {o : Option Ent} {a b : Int} {x : Ent} (h : o = some x) : mvVal (o.map (Mv.of a b)) = .agg #[.int .i64 x.vol, .int .i64 x.epoch, .int .i64 (hasI x b), .int .i64 a] := by subst h; rfl
theorem find_drop {α : Type} {p : α → Bool} {l : List α} {k : Nat} {x : α} (hx : l[k]? = some x) : (l.drop k).find? p = if p x then some x else (l.drop (k + 1)).find? p := by
  obtain ⟨hk, h⟩ := List.getElem?_eq_some_iff.1 hx
  rw [List.drop_eq_getElem_cons hk, List.find?_cons, h]
  cases p x <;> rfl
theorem ends_of {w : World} {base : Nat} {v : Value} {l : List Int} {n : Nat} (h : w.ownsRow base 3 1 v n (l.map (Value.int .i64))) (hl : l.length = n) (h0 : 0 < n) :
    ∃ g c, v = .slice (some ⟨g, 0, none⟩) n c ∧ base ≤ g ∧ w.cell? ⟨g, 0, none⟩ = some (.int .i64 (l.getD 0 0)) ∧ w.cell? ⟨g, n - 1, none⟩ = some (.int .i64 (l.getD (n - 1) 0)) := by
  obtain ⟨a, c, rfl⟩ := ownsRow_len h
  obtain ⟨g, rfl⟩ : ∃ g, a = some ⟨g, 0, none⟩ := by
    rcases h.2 with ⟨e, h1⟩ | ⟨g, _, _, e, _⟩
    · omega
    · simp only [Value.slice.injEq] at e
      exact ⟨g, e.1⟩
  have k0 := h.cellAt 0 (by omega)
  have k1 := h.cellAt (n - 1) (by omega)
  refine ⟨g, c, rfl, (h.lt g rfl).1, ?_, ?_⟩
  · rw [k0, List.getElem?_map, List.getElem?_eq_getElem (by omega)]; simp [show 0 < l.length by omega]
  · rw [k1, List.getElem?_map, List.getElem?_eq_getElem (by omega)]; simp [show n - 1 < l.length by omega]
set_option maxHeartbeats 1000000 in
theorem peven_bad (base bm : Nat) (v va : Value) (es : List Ent) (ns : List Int) (w : World) (h : MapAt w base bm v es) (hr : Reads w 1 va ns.length (ns.map (Value.int .i64))) (hcap : ∀ a n c, va = .slice a n c → n ≤ c) (hok : rightB ns = false) :
    Calls Try.prog 52 #[.pointer (some ⟨bm, 0, none⟩), va] w fun e w' => e = .returned (.tuple #[mvVal none, .bool false, errV 1]) ∧ Below w.heap.size w w' := by
  have HN := Lib.hid (errV_ne (k := 1) (by omega))
  have HO := Lib.hid (fun W (hb : Below w.heap.size w W) => porder_bad base bm v va es ns W (h.below hb) (hr.below hb) hcap hok)
  clear h hr hcap hok
  go_enter Try.func52, Try.ntmps52
  go_wp2_with fail
  refine (HO.out _ (by repeat (first | (with_reducible exact Below.refl _ _) | (with_reducible refine Below.setCell ?_ ?_ _) | (with_reducible refine Below.alloc ?_ ?_ _) | (with_reducible refine Below.drewN ?_ _) | (with_reducible refine Below.drew ?_) | (with_reducible exact Nat.le_refl _) | (focus (simp only [World.size_alloc, World.size_setCell, World.size_drew, World.size_drewN]; omega)) | omega | exact Nat.le_refl _ | (focus (simp; done)) | (focus (simp; omega))))).mono ?_
  rintro e w1 ⟨rfl, rfl⟩
  rw [HN.out]
  go_wp2_with fail
  refine bodyPost_ret (v := .tuple #[.agg #[.int .i64 0, .int .i64 0, .int .i64 0, .int .i64 0], .bool false, .iface 106 (.int .i64 1)]) ?_ rfl ?_
  · simp [results, Try.results52, go_sem]
  · exact ⟨by rw [HN.out]; rfl, (by repeat (first | (with_reducible exact Below.refl _ _) | (with_reducible refine Below.setCell ?_ ?_ _) | (with_reducible refine Below.alloc ?_ ?_ _) | (with_reducible refine Below.drewN ?_ _) | (with_reducible refine Below.drew ?_) | (with_reducible exact Nat.le_refl _) | (focus (simp only [World.size_alloc, World.size_setCell, World.size_drew, World.size_drewN]; omega)) | omega | exact Nat.le_refl _ | (focus (simp; done)) | (focus (simp; omega))))⟩
set_option maxRecDepth 100000 in
set_option maxHeartbeats 1000000 in
theorem peven_few (base bm : Nat) (v va : Value) (es : List Ent) (ns : List Int) (w : World) (h : MapAt w base bm v es) (hno : NodesOk es) (hr : Reads w 1 va ns.length (ns.map (Value.int .i64))) (hcap : ∀ a n c, va = .slice a n c → n ≤ c) (hok : rightB ns = true) (hl : ns.length < 2) :
    Calls Try.prog 52 #[.pointer (some ⟨bm, 0, none⟩), va] w fun e w' => e = .returned (.tuple #[mvVal none, .bool false, errV 11]) ∧ Below w.heap.size w w' := by
  have HN := Lib.hid (errV_ne (k := 11) (by omega))
  have HO := Lib.hid (fun W (hb : Below w.heap.size w W) => porder_any base bm v va es ns W (h.below hb) hno (hr.below hb) hcap hok)
  have hd : decide ((ns.length : Int) < 2) = true := by simp; omega
  clear h hr hcap hok hno hl
  go_enter Try.func52, Try.ntmps52
  go_wp2_with fail
  refine (HO.out _ (by repeat (first | (with_reducible exact Below.refl _ _) | (with_reducible refine Below.setCell ?_ ?_ _) | (with_reducible refine Below.alloc ?_ ?_ _) | (with_reducible refine Below.drewN ?_ _) | (with_reducible refine Below.drew ?_) | (with_reducible exact Nat.le_refl _) | (focus (simp only [World.size_alloc, World.size_setCell, World.size_drew, World.size_drewN]; omega)) | omega | exact Nat.le_refl _ | (focus (simp; done)) | (focus (simp; omega))))).mono ?_
  rintro e w1 ⟨v1, rfl, ho1, hb1⟩
  obtain ⟨a1, c1, rfl⟩ := ownsRow_len ho1
  have hbk := hb1.block w.heap.size (by simp)
  rw [heap_alloc_new] at hbk
  have z0 := cell_of_row w1 w.heap.size 0 _ _ _ hbk
  have z1 := cell_of_row w1 w.heap.size 1 _ _ _ hbk
  have z2 := cell_of_row w1 w.heap.size 2 _ _ _ hbk
  have z3 := cell_of_row w1 w.heap.size 3 _ _ _ hbk
  have zf := fun o => frozen_of_row w1 w.heap.size o _ _ hbk
  simp at z0 z1 z2 z3
  have hz1 := hb1.size
  simp only [World.size_alloc] at hz1
  have HB1 := Lib.hid (show Below w.heap.size w w1 from Below.trans (by repeat (first | (with_reducible exact Below.refl _ _) | (with_reducible refine Below.setCell ?_ ?_ _) | (with_reducible refine Below.alloc ?_ ?_ _) | (with_reducible refine Below.drewN ?_ _) | (with_reducible refine Below.drew ?_) | (with_reducible exact Nat.le_refl _) | (focus (simp only [World.size_alloc, World.size_setCell, World.size_drew, World.size_drewN]; omega)) | omega | exact Nat.le_refl _ | (focus (simp; done)) | (focus (simp; omega)))) (hb1.mono (by simp)))
  clear ho1 hb1 hbk
  go_wp2_with fail
  refine bodyPost_ret (v := .tuple #[.agg #[.int .i64 0, .int .i64 0, .int .i64 0, .int .i64 0], .bool false, .iface 106 (.int .i64 11)]) ?_ rfl ?_
  · simp [results, Try.results52, go_sem, z0, z1, z2, z3]
  · refine ⟨by rw [HN.out]; rfl, ?_⟩
    (repeat (with_reducible refine Below.setCell ?_ ?_ _; rotate_left; focus (simp; done)))
    exact HB1.out
set_option maxRecDepth 100000 in
set_option maxHeartbeats 4000000 in
theorem peven_any (base bm : Nat) (v va : Value) (es : List Ent) (ns : List Int) (w : World) (h : MapAt w base bm v es) (hno : NodesOk es) (hr : Reads w 1 va ns.length (ns.map (Value.int .i64))) (hcap : ∀ a n c, va = .slice a n c → n ≤ c) (hok : rightB ns = true) (hl : 2 ≤ ns.length) :
    Calls Try.prog 52 #[.pointer (some ⟨bm, 0, none⟩), va] w fun e w' => e = .returned (.tuple #[mvVal (evenI es ns), .bool (evenI es ns).isSome, .nilIface]) ∧ Below w.heap.size w w' := by
  have hfew := h.few
  have H := Lib.hid h
  have HO := Lib.hid (fun W (hb : Below w.heap.size w W) => porder_any base bm v va es ns W (h.below hb) hno (hr.below hb) hcap hok)
  have HLEN := Lib.hid (show (sortI (fun k => (loadN es k : Int)) ns).length = ns.length by simp [sortI])
  have hd : decide ((ns.length : Int) < 2) = false := by simp; omega
  have hl0 : (0 : Int) < (ns.length : Int) := by omega
  have hl0' : 0 < ns.length := by omega
  obtain ⟨a, ha⟩ : ∃ a, lightI es ns = a := ⟨_, rfl⟩
  obtain ⟨b, hb⟩ : ∃ b, heavyI es ns = b := ⟨_, rfl⟩
  obtain ⟨ev, hev⟩ : ∃ ev, ev = evenI es ns := ⟨_, rfl⟩
  rw [← hev]
  have HEV := Lib.hid (show ev = evenAB es a b by rw [hev, evenI, ha, hb])
  have HA := Lib.hid ha
  have HBB := Lib.hid hb
  unfold lightI at HA
  unfold heavyI at HBB
  clear h hr hcap hok hno ha hb hev
  obtain ⟨nl, hnl⟩ : ∃ nl, nl = ns.length - 1 := ⟨_, rfl⟩
  rw [← hnl] at HBB
  have HNL := Lib.hid hnl
  have hn1 : (nl : Int) < (ns.length : Int) := by omega
  have hn1' : nl < ns.length := by omega
  clear hnl
  go_enter Try.func52, Try.ntmps52
  go_wp2_with fail
  refine (HO.out _ (by repeat (first | (with_reducible exact Below.refl _ _) | (with_reducible refine Below.setCell ?_ ?_ _) | (with_reducible refine Below.alloc ?_ ?_ _) | (with_reducible refine Below.drewN ?_ _) | (with_reducible refine Below.drew ?_) | (with_reducible exact Nat.le_refl _) | (focus (simp only [World.size_alloc, World.size_setCell, World.size_drew, World.size_drewN]; omega)) | omega | exact Nat.le_refl _ | (focus (simp; done)) | (focus (simp; omega))))).mono ?_
  rintro e w1 ⟨v1, rfl, ho1, hb1⟩
  obtain ⟨g, c1, rfl, hg, k0, k1⟩ := ends_of ho1 HLEN.out (by omega)
  rw [← HNL.out] at k1
  rw [HA.out] at k0
  rw [HBB.out] at k1
  have hbk := hb1.block w.heap.size (by simp)
  rw [heap_alloc_new] at hbk
  have HBK := Lib.hid hbk
  have hz1 := hb1.size
  simp only [World.size_alloc] at hz1
  have hcc := owns_cap ho1
  have hm := hcc.2
  have hlc : (ns.length : Int) ≤ (c1 : Int) := by omega
  have HB1 := Lib.hid (show Below w.heap.size w w1 from Below.trans (by repeat (first | (with_reducible exact Below.refl _ _) | (with_reducible refine Below.setCell ?_ ?_ _) | (with_reducible refine Below.alloc ?_ ?_ _) | (with_reducible refine Below.drewN ?_ _) | (with_reducible refine Below.drew ?_) | (with_reducible exact Nat.le_refl _) | (focus (simp only [World.size_alloc, World.size_setCell, World.size_drew, World.size_drewN]; omega)) | omega | exact Nat.le_refl _ | (focus (simp; done)) | (focus (simp; omega)))) (hb1.mono (by simp)))
  have hle1 := loadN_le es a
  have hle2 := loadN_le es b
  clear ho1 hb1 hbk hcc
  have hws : IntKind.i64.wrap ((ns.length : Int) - 1) = (nl : Int) := by
    have := HNL.out
    rw [IntWalk.i64_in _ (by omega)]; omega
  go_wp2_with fail
  refine wp_region_now0 [2, 8] [(0, 0), (1, 0), (2, 2), (3, 0), (4, 0), (5, 0), (6, 0), (7, 0), (8, 2), (9, 0), (10, 0)] (by kernel_rfl) (by kernel_rfl) rfl (by kernel_rfl) ?_
  refine stepE0 rfl rfl (fun K hK => ?_)
  go_simp
  refine hK _ ?_
  clear hK K
  refine stepE0 rfl rfl (fun K hK => ?_)
  go_simp
  refine hK _ ?_
  clear hK K
  refine stepE2 rfl rfl ?_ (fun w1 hS => ?_) (fun K hK => ?_)
  rotate_left
  focus (obtain rfl : w1 = _ := hS; go_simp; rfl)
  go_simp
  refine hK _ ?_
  clear hK K
  refine stepE0 rfl rfl (fun K hK => ?_)
  go_simp
  refine hK _ ?_
  clear hK K
  refine stepE0 rfl rfl (fun K hK => ?_)
  go_simp
  refine hK _ ?_
  clear hK K
  refine stepE0 rfl rfl (fun K hK => ?_)
  go_simp
  refine hK _ ?_
  clear hK K
  refine stepE0 rfl rfl (fun K hK => ?_)
  go_simp
  refine hK _ ?_
  clear hK K
  refine stepE0 rfl rfl (fun K hK => ?_)
  go_simp
  refine hK _ ?_
  clear hK K
  refine stepE2 rfl rfl ?_ (fun w1 hS => ?_) (fun K hK => ?_)
  rotate_left
  focus (obtain rfl : w1 = _ := hS; go_simp; rfl)
  go_simp
  refine hK _ ?_
  clear hK K
  refine stepE0 rfl rfl (fun K hK => ?_)
  go_simp
  refine hK _ ?_
  clear hK K
  refine stepE0 rfl rfl (fun K hK => ?_)
  go_simp
  refine hK _ ?_
  clear hK K
  try refine stepEnil0 ?_
  clear hws
  go_wp2_with fail
  refine (pload_any base bm v es b _ (H.out.below (by exact HB1.out.drew))).mono ?_
  rintro e w2 ⟨rfl, hb2⟩
  have HB2 := Lib.hid (show Below w1.heap.size w1 w2 from Below.trans (b := w1.drew) (by repeat (first | (with_reducible exact Below.refl _ _) | (with_reducible refine Below.setCell ?_ ?_ _) | (with_reducible refine Below.alloc ?_ ?_ _) | (with_reducible refine Below.drewN ?_ _) | (with_reducible refine Below.drew ?_) | (with_reducible exact Nat.le_refl _) | (focus (simp only [World.size_alloc, World.size_setCell, World.size_drew, World.size_drewN]; omega)) | omega | exact Nat.le_refl _ | (focus (simp; done)) | (focus (simp; omega)))) (hb2.mono (by simp)))
  have hz2 := HB2.out.size
  clear hb2
  go_wp2_with fail
  refine (pload_any base bm v es a _ (H.out.below (HB1.out.trans (HB2.out.mono (by omega))))).mono ?_
  rintro e w3 ⟨rfl, hb3⟩
  have HB3 := Lib.hid (show Below w1.heap.size w1 w3 from HB2.out.trans (hb3.mono hz2))
  have HBW := Lib.hid (show Below w.heap.size w w3 from HB1.out.trans (HB3.out.mono (by omega)))
  have hz3 := HB3.out.size
  have hbk := (HB3.out.block w.heap.size (by omega)).trans HBK.out
  have z0 := cell_of_row w3 w.heap.size 0 _ _ _ hbk
  have z1 := cell_of_row w3 w.heap.size 1 _ _ _ hbk
  have z2 := cell_of_row w3 w.heap.size 2 _ _ _ hbk
  have z3 := cell_of_row w3 w.heap.size 3 _ _ _ hbk
  have zf := fun o => frozen_of_row w3 w.heap.size o _ _ hbk
  simp at z0 z1 z2 z3
  have hzw : w.heap.size < w3.heap.size := by omega
  clear hb3 k0 k1
  have HBK3 := Lib.hid hbk
  clear hbk
  have hq0 : (0 : Int) ≤ (loadN es a : Int) ∧ (0 : Int) ≤ (loadN es b : Int) := by omega
  obtain ⟨hq1, hq2⟩ := hq0
  by_cases hlow : loadN es b < loadN es a + 2
  · have ht : decide ((loadN es b : Int) - (loadN es a : Int) < 2) = true := by simp; omega
    have HL := Lib.hid (evenAB_low hlow)
    clear hlow
    go_wp2_with fail
    refine bodyPost_ret (v := .tuple #[.agg #[.int .i64 0, .int .i64 0, .int .i64 0, .int .i64 0], .bool false, .nilIface]) ?_ rfl ?_
    · simp [results, Try.results52, go_sem, z0, z1, z2, z3]
    · refine ⟨by rw [HEV.out, HL.out]; rfl, ?_⟩
      (repeat (with_reducible refine Below.setCell ?_ ?_ _; rotate_left; focus (simp; done)))
      exact HBW.out
  · have ht : decide ((loadN es b : Int) - (loadN es a : Int) < 2) = false := by simp; omega
    have HL := Lib.hid (evenAB_go hlow)
    clear hlow
    go_wp2_with fail
    refine (all_any base bm v es _ (H.out.below HBW.out)).mono ?_
    rintro e w4 ⟨v4, rfl, ho4, _, hb4⟩
    obtain ⟨a4, c4, rfl⟩ := ownsRow_len ho4
    have HO4 := Lib.hid ho4
    have HBW4 := Lib.hid (HBW.out.trans (hb4.mono (by omega)))
    have HBK4 := Lib.hid ((hb4.block w.heap.size hzw).trans HBK3.out)
    have hz4 := hb4.size
    clear ho4 hb4 ht z0 z1 z2 z3 zf
    generalize loadN es a = la at *
    generalize loadN es b = lb at *
    go_wp2_with fail
    go_loopw [50] (fun i wr => ∃ k : Nat, k ≤ es.length ∧ i = .int .i64 k ∧ es.find? (canGo a b) = (es.drop k).find? (canGo a b) ∧ Below w4.heap.size w4 wr) (fun i _ => es.length - (intOf i).toNat)
    case atStart => exact ⟨0, Nat.zero_le _, rfl, rfl, Below.refl _ _⟩
    case round =>
      obtain ⟨k, hk, rfl, hfind, hbw⟩ := hrel
      have HF := Lib.hid hfind
      have HBR := Lib.hid hbw
      have hzr := hbw.size
      have hbk := (hbw.block w.heap.size (by omega)).trans HBK4.out
      have z0 := cell_of_row wr w.heap.size 0 _ _ _ hbk
      have z1 := cell_of_row wr w.heap.size 1 _ _ _ hbk
      have z2 := cell_of_row wr w.heap.size 2 _ _ _ hbk
      have z3 := cell_of_row wr w.heap.size 3 _ _ _ hbk
      have zf := fun o => frozen_of_row wr w.heap.size o _ _ hbk
      simp at z0 z1 z2 z3
      have hzw4 : w.heap.size < wr.heap.size := by omega
      clear hfind hbw hbk
      by_cases hlt : k < es.length
      · obtain ⟨x, hx⟩ : ∃ x, es[k]? = some x := ⟨_, List.getElem?_eq_getElem hlt⟩
        obtain ⟨g3, cc3, e3, hg3, _, _, x0, x1, x2, x3, x4, x5⟩ := row_ent (ownsRow_below HO4.out HBR.out) k x hx
        obtain ⟨e3', -, e3''⟩ := slice_inj e3
        subst e3' e3''
        have HX := Lib.hid (find_drop (p := canGo a b) hx)
        have HP := Lib.hid (hasI_pos x b)
        have HC := Lib.hid (contains_has x a)
        have HCG := Lib.hid (show canGo a b x = (hasB x b && !hasB x a) from rfl)
        clear hx e3
        obtain ⟨ha1, hbb1⟩ : ∃ p q, hasB x b = p ∧ hasB x a = q := ⟨_, _, rfl, rfl⟩
        obtain ⟨hq, hpe, hqe⟩ := hbb1
        rw [hpe] at HP HCG
        rw [hqe] at HC HCG
        clear hpe hqe
        have HI := Lib.hid (fun W h0 h1 h2 => index3 wr.heap.size 2 3 x b W h0 h1 h2)
        have hcg : canGo a b x = (ha1 && !hq) := HCG.out
        obtain ⟨r, hr⟩ : ∃ r, r = hasI x b := ⟨_, rfl⟩
        rw [← hr] at HI HP
        have HR := Lib.hid hr
        have HCG2 := Lib.hid hcg
        have HMV := Lib.hid (fun (h : es.find? (canGo a b) = some x) => mvVal_of (a := a) (b := b) h)
        clear hcg hr HCG
        obtain ⟨xv, xe, xa, xb, xc, xs⟩ := x
        simp only at x0 x1 x2 x3 x4 x5
        have hk0 : (0 : Int) ≤ (k : Int) := by omega
        have hk1 : (k : Int) < (es.length : Int) := by omega
        cases ha1
        · have hi : decide (0 ≤ r) = false := HP.out
          go_wp2_with fail
          refine (HI.out _ (by go_simp) (by go_simp) (by go_simp)).mono ?_
          rintro e w5 ⟨rfl, rfl⟩
          go_wp2_with fail
          go_roundw
          case rel => exact ⟨k + 1, by omega, by go_num, by rw [HF.out, HX.out, HCG2.out]; rfl, HBR.out.alloc hzr _⟩
          case measure => simp [intOf]; omega
        · have hi : decide (0 ≤ r) = true := HP.out
          cases hq
          · go_wp2_with fail
            refine (HI.out _ (by go_simp) (by go_simp) (by go_simp)).mono ?_
            rintro e w5 ⟨rfl, rfl⟩
            go_wp2_with fail
            refine (contains3 wr.heap.size 2 _ xa xb xc a _ _ HC.out (by go_simp) (by go_simp) (by go_simp)).mono ?_
            rintro e w5 ⟨rfl, rfl⟩
            go_wp2_with fail
            have HFS := Lib.hid (show es.find? (canGo a b) = some ⟨xv, xe, xa, xb, xc, xs⟩ by rw [HF.out, HX.out, HCG2.out]; rfl)
            refine bodyPost_ret (v := .tuple #[.agg #[.int .i64 xv, .int .i64 xe, .int .i64 r, .int .i64 a], .bool true, .nilIface]) ?_ rfl ?_
            · simp [results, Try.results52, go_sem, z0, z1, z2, z3, World.cell?_alloc_lt, hzw4]
            · refine ⟨by rw [HEV.out, HL.out, HMV.out HFS.out, HFS.out, HR.out]; rfl, ?_⟩
              refine Below.alloc ?_ (by simp; omega) _
              (repeat (with_reducible refine Below.setCell ?_ ?_ _; rotate_left; focus (simp; done)))
              exact HBW4.out.trans (HBR.out.mono (by omega))
          · go_wp2_with fail
            refine (HI.out _ (by go_simp) (by go_simp) (by go_simp)).mono ?_
            rintro e w5 ⟨rfl, rfl⟩
            go_wp2_with fail
            refine (contains3 wr.heap.size 2 _ xa xb xc a _ _ HC.out (by go_simp) (by go_simp) (by go_simp)).mono ?_
            rintro e w5 ⟨rfl, rfl⟩
            go_wp2_with fail
            go_roundw
            case rel => exact ⟨k + 1, by omega, by go_num, by rw [HF.out, HX.out, HCG2.out]; rfl, HBR.out.alloc hzr _⟩
            case measure => simp [intOf]; omega
      · have HN := Lib.hid (show es.find? (canGo a b) = none by rw [HF.out, List.drop_eq_nil_of_le (by omega)]; rfl)
        go_wp2_with fail
        refine bodyPost_ret (v := .tuple #[.agg #[.int .i64 0, .int .i64 0, .int .i64 0, .int .i64 0], .bool false, .nilIface]) ?_ rfl ?_
        · simp [results, Try.results52, go_sem, z0, z1, z2, z3]
        · refine ⟨by rw [HEV.out, HL.out, HN.out]; rfl, ?_⟩
          (repeat (with_reducible refine Below.setCell ?_ ?_ _; rotate_left; focus (simp; done)))
          exact HBW4.out.trans (HBR.out.mono (by omega))
set_option maxRecDepth 100000 in
set_option maxHeartbeats 4000000 in
theorem reven_any (base : Nat) (v va : Value) (es : List Ent) (ns : List Int) (w : World) (h : w.ownsRow base 128 6 v es.length (es.flatMap Ent.row)) (hfew : es.length ≤ 4096) (hr : Reads w 1 va ns.length (ns.map (Value.int .i64))) (hl : 2 ≤ ns.length) (hn : ns.length ≤ 100) :
    Calls Try.prog 54 #[v, va] w fun e w' => e = .returned (.tuple #[mvVal (evenI es ns), .bool (evenI es ns).isSome]) ∧ Below w.heap.size w w' := by
  have H := Lib.hid h
  obtain ⟨a0, cap0, rfl⟩ := ownsRow_len h
  have HO := Lib.hid (fun W (hb : Below w.heap.size w W) => rorder_any base _ va es ns W (ownsRow_below h hb) hfew (hr.below hb) hn)
  have HLEN := Lib.hid (show (sortI (fun k => (loadN es k : Int)) ns).length = ns.length by simp [sortI])
  have hl0 : (0 : Int) < (ns.length : Int) := by omega
  have hl0' : 0 < ns.length := by omega
  obtain ⟨a, ha⟩ : ∃ a, lightI es ns = a := ⟨_, rfl⟩
  obtain ⟨b, hb⟩ : ∃ b, heavyI es ns = b := ⟨_, rfl⟩
  obtain ⟨ev, hev⟩ : ∃ ev, ev = evenI es ns := ⟨_, rfl⟩
  rw [← hev]
  have HEV := Lib.hid (show ev = evenAB es a b by rw [hev, evenI, ha, hb])
  have HA := Lib.hid ha
  have HBB := Lib.hid hb
  unfold lightI at HA
  unfold heavyI at HBB
  clear h hr ha hb hev
  obtain ⟨nl, hnl⟩ : ∃ nl, nl = ns.length - 1 := ⟨_, rfl⟩
  rw [← hnl] at HBB
  have HNL := Lib.hid hnl
  have hn1 : (nl : Int) < (ns.length : Int) := by omega
  have hn1' : nl < ns.length := by omega
  clear hnl
  go_enter Try.func54, Try.ntmps54
  go_wp2_with fail
  refine (HO.out _ (by repeat (first | (with_reducible exact Below.refl _ _) | (with_reducible refine Below.setCell ?_ ?_ _) | (with_reducible refine Below.alloc ?_ ?_ _) | (with_reducible refine Below.drewN ?_ _) | (with_reducible refine Below.drew ?_) | (with_reducible exact Nat.le_refl _) | (focus (simp only [World.size_alloc, World.size_setCell, World.size_drew, World.size_drewN]; omega)) | omega | exact Nat.le_refl _ | (focus (simp; done)) | (focus (simp; omega))))).mono ?_
  rintro e w1 ⟨v1, rfl, ho1, hb1⟩
  obtain ⟨g, c1, rfl, hg, k0, k1⟩ := ends_of ho1 HLEN.out (by omega)
  rw [← HNL.out] at k1
  rw [HA.out] at k0
  rw [HBB.out] at k1
  have hbk := hb1.block w.heap.size (by simp)
  rw [heap_alloc_new] at hbk
  have HBK := Lib.hid hbk
  have hz1 := hb1.size
  simp only [World.size_alloc] at hz1
  have hcc := owns_cap ho1
  have hm := hcc.2
  have hlc : (ns.length : Int) ≤ (c1 : Int) := by omega
  have HB1 := Lib.hid (show Below w.heap.size w w1 from Below.trans (by repeat (first | (with_reducible exact Below.refl _ _) | (with_reducible refine Below.setCell ?_ ?_ _) | (with_reducible refine Below.alloc ?_ ?_ _) | (with_reducible refine Below.drewN ?_ _) | (with_reducible refine Below.drew ?_) | (with_reducible exact Nat.le_refl _) | (focus (simp only [World.size_alloc, World.size_setCell, World.size_drew, World.size_drewN]; omega)) | omega | exact Nat.le_refl _ | (focus (simp; done)) | (focus (simp; omega)))) (hb1.mono (by simp)))
  have hle1 := loadN_le es a
  have hle2 := loadN_le es b
  clear ho1 hb1 hbk hcc
  have hws : IntKind.i64.wrap ((ns.length : Int) - 1) = (nl : Int) := by
    have := HNL.out
    rw [IntWalk.i64_in _ (by omega)]; omega
  go_wp2_with fail
  refine wp_region_now0 [2, 8] [(0, 0), (1, 0), (2, 2), (3, 0), (4, 0), (5, 0), (6, 0), (7, 0), (8, 2), (9, 0), (10, 0)] (by kernel_rfl) (by kernel_rfl) rfl (by kernel_rfl) ?_
  refine stepE0 rfl rfl (fun K hK => ?_)
  go_simp
  refine hK _ ?_
  clear hK K
  refine stepE0 rfl rfl (fun K hK => ?_)
  go_simp
  refine hK _ ?_
  clear hK K
  refine stepE2 rfl rfl ?_ (fun w1 hS => ?_) (fun K hK => ?_)
  rotate_left
  focus (obtain rfl : w1 = _ := hS; go_simp; rfl)
  go_simp
  refine hK _ ?_
  clear hK K
  refine stepE0 rfl rfl (fun K hK => ?_)
  go_simp
  refine hK _ ?_
  clear hK K
  refine stepE0 rfl rfl (fun K hK => ?_)
  go_simp
  refine hK _ ?_
  clear hK K
  refine stepE0 rfl rfl (fun K hK => ?_)
  go_simp
  refine hK _ ?_
  clear hK K
  refine stepE0 rfl rfl (fun K hK => ?_)
  go_simp
  refine hK _ ?_
  clear hK K
  refine stepE0 rfl rfl (fun K hK => ?_)
  go_simp
  refine hK _ ?_
  clear hK K
  refine stepE2 rfl rfl ?_ (fun w1 hS => ?_) (fun K hK => ?_)
  rotate_left
  focus (obtain rfl : w1 = _ := hS; go_simp; rfl)
  go_simp
  refine hK _ ?_
  clear hK K
  refine stepE0 rfl rfl (fun K hK => ?_)
  go_simp
  refine hK _ ?_
  clear hK K
  refine stepE0 rfl rfl (fun K hK => ?_)
  go_simp
  refine hK _ ?_
  clear hK K
  try refine stepEnil0 ?_
  clear hws
  go_wp2_with fail
  refine (rload_any base _ es b _ (ownsRow_below H.out (by exact HB1.out.drew)) hfew).mono ?_
  rintro e w2 ⟨rfl, hb2⟩
  have HB2 := Lib.hid (show Below w1.heap.size w1 w2 from Below.trans (b := w1.drew) (by repeat (first | (with_reducible exact Below.refl _ _) | (with_reducible refine Below.setCell ?_ ?_ _) | (with_reducible refine Below.alloc ?_ ?_ _) | (with_reducible refine Below.drewN ?_ _) | (with_reducible refine Below.drew ?_) | (with_reducible exact Nat.le_refl _) | (focus (simp only [World.size_alloc, World.size_setCell, World.size_drew, World.size_drewN]; omega)) | omega | exact Nat.le_refl _ | (focus (simp; done)) | (focus (simp; omega)))) (hb2.mono (by simp)))
  have hz2 := HB2.out.size
  clear hb2
  go_wp2_with fail
  refine (rload_any base _ es a _ (ownsRow_below H.out (HB1.out.trans (HB2.out.mono (by omega)))) hfew).mono ?_
  rintro e w3 ⟨rfl, hb3⟩
  have HB3 := Lib.hid (show Below w1.heap.size w1 w3 from HB2.out.trans (hb3.mono hz2))
  have HBW := Lib.hid (show Below w.heap.size w w3 from HB1.out.trans (HB3.out.mono (by omega)))
  have hz3 := HB3.out.size
  have hbk := (HB3.out.block w.heap.size (by omega)).trans HBK.out
  have z0 := cell_of_row w3 w.heap.size 0 _ _ _ hbk
  have z1 := cell_of_row w3 w.heap.size 1 _ _ _ hbk
  have z2 := cell_of_row w3 w.heap.size 2 _ _ _ hbk
  have z3 := cell_of_row w3 w.heap.size 3 _ _ _ hbk
  have zf := fun o => frozen_of_row w3 w.heap.size o _ _ hbk
  simp at z0 z1 z2 z3
  have hzw : w.heap.size < w3.heap.size := by omega
  clear hb3 k0 k1
  have HBK3 := Lib.hid hbk
  clear hbk
  have hq0 : (0 : Int) ≤ (loadN es a : Int) ∧ (0 : Int) ≤ (loadN es b : Int) := by omega
  obtain ⟨hq1, hq2⟩ := hq0
  by_cases hlow : loadN es b < loadN es a + 2
  · have ht : decide ((loadN es b : Int) - (loadN es a : Int) < 2) = true := by simp; omega
    have HL := Lib.hid (evenAB_low hlow)
    clear hlow
    go_wp2_with fail
    refine bodyPost_ret (v := .tuple #[.agg #[.int .i64 0, .int .i64 0, .int .i64 0, .int .i64 0], .bool false]) ?_ rfl ?_
    · simp [results, Try.results54, go_sem, z0, z1, z2, z3]
    · refine ⟨by rw [HEV.out, HL.out]; rfl, ?_⟩
      (repeat (with_reducible refine Below.setCell ?_ ?_ _; rotate_left; focus (simp; done)))
      exact HBW.out
  · have ht : decide ((loadN es b : Int) - (loadN es a : Int) < 2) = false := by simp; omega
    have HL := Lib.hid (evenAB_go hlow)
    clear hlow
    clear z0 z1 z2 z3 zf
    go_wp2_with fail
    clear ht
    generalize loadN es a = la at *
    generalize loadN es b = lb at *
    go_loopw [9] (fun i wr => ∃ k : Nat, k ≤ es.length ∧ i = .int .i64 k ∧ es.find? (canGo a b) = (es.drop k).find? (canGo a b) ∧ Below w3.heap.size w3 wr) (fun i _ => es.length - (intOf i).toNat)
    case atStart => exact ⟨0, Nat.zero_le _, rfl, rfl, Below.refl _ _⟩
    case round =>
      obtain ⟨k, hk, rfl, hfind, hbw⟩ := hrel
      have HF := Lib.hid hfind
      have HBR := Lib.hid hbw
      have hzr := hbw.size
      have HBKR := Lib.hid ((hbw.block w.heap.size (by omega)).trans HBK3.out)
      have hzw4 : w.heap.size < wr.heap.size := by omega
      clear hfind hbw
      by_cases hlt : k < es.length
      · obtain ⟨x, hx⟩ : ∃ x, es[k]? = some x := ⟨_, List.getElem?_eq_getElem hlt⟩
        obtain ⟨g3, cc3, e3, hg3, hg3b, _, x0, x1, x2, x3, x4, x5⟩ := row_ent19 (ownsRow_below H.out (HBW.out.trans (HBR.out.mono (by omega)))) k x hx
        obtain ⟨e3', -, e3''⟩ := slice_inj e3
        have hgw := (H.out.lt g3 (by rw [e3']; rfl)).2
        subst e3' e3''
        have HX := Lib.hid (find_drop (p := canGo a b) hx)
        have HP := Lib.hid (hasI_pos x b)
        have HC := Lib.hid (hasI_pos x a)
        have HCG := Lib.hid (show canGo a b x = (hasB x b && !hasB x a) from rfl)
        clear hx e3
        obtain ⟨ha1, hbb1⟩ : ∃ p q, hasB x b = p ∧ hasB x a = q := ⟨_, _, rfl, rfl⟩
        obtain ⟨hq, hpe, hqe⟩ := hbb1
        rw [hpe] at HP HCG
        rw [hqe] at HC HCG
        clear hpe hqe
        have HI := Lib.hid (fun n W => has_any x n W)
        have hcg : canGo a b x = (ha1 && !hq) := HCG.out
        have HCG2 := Lib.hid hcg
        have HMV := Lib.hid (fun (h : es.find? (canGo a b) = some x) => mvVal_of (a := a) (b := b) h)
        clear hcg HCG
        have HIB := Lib.hid (fun W => HI.out b W)
        have HIA := Lib.hid (fun W => HI.out a W)
        obtain ⟨r, hr⟩ : ∃ r, hasI x b = r := ⟨_, rfl⟩
        obtain ⟨q, hqa⟩ : ∃ q, hasI x a = q := ⟨_, rfl⟩
        rw [hr] at HIB HP HMV
        rw [hqa] at HIA HC
        clear HI hr hqa
        obtain ⟨xv, xe, xa, xb, xc, xs⟩ := x
        simp only at x0 x1 x2 x3 x4 x5
        have hk0 : (0 : Int) ≤ (k : Int) := by omega
        have hk1 : (k : Int) < (es.length : Int) := by omega
        cases ha1
        · have hi : decide (0 ≤ r) = false := HP.out
          go_wp2_with fail
          refine (HIB.out _).mono ?_
          rintro e w5 ⟨rfl, hb5⟩
          have HB5 := Lib.hid (HBR.out.trans (hb5.mono hzr))
          clear hb5
          go_wp2_with fail
          go_roundw
          case rel => exact ⟨k + 1, by omega, by go_num, by rw [HF.out, HX.out, HCG2.out]; rfl, HB5.out⟩
          case measure => simp [intOf]; omega
        · have hi : decide (0 ≤ r) = true := HP.out
          cases hq
          · have hj : decide (q < 0) = true := by have := HC.out; simp at this ⊢; omega
            go_wp2_with fail
            refine (HIB.out _).mono ?_
            rintro e w5 ⟨rfl, hb5⟩
            have HB5 := Lib.hid (HBR.out.trans (hb5.mono hzr))
            have hz5 := HB5.out.size
            have y0 := (hb5.cell (p := ⟨g3, k * 6, none⟩) hg3).trans x0
            have y1 := (hb5.cell (p := ⟨g3, k * 6 + 1, none⟩) hg3).trans x1
            have y2 := (hb5.cell (p := ⟨g3, k * 6 + 2, none⟩) hg3).trans x2
            have y3 := (hb5.cell (p := ⟨g3, k * 6 + 3, none⟩) hg3).trans x3
            have y4 := (hb5.cell (p := ⟨g3, k * 6 + 4, none⟩) hg3).trans x4
            have y5 := (hb5.cell (p := ⟨g3, k * 6 + 5, none⟩) hg3).trans x5
            have hg5 : g3 < w5.heap.size := by have := hb5.size; omega
            clear hb5
            go_wp2_with fail
            refine (HIA.out _).mono ?_
            rintro e w6 ⟨rfl, hb6⟩
            have HB6 := Lib.hid (HB5.out.trans (hb6.mono hz5))
            have hz6 := HB6.out.size
            have t0 := (hb6.cell (p := ⟨g3, k * 6, none⟩) hg5).trans y0
            have t1 := (hb6.cell (p := ⟨g3, k * 6 + 1, none⟩) hg5).trans y1
            have hbk := (HB6.out.block w.heap.size (by omega)).trans HBK3.out
            have z0 := cell_of_row w6 w.heap.size 0 _ _ _ hbk
            have z1 := cell_of_row w6 w.heap.size 1 _ _ _ hbk
            have z2 := cell_of_row w6 w.heap.size 2 _ _ _ hbk
            have z3 := cell_of_row w6 w.heap.size 3 _ _ _ hbk
            have zf := fun o => frozen_of_row w6 w.heap.size o _ _ hbk
            simp at z0 z1 z2 z3
            clear hb6 hbk x0 x1 x2 x3 x4 x5 y0 y1 y2 y3 y4 y5
            go_wp2_with fail
            refine wp_region_now0 [4, 9] [(0, 0), (1, 0), (2, 0), (3, 0), (4, 2), (5, 0), (6, 0), (7, 0), (8, 0), (9, 2), (10, 0), (11, 0), (12, 0), (13, 1), (14, 0)] (by kernel_rfl) (by kernel_rfl) rfl (by kernel_rfl) ?_
            refine stepE0 rfl rfl (fun K hK => ?_)
            go_simp
            refine hK _ ?_
            clear hK K
            refine stepE0 rfl rfl (fun K hK => ?_)
            go_simp
            refine hK _ ?_
            clear hK K
            refine stepE0 rfl rfl (fun K hK => ?_)
            go_simp
            refine hK _ ?_
            clear hK K
            refine stepE0 rfl rfl (fun K hK => ?_)
            go_simp
            refine hK _ ?_
            clear hK K
            refine stepE2 rfl rfl ?_ (fun w1 hS => ?_) (fun K hK => ?_)
            rotate_left
            focus (obtain rfl : w1 = _ := hS; go_simp; rfl)
            go_simp
            refine hK _ ?_
            clear hK K
            refine stepE0 rfl rfl (fun K hK => ?_)
            go_simp
            refine hK _ ?_
            clear hK K
            refine stepE0 rfl rfl (fun K hK => ?_)
            go_simp
            refine hK _ ?_
            clear hK K
            refine stepE0 rfl rfl (fun K hK => ?_)
            go_simp
            refine hK _ ?_
            clear hK K
            refine stepE0 rfl rfl (fun K hK => ?_)
            go_simp
            refine hK _ ?_
            clear hK K
            refine stepE2 rfl rfl ?_ (fun w1 hS => ?_) (fun K hK => ?_)
            rotate_left
            focus (obtain rfl : w1 = _ := hS; go_simp; rfl)
            go_simp
            refine hK _ ?_
            clear hK K
            refine stepE0 rfl rfl (fun K hK => ?_)
            go_simp
            refine hK _ ?_
            clear hK K
            refine stepE0 rfl rfl (fun K hK => ?_)
            go_simp
            refine hK _ ?_
            clear hK K
            refine stepE0 rfl rfl (fun K hK => ?_)
            go_simp
            refine hK _ ?_
            clear hK K
            refine stepE1 rfl rfl (by kernel_rfl) (fun K hK => ?_)
            go_wp2
            refine stepE0 rfl rfl (fun K hK => ?_)
            go_simp
            refine hK _ ?_
            clear hK K
            try refine stepEnil0 ?_
            go_wp2_with fail
            have HFS := Lib.hid (show es.find? (canGo a b) = some ⟨xv, xe, xa, xb, xc, xs⟩ by rw [HF.out, HX.out, HCG2.out]; rfl)
            refine bodyPost_ret (v := .tuple #[.agg #[.int .i64 xv, .int .i64 xe, .int .i64 r, .int .i64 a], .bool true]) ?_ rfl ?_
            · simp [results, Try.results54, go_sem, z0, z1, z2, z3]
            · refine ⟨by rw [HEV.out, HL.out, HMV.out HFS.out, HFS.out]; rfl, ?_⟩
              (repeat (first | with_reducible refine Below.drew ?_ | (with_reducible refine Below.setCell ?_ ?_ _; rotate_left; focus (simp; done))))
              exact HBW.out.trans (HB6.out.mono (by omega))
          · have hj : decide (q < 0) = false := by have := HC.out; simp at this ⊢; omega
            go_wp2_with fail
            refine (HIB.out _).mono ?_
            rintro e w5 ⟨rfl, hb5⟩
            have HB5 := Lib.hid (HBR.out.trans (hb5.mono hzr))
            have hz5 := HB5.out.size
            have y0 := (hb5.cell (p := ⟨g3, k * 6, none⟩) hg3).trans x0
            have y1 := (hb5.cell (p := ⟨g3, k * 6 + 1, none⟩) hg3).trans x1
            have y2 := (hb5.cell (p := ⟨g3, k * 6 + 2, none⟩) hg3).trans x2
            have y3 := (hb5.cell (p := ⟨g3, k * 6 + 3, none⟩) hg3).trans x3
            have y4 := (hb5.cell (p := ⟨g3, k * 6 + 4, none⟩) hg3).trans x4
            have y5 := (hb5.cell (p := ⟨g3, k * 6 + 5, none⟩) hg3).trans x5
            clear hb5
            go_wp2_with fail
            refine (HIA.out _).mono ?_
            rintro e w6 ⟨rfl, hb6⟩
            have HB6 := Lib.hid (HB5.out.trans (hb6.mono hz5))
            clear hb6
            go_wp2_with fail
            go_roundw
            case rel => exact ⟨k + 1, by omega, by go_num, by rw [HF.out, HX.out, HCG2.out]; rfl, HB6.out⟩
            case measure => simp [intOf]; omega
      · have HN := Lib.hid (show es.find? (canGo a b) = none by rw [HF.out, List.drop_eq_nil_of_le (by omega)]; rfl)
        have hbk := HBKR.out
        have z0 := cell_of_row wr w.heap.size 0 _ _ _ hbk
        have z1 := cell_of_row wr w.heap.size 1 _ _ _ hbk
        have z2 := cell_of_row wr w.heap.size 2 _ _ _ hbk
        have z3 := cell_of_row wr w.heap.size 3 _ _ _ hbk
        have zf := fun o => frozen_of_row wr w.heap.size o _ _ hbk
        simp at z0 z1 z2 z3
        clear hbk
        go_wp2_with fail
        refine bodyPost_ret (v := .tuple #[.agg #[.int .i64 0, .int .i64 0, .int .i64 0, .int .i64 0], .bool false]) ?_ rfl ?_
        · simp [results, Try.results54, go_sem, z0, z1, z2, z3]
        · refine ⟨by rw [HEV.out, HL.out, HN.out]; rfl, ?_⟩
          (repeat (with_reducible refine Below.setCell ?_ ?_ _; rotate_left; focus (simp; done)))
          exact HBW.out.trans (HBR.out.mono (by omega))
end Go.Proofs.Ytigkcbnlbdiimaa

/- corncriblaw27.made; place.New. -/
namespace Go.Proofs.Ytigkcbnlbdiimaa
open Go.RowKit
/-- What made gives. -/
def MadeOut (w : World) (cs : List Cmd) (e : Ending) (w' : World) : Prop :=
  ∃ bm v xv, e = .returned (.tuple #[.pointer (some ⟨bm, 0, none⟩), xv]) ∧ MapAt w' w.heap.size bm v (doAll [] cs) ∧ w'.ownsRow w.heap.size 128 6 xv (doAll [] cs).length ((doAll [] cs).flatMap Ent.row) ∧ Below w.heap.size w w'
set_option maxRecDepth 100000 in
set_option maxHeartbeats 4000000 in
theorem made_any (ao : Option Addr) (n cap : Nat) (cs : List Cmd) (w : World) (hl : cs.length = n) (hn : n ≤ 60) (hA : 0 < n → ∃ b off, ao = some ⟨b, off, none⟩ ∧ b < w.heap.size ∧ CmdsAt w b off cs) :
    Calls Try.prog 42 #[.slice ao n cap] w (MadeOut w cs) := by
  have HL := Lib.hid hl
  have HA := Lib.hid hA
  clear hl hA
  go_enter Try.func42, Try.ntmps42
  go_wp2_with fail
  refine (new_any _).mono ?_
  rintro e w1 ⟨rfl, rfl⟩
  go_wp2_with fail
  go_loopw [5, 6] (fun x i wr => ∃ (k : Nat) (xv v : Value), k ≤ n ∧ i = .int .i64 k ∧ x = xv ∧ MapAt wr w.heap.size w.heap.size v (doAll [] (cs.take k)) ∧ wr.ownsRow w.heap.size 128 6 xv (doAll [] (cs.take k)).length ((doAll [] (cs.take k)).flatMap Ent.row) ∧ Below w.heap.size w wr) (fun _ i _ => n - (intOf i).toNat)
  case atStart => exact ⟨0, _, .slice none 0 0, Nat.zero_le _, rfl, rfl, ⟨heap_alloc_new _ _, World.ownsRow_nil _ _ _ _, Nat.le_refl _, by simp [Value.ownBlock], by simp [doAll]⟩, World.ownsRow_nil _ _ _ _, (by repeat (first | (with_reducible exact Below.refl _ _) | (with_reducible refine Below.setCell ?_ ?_ _) | (with_reducible refine Below.alloc ?_ ?_ _) | (with_reducible refine Below.drewN ?_ _) | (with_reducible refine Below.drew ?_) | (with_reducible exact Nat.le_refl _) | (focus (simp only [World.size_alloc, World.size_setCell, World.size_drew, World.size_drewN]; omega)) | omega | exact Nat.le_refl _ | (focus (simp; done)) | (focus (simp; omega))))⟩
  case round =>
    obtain ⟨i, x, v, hi, rfl, hx, hmap, hown, hb⟩ := hrel
    have hx' := hx.symm
    clear hx
    subst hx'
    have HM := Lib.hid hmap
    have HX := Lib.hid hown
    have HB := Lib.hid hb
    have hzr := hb.size
    clear hmap hown hb
    by_cases hlt : i < n
    · obtain ⟨c, hc⟩ : ∃ c, cs[i]? = some c := ⟨_, List.getElem?_eq_getElem (by rw [HL.out]; exact hlt)⟩
      have HTK := Lib.hid (take_snoc_get cs i c hc)
      obtain ⟨b, off, rfl, hbb, hC⟩ := HA.out (by omega)
      obtain ⟨q0, q1, q2, q3, q4, q5, q6, q7⟩ := hC i c hc
      have eb := fun o => HB.out.cell (p := ⟨b, o, none⟩) hbb
      have k0 := (eb _).trans q0
      have k1 := (eb _).trans q1
      have k2 := (eb _).trans q2
      have k3 := (eb _).trans q3
      have k4 := (eb _).trans q4
      have k5 := (eb _).trans q5
      have k6 := (eb _).trans q6
      have k7 := (eb _).trans q7
      have hdl : (doAll [] (cs.take i)).length ≤ 4096 := by have := doAll_few (cs.take i) []; simp at this; omega
      obtain ⟨es, hes⟩ : ∃ es, es = doAll [] (cs.take i) := ⟨_, rfl⟩
      have HES := Lib.hid hes
      rw [← hes] at HM HX hdl
      have HDL := Lib.hid hdl
      clear hc hC eb hes hdl
      have hi0 : (0 : Int) ≤ (i : Int) := by omega
      have hi1 : (i : Int) < (n : Int) := by omega
      obtain ⟨ck, cv, ce, cp, cn, c0, c1, c2⟩ := c
      go_wp2_with fail
      refine (do_any _ _ v es ⟨ck, cv, ce, cp, cn, c0, c1, c2⟩ _ HM.out).mono ?_
      rintro e w5 hdo
      have hu := hdo.under HM.out (Nat.le_refl _) HB.out
      have hbs := hdo.beside HM.out HX.out
      obtain ⟨rfl, v5, hm5, _, _⟩ := hdo
      have HM5 := Lib.hid hm5
      have HX5 := Lib.hid hbs
      have HB5 := Lib.hid hu
      have hz5 := hu.size
      have eb := fun o => hu.cell (p := ⟨b, o, none⟩) hbb
      have j0 := (eb _).trans q0
      have j1 := (eb _).trans q1
      have j2 := (eb _).trans q2
      have j3 := (eb _).trans q3
      have j4 := (eb _).trans q4
      have j5 := (eb _).trans q5
      have j6 := (eb _).trans q6
      have j7 := (eb _).trans q7
      clear hm5 hbs hu eb q0 q1 q2 q3 q4 q5 q6 q7
      go_wp2_with fail
      refine (ref_do_any w.heap.size x es ⟨ck, cv, ce, cp, cn, c0, c1, c2⟩ _ HX5.out HDL.out (by omega)).mono ?_
      rintro e w6 ⟨v6, rfl, hr6, hb6⟩
      have HX6 := Lib.hid hr6
      have HM6 := Lib.hid (HM5.out.below hb6)
      have HB6 := Lib.hid (HB5.out.trans (hb6.mono hz5))
      clear hr6 hb6
      go_wp2_with fail
      go_roundw
      case rel =>
        have hs : doAll [] (cs.take (i + 1)) = doEs es ⟨ck, cv, ce, cp, cn, c0, c1, c2⟩ := by rw [HTK.out, doAll_snoc, ← HES.out]
        refine ⟨i + 1, v6, v5, by omega, by go_num, rfl, ?_, ?_, HB6.out⟩
        · rw [hs]; exact HM6.out
        · rw [hs]; exact HX6.out
      case measure => simp [intOf]; omega
    · have hcs : cs.take i = cs := List.take_of_length_le (by rw [HL.out]; omega)
      rw [hcs] at HM HX
      clear hcs
      go_wp2_with fail
      go_ret2
      exact ⟨_, v, _, rfl, HM.out, HX.out, HB.out⟩
set_option maxHeartbeats 1000000 in
theorem pnew_bad (base bm : Nat) (v va : Value) (es : List Ent) (ns : List Int) (w : World) (h : MapAt w base bm v es) (hr : Reads w 1 va ns.length (ns.map (Value.int .i64))) (hcap : ∀ a n c, va = .slice a n c → n ≤ c) (hok : rightB ns = false) :
    Calls Try.prog 48 #[.pointer (some ⟨bm, 0, none⟩), va] w fun e w' => e = .returned (.tuple #[.int .i64 0, errV 1]) ∧ Below w.heap.size w w' := by
  have HN := Lib.hid (errV_ne (k := 1) (by omega))
  have HO := Lib.hid (pick_bad base bm v va es ns w h hr hcap hok)
  clear h hr hcap hok
  go_enter Try.func48, Try.ntmps48
  go_wp2_with fail
  refine HO.out.mono ?_
  rintro e w1 ⟨rfl, hb1⟩
  have HB := Lib.hid hb1
  have hz := hb1.size
  clear hb1
  rw [HN.out]
  go_wp2_with fail
  go_ret2
  exact ⟨by rw [HN.out]; rfl, HB.out.alloc hz _⟩
set_option maxHeartbeats 1000000 in
theorem pnew_few (base bm : Nat) (v va : Value) (es : List Ent) (ns : List Int) (w : World) (h : MapAt w base bm v es) (hno : NodesOk es) (hr : Reads w 1 va ns.length (ns.map (Value.int .i64))) (hcap : ∀ a n c, va = .slice a n c → n ≤ c) (hok : rightB ns = true) (hl : ns.length < 3) :
    Calls Try.prog 48 #[.pointer (some ⟨bm, 0, none⟩), va] w fun e w' => e = .returned (.tuple #[.int .i64 0, errV 11]) ∧ Below w.heap.size w w' := by
  have HN := Lib.hid (errV_ne (k := 11) (by omega))
  have HO := Lib.hid (pick_any base bm v va es ns w h hno hr hcap hok)
  have HL := Lib.hid hl
  clear h hr hcap hok hno hl
  go_enter Try.func48, Try.ntmps48
  go_wp2_with fail
  refine HO.out.mono ?_
  rintro e w1 ⟨a, b, c, rfl, _, hb1⟩
  have HB := Lib.hid hb1
  have hz := hb1.size
  clear hb1
  rw [if_pos HL.out, HN.out]
  go_wp2_with fail
  go_ret2
  exact ⟨by rw [HN.out]; rfl, HB.out.alloc hz _⟩
set_option maxRecDepth 100000 in
set_option maxHeartbeats 1000000 in
theorem pnew_any (base bm : Nat) (v va : Value) (es : List Ent) (ns : List Int) (w : World) (h : MapAt w base bm v es) (hno : NodesOk es) (hr : Reads w 1 va ns.length (ns.map (Value.int .i64))) (hcap : ∀ a n c, va = .slice a n c → n ≤ c) (hok : rightB ns = true) (hl : 3 ≤ ns.length) :
    Calls Try.prog 48 #[.pointer (some ⟨bm, 0, none⟩), va] w fun e w' => ∃ a b c w1, [a, b, c] = (sortI (fun k => (loadN es k : Int)) ns).take 3 ∧ Below w.heap.size w w1 ∧ DoOut w1 base bm v (doEs es ⟨1, 0, 0, 0, 0, a, b, c⟩) (doN es ⟨1, 0, 0, 0, 0, a, b, c⟩) (doK es ⟨1, 0, 0, 0, 0, a, b, c⟩) e w' := by
  have HO := Lib.hid (pick_any base bm v va es ns w h hno hr hcap hok)
  have HL := Lib.hid (show ¬ ns.length < 3 by omega)
  have H := Lib.hid h
  clear h hr hcap hok hno hl
  go_enter Try.func48, Try.ntmps48
  go_wp2_with fail
  refine HO.out.mono ?_
  rintro e w1 ⟨a, b, c, rfl, habc, hb1⟩
  rw [if_neg HL.out] at habc
  have HABC := Lib.hid habc
  have HB := Lib.hid hb1
  have hz := hb1.size
  clear hb1 habc
  rw [if_neg HL.out, show errV 0 = .nilIface from rfl]
  go_wp2_with fail
  refine (do_any base bm v es ⟨1, 0, 0, 0, 0, a, b, c⟩ _ ((H.out.below HB.out).below (by repeat (first | (with_reducible exact Below.refl _ _) | (with_reducible refine Below.setCell ?_ ?_ _) | (with_reducible refine Below.alloc ?_ ?_ _) | (with_reducible refine Below.drewN ?_ _) | (with_reducible refine Below.drew ?_) | (with_reducible exact Nat.le_refl _) | (focus (simp only [World.size_alloc, World.size_setCell, World.size_drew, World.size_drewN]; omega)) | omega | exact Nat.le_refl _ | (focus (simp; done)) | (focus (simp; omega)))))).mono ?_
  rintro e w2 hdo
  obtain ⟨rfl, hrest⟩ := hdo
  have HR := Lib.hid hrest
  clear hrest
  go_wp2_with fail
  go_ret2
  exact ⟨a, b, c, _, HABC.out, HB.out.alloc hz _, rfl, HR.out⟩
end Go.Proofs.Ytigkcbnlbdiimaa

/- corncriblaw27.alive. -/
namespace Go.Proofs.Ytigkcbnlbdiimaa
open Go.RowKit
theorem reads_lit (w : World) (us : List Value) (T n c B : Nat) (hn : us.length = n) (h : n ≤ maxLen) (hB : w.heap.size = B) : Reads (w.alloc (.cells us.toArray T)) 1 (.slice (some ⟨B, 0, none⟩) n c) n us := by
  subst hB
  exact ⟨by simp [hn], .inr ⟨_, _, rfl, h, World.news_of_block (heap_alloc_new w _)⟩⟩
theorem MapAt.made_at (w : World) (base B : Nat) (hB : w.heap.size = B) (hb : base ≤ B) : MapAt (w.alloc (.cells #[.slice none 0 0] 105)) base B (.slice none 0 0) [] := by
  subst hB
  exact MapAt.made w base hb
@[go_sem] theorem eq3_top (a b c x y z : Int) (w : World) :
    (Op.equalIn 10000 30 (.agg #[.int .i64 a, .int .i64 b, .int .i64 c]) (.agg #[.int .i64 x, .int .i64 y, .int .i64 z])).run Try.prog w = .ok (a == x && (b == y && c == z)) w := eq3 9998 a b c x y z w
theorem nodes_nil : NodesOk [] := fun x hx => by simp at hx
theorem sort_alive : sortI (fun k => (loadN [] k : Int)) [5, 3, 9, 4] = [3, 4, 5, 9] := by rw [← refOrd_eq]; decide
set_option maxRecDepth 100000 in
set_option maxHeartbeats 1000000 in
theorem alive27 (w : World) : Calls Try.prog 41 #[] w fun e w' => e = .returned (.bool true) ∧ Below w.heap.size w w' := by
  go_enter Try.func41, Try.ntmps41
  go_wp2_with fail
  refine (new_any _).mono ?_
  rintro e w1 ⟨rfl, rfl⟩
  go_wp2_with fail
  refine (pick_any w.heap.size w.heap.size (.slice none 0 0) _ [] [5, 3, 9, 4] _ ((MapAt.made w _ (Nat.le_refl _)).below (by repeat (first | (with_reducible exact Below.refl _ _) | (with_reducible refine Below.setCell ?_ ?_ _) | (with_reducible refine Below.alloc ?_ ?_ _) | (with_reducible refine Below.drewN ?_ _) | (with_reducible refine Below.drew ?_) | (with_reducible exact Nat.le_refl _) | (focus (simp only [World.size_alloc, World.size_setCell, World.size_drew, World.size_drewN]; omega)) | omega | exact Nat.le_refl _ | (focus (simp; done)) | (focus (simp; omega))))) nodes_nil (reads_lit _ [.int .i64 5, .int .i64 3, .int .i64 9, .int .i64 4] _ 4 4 _ rfl (by unfold maxLen; omega) (by simp)) (fun a n c h => by simp only [Value.slice.injEq] at h; omega) rfl).mono ?_
  rintro e w2 ⟨a, b, c, rfl, habc, hb2⟩
  have hn : ¬ ([5, 3, 9, 4] : List Int).length < 3 := by decide
  rw [if_neg hn] at habc ⊢
  rw [sort_alive] at habc
  simp only [List.take, List.cons.injEq, and_true] at habc
  obtain ⟨rfl, rfl, rfl⟩ := habc
  have HB2 := Lib.hid (show Below w.heap.size w w2 from Below.trans (by repeat (first | (with_reducible exact Below.refl _ _) | (with_reducible refine Below.setCell ?_ ?_ _) | (with_reducible refine Below.alloc ?_ ?_ _) | (with_reducible refine Below.drewN ?_ _) | (with_reducible refine Below.drew ?_) | (with_reducible exact Nat.le_refl _) | (focus (simp only [World.size_alloc, World.size_setCell, World.size_drew, World.size_drewN]; omega)) | omega | exact Nat.le_refl _ | (focus (simp; done)) | (focus (simp; omega)))) (hb2.mono (by simp; omega)))
  have hz2 := HB2.out.size
  clear hb2 hn
  rw [errV_zero]
  go_wp2_with fail
  refine (new_any _).mono ?_
  rintro e w3 ⟨rfl, rfl⟩
  go_wp2_with fail
  refine (pick_any w2.heap.size (w2.heap.size + 1) (.slice none 0 0) _ [] [5, 3] _ ((MapAt.made_at (w2.alloc (.cells #[.int .i64 3, .int .i64 4, .int .i64 5] 30)) _ _ (by exact World.size_alloc _ _) (by omega)).below (by exact Below.alloc (Below.refl _ _) (Nat.le_refl _) _)) nodes_nil (reads_lit _ [.int .i64 5, .int .i64 3] _ 2 2 _ rfl (by unfold maxLen; omega) (by simp)) (fun a n c h => by simp only [Value.slice.injEq] at h; omega) rfl).mono ?_
  rintro e w3 ⟨a, b, c, rfl, habc, hb3⟩
  have hn : ([5, 3] : List Int).length < 3 := by decide
  rw [if_pos hn] at habc ⊢
  obtain ⟨rfl, rfl, rfl⟩ := habc
  have hz23 := hb3.size
  simp only [World.size_alloc] at hz23
  have hbk := hb3.block w2.heap.size (by simp only [World.size_alloc]; omega)
  have hb2' : ((w2.alloc (.cells #[.int .i64 3, .int .i64 4, .int .i64 5] 30)).alloc (.cells #[.slice none 0 0] 105)).alloc (.cells #[.int .i64 5, .int .i64 3] 3) = ((w2.alloc (.cells #[.int .i64 3, .int .i64 4, .int .i64 5] 30)).alloc (.cells #[.slice none 0 0] 105)).alloc (.cells #[.int .i64 5, .int .i64 3] 3) := rfl
  rw [Below.heap_alloc _ _ _ (by simp only [World.size_alloc]; omega), Below.heap_alloc _ _ _ (by simp only [World.size_alloc]; omega), heap_alloc_new] at hbk
  have z0 := cell_of_row w3 w2.heap.size 0 _ _ _ hbk
  have z1 := cell_of_row w3 w2.heap.size 1 _ _ _ hbk
  have z2 := cell_of_row w3 w2.heap.size 2 _ _ _ hbk
  simp at z0 z1 z2
  have HB3 := Lib.hid (show Below w.heap.size w w3 from HB2.out.trans (Below.trans (b := ((w2.alloc (.cells #[.int .i64 3, .int .i64 4, .int .i64 5] 30)).alloc (.cells #[.slice none 0 0] 105)).alloc (.cells #[.int .i64 5, .int .i64 3] 3)) (by repeat (first | (with_reducible exact Below.refl _ _) | (with_reducible refine Below.setCell ?_ ?_ _) | (with_reducible refine Below.alloc ?_ ?_ _) | (with_reducible refine Below.drewN ?_ _) | (with_reducible refine Below.drew ?_) | (with_reducible exact Nat.le_refl _) | (focus (simp only [World.size_alloc, World.size_setCell, World.size_drew, World.size_drewN]; omega)) | omega | exact Nat.le_refl _ | (focus (simp; done)) | (focus (simp; omega)))) (hb3.mono (by simp; omega))))
  have hz3 := HB3.out.size
  have hz24 : w2.heap.size < w3.heap.size := by omega
  clear hb3 hbk hn hb2' hz23
  have HN := Lib.hid (errV_ne (k := 11) (by omega))
  go_wp2_with fail
  refine (code_any 0 (by omega) (by omega) _).mono ?_
  rintro e w4 ⟨rfl, rfl⟩
  go_wp2_with fail
  refine (code_any 11 (by omega) (by omega) _).mono ?_
  rintro e w4 ⟨rfl, rfl⟩
  go_wp2_with fail
  go_ret
  exact ⟨rfl, HB3.out.alloc hz3 _⟩
end Go.Proofs.Ytigkcbnlbdiimaa

/- DirsParts: what its counts come to, in plain words. No program. -/
namespace Go.Proofs.Ytigkcbnlbdiimaa
open Go.RowKit
/-- The nodes of a volume are no two alike, and from 0 to 255. -/
def Sound (es : List Ent) : Prop := ∀ (i : Nat) (x : Ent), es[i]? = some x → x.n0 ≠ x.n1 ∧ x.n1 ≠ x.n2 ∧ x.n0 ≠ x.n2 ∧ 0 ≤ x.n0 ∧ x.n0 ≤ 255 ∧ 0 ≤ x.n1 ∧ x.n1 ≤ 255 ∧ 0 ≤ x.n2 ∧ x.n2 ≤ 255
theorem placeB_iff (n : Int) : placeB n = true ↔ 0 ≤ n ∧ n ≤ 255 := by simp [placeB]
theorem sound_turn (x : Ent) (c : Cmd) (h : x.n0 ≠ x.n1 ∧ x.n1 ≠ x.n2 ∧ x.n0 ≠ x.n2 ∧ 0 ≤ x.n0 ∧ x.n0 ≤ 255 ∧ 0 ≤ x.n1 ∧ x.n1 ≤ 255 ∧ 0 ≤ x.n2 ∧ x.n2 ≤ 255) (ht : turnE x c = 0) (hk : c.kind = 2 ∨ c.kind = 3 ∨ c.kind = 4) :
    (turnX x c).n0 ≠ (turnX x c).n1 ∧ (turnX x c).n1 ≠ (turnX x c).n2 ∧ (turnX x c).n0 ≠ (turnX x c).n2 ∧ 0 ≤ (turnX x c).n0 ∧ (turnX x c).n0 ≤ 255 ∧ 0 ≤ (turnX x c).n1 ∧ (turnX x c).n1 ≤ 255 ∧ 0 ≤ (turnX x c).n2 ∧ (turnX x c).n2 ≤ 255 := by
  rcases hk with h2 | h3 | h4
  · simp only [turnX, h2, if_true]; exact h
  · have : ¬ (3 : Int) = 2 := by omega
    simp only [turnX, h3, if_true, this, if_false]; exact h
  · have n2 : ¬ (4 : Int) = 2 := by omega
    have n3 : ¬ (4 : Int) = 3 := by omega
    simp only [turnE, h4, n2, n3, if_true, if_false, errNode] at ht
    split at ht
    · cases ht
    · split at ht
      · cases ht
      · rename_i hs hc
        simp only [turnX, h4, n2, n3, if_true, if_false]
        have hp : 0 ≤ c.node ∧ c.node ≤ 255 := by
          cases hp : placeB c.node
          · exact absurd (.inr (.inr hp)) hs
          · exact (placeB_iff _).1 hp
        have c0 : ¬ x.n0 = c.node := fun h => hc (.inl h)
        have c1 : ¬ x.n1 = c.node := fun h => hc (.inr (.inl h))
        have c2 : ¬ x.n2 = c.node := fun h => hc (.inr (.inr h))
        have hs1 : ¬ c.spot < 0 := fun h => hs (.inl h)
        have hs2 : ¬ 3 ≤ c.spot := fun h => hs (.inr (.inl h))
        have hs0 : c.spot = 0 ∨ c.spot = 1 ∨ c.spot = 2 := by omega
        rcases hs0 with h | h | h
        all_goals
          simp only [h]
          refine ⟨?_, ?_, ?_, ?_, ?_, ?_, ?_, ?_, ?_⟩ <;> simp <;> omega
theorem sound_do (es : List Ent) (c : Cmd) (h : Sound es) : Sound (doEs es c) := by
  rcases do_ways es c with ⟨_, e, _⟩ | ⟨_, _, _, ht, e, _⟩ | ⟨_, j, x, hx, _, _, ht, hk, e, _⟩
  · rw [e]; exact h
  · rw [e]
    intro i y hy
    rw [List.getElem?_append] at hy
    split at hy
    · exact h i y hy
    · have hy' : y = ⟨(es.length : Int) + 1, 1, c.n0, c.n1, c.n2, false⟩ := by
        rcases Nat.lt_or_ge (i - es.length) 1 with h' | h'
        · have : i - es.length = 0 := by omega
          rw [this] at hy
          simpa using hy.symm
        · rw [List.getElem?_eq_none (by simpa using h')] at hy; cases hy
      subst hy'
      simp [threeB, placeB] at ht
      simp only [ne_eq]
      omega
  · rw [e]
    intro i y hy
    rw [List.getElem?_set] at hy
    split at hy
    · split at hy
      · cases hy
        exact sound_turn x c (h j x hx) ht hk
      · cases hy
    · exact h i y hy
theorem sound_all (cs : List Cmd) : ∀ (es : List Ent), Sound es → Sound (doAll es cs) := by
  induction cs with
  | nil => intro es h; exact h
  | cons c cs ih => intro es h; exact ih _ (sound_do es c h)
/-- How many volumes have a node, all nodes below m together. -/
def cntOn (es : List Ent) : Nat → Nat
  | 0 => 0
  | m + 1 => cntOn es m + (onVols (m : Int) es).length
def has1 (n : Int) (m : Nat) : Nat := if 0 ≤ n ∧ n < (m : Int) then 1 else 0
def hit (m : Nat) (x : Ent) : Nat := has1 x.n0 m + has1 x.n1 m + has1 x.n2 m
theorem onB_iff (node : Int) (x : Ent) : onB node x = true ↔ node = x.n0 ∨ node = x.n1 ∨ node = x.n2 := by
  simp [onB]
theorem hit_succ (m : Nat) (x : Ent) (h : x.n0 ≠ x.n1 ∧ x.n1 ≠ x.n2 ∧ x.n0 ≠ x.n2) : hit (m + 1) x = hit m x + if onB (m : Int) x = true then 1 else 0 := by
  have hs : ∀ n : Int, has1 n (m + 1) = has1 n m + if n = (m : Int) then 1 else 0 := by
    intro n
    unfold has1
    split <;> split <;> split <;> omega
  have e : (if onB (m : Int) x = true then 1 else 0) = (if x.n0 = (m : Int) then 1 else 0) + (if x.n1 = (m : Int) then 1 else 0) + (if x.n2 = (m : Int) then 1 else 0) := by
    obtain ⟨h1, h2, h3⟩ := h
    by_cases hb : onB (m : Int) x = true
    · rw [if_pos hb]
      rw [onB_iff] at hb
      split <;> split <;> split <;> omega
    · rw [if_neg hb]
      rw [onB_iff] at hb
      split <;> split <;> split <;> omega
  rw [e]
  simp only [hit, hs]
  omega
theorem cntOn_sum (es : List Ent) (h : Sound es) (m : Nat) : cntOn es m = (es.map (hit m)).sum := by
  induction m with
  | zero =>
    have : ∀ x, hit 0 x = 0 := fun x => by simp only [hit, has1]; repeat (first | omega | split)
    rw [show hit 0 = fun _ => 0 from funext this]
    have hz : ∀ l : List Ent, 0 = (l.map fun _ => 0).sum := fun l => by
      induction l with
      | nil => rfl
      | cons x l ih => simpa using ih
    rw [cntOn]
    exact hz es
  | succ m ih =>
    rw [cntOn, ih]
    clear ih
    induction es with
    | nil => simp [onVols]
    | cons x es ih =>
      have h0 := h 0 x rfl
      have h' : Sound es := fun i y hy => h (i + 1) y hy
      have := ih h'
      rw [List.map_cons, List.sum_cons, List.map_cons, List.sum_cons, hit_succ m x ⟨h0.1, h0.2.1, h0.2.2.1⟩, ← this]
      simp only [onVols, List.filter_cons]
      split <;> simp <;> omega
theorem cntOn_all (es : List Ent) (h : Sound es) : cntOn es 256 = 3 * es.length := by
  rw [cntOn_sum es h]
  induction es with
  | nil => rfl
  | cons x es ih =>
    obtain ⟨_, _, _, a1, a2, b1, b2, c1, c2⟩ := h 0 x rfl
    have h' : Sound es := fun i y hy => h (i + 1) y hy
    rw [List.map_cons, List.sum_cons, ih h', List.length_cons]
    have : hit 256 x = 3 := by
      unfold hit has1
      rw [if_pos (by omega), if_pos (by omega), if_pos (by omega)]
    omega
theorem cntOn_le (es : List Ent) (m : Nat) : cntOn es m ≤ m * es.length := by
  induction m with
  | zero => simp [cntOn]
  | succ m ih =>
    have := onVols_len (m : Int) es
    rw [cntOn, Nat.succ_mul]
    omega
/-- A volume that On tells is there, and has the node. -/
theorem onVols_at (E : Int) (node : Int) (es : List Ent) (hg : Good E es) (j : Nat) (vol : Int) (h : (onVols node es)[j]? = some vol) : ∃ (k : Nat) (x : Ent), vol = (k : Int) + 1 ∧ es[k]? = some x ∧ onB node x = true := by
  have hm := List.mem_of_getElem? h
  simp only [onVols, List.mem_map, List.mem_filter] at hm
  obtain ⟨x, ⟨hx, hb⟩, rfl⟩ := hm
  obtain ⟨k, hk, rfl⟩ := List.mem_iff_getElem.1 hx
  have hk' : es[k]? = some es[k] := List.getElem?_eq_getElem hk
  exact ⟨k, es[k], (hg k _ hk').1, hk', hb⟩
end Go.Proofs.Ytigkcbnlbdiimaa

/- DirsParts: the walk. -/
namespace Go.Proofs.Ytigkcbnlbdiimaa
open Go.RowKit
theorem cmd_info : (Try.prog.info? 32).map (fun i => (i.zero, i.size, i.bytes)) = some (some (.agg #[.int .i64 0, .int .i64 0, .int .i64 0, .int .i64 0, .int .i64 0, .int .i64 0, .int .i64 0, .int .i64 0]), 8, 64) := by kernel_rfl
/-- The cells of one command of an owned row. -/
theorem row_cmd {w : World} {base : Nat} {v : Value} {n : Nat} {cs : List Cmd} (hr : w.ownsRow base 32 8 v n (cs.flatMap Cmd.row)) (k : Nat) (x : Cmd) (hx : cs[k]? = some x) :
    ∃ g c, v = .slice (some ⟨g, 0, none⟩) n c ∧ g < w.heap.size ∧ base ≤ g ∧ k < n ∧
      w.cell? ⟨g, k * 8, none⟩ = some (.int .i64 x.kind) ∧ w.cell? ⟨g, k * 8 + 1, none⟩ = some (.int .i64 x.vol) ∧ w.cell? ⟨g, k * 8 + 2, none⟩ = some (.int .i64 x.epoch) ∧
      w.cell? ⟨g, k * 8 + 3, none⟩ = some (.int .i64 x.spot) ∧ w.cell? ⟨g, k * 8 + 4, none⟩ = some (.int .i64 x.node) ∧ w.cell? ⟨g, k * 8 + 5, none⟩ = some (.int .i64 x.n0) ∧
      w.cell? ⟨g, k * 8 + 6, none⟩ = some (.int .i64 x.n1) ∧ w.cell? ⟨g, k * 8 + 7, none⟩ = some (.int .i64 x.n2) := by
  have hk : k < cs.length := (List.getElem?_eq_some_iff.1 hx).1
  have hlen := hr.1
  rw [length_flatMap_row Cmd.row 8 Cmd.row_len] at hlen
  have hlt := hr.lt
  rcases hr.2 with ⟨_, hz⟩ | ⟨g, cap, cur, rfl, hg, _⟩
  · omega
  · have hg1 := hlt g rfl
    have hc := fun j hj => ownsRow_cell Cmd.row 8 Cmd.row_len cs hr k j x hx hj
    refine ⟨g, cap, rfl, hg1.2, hg1.1, by omega, ?_, ?_, ?_, ?_, ?_, ?_, ?_, ?_⟩
    · exact hc 0 (by omega)
    · exact hc 1 (by omega)
    · exact hc 2 (by omega)
    · exact hc 3 (by omega)
    · exact hc 4 (by omega)
    · exact hc 5 (by omega)
    · exact hc 6 (by omega)
    · exact hc 7 (by omega)
/-- .. all of them, as a contract of commands asks. -/
theorem cmds_row {w : World} {base : Nat} {a : Option Addr} {n c : Nat} {cs : List Cmd} (hr : w.ownsRow base 32 8 (.slice a n c) n (cs.flatMap Cmd.row)) (h0 : 0 < n) :
    ∃ g, a = some ⟨g, 0, none⟩ ∧ g < w.heap.size ∧ base ≤ g ∧ CmdsAt w g 0 cs := by
  have hlt := hr.lt
  rcases hr.2 with ⟨_, hz⟩ | ⟨g, cap, cur, e, hg, _⟩
  · omega
  · obtain ⟨rfl, -, rfl⟩ := slice_inj e
    have hg1 := hlt g rfl
    refine ⟨g, rfl, hg1.2, hg1.1, fun i x hx => ?_⟩
    obtain ⟨g', c', e', _, _, _, hcs⟩ := row_cmd hr i x hx
    obtain ⟨e1, -, -⟩ := slice_inj e'
    simp at e1
    subst e1
    simpa using hcs
theorem CmdsAt.take {w : World} {b off : Nat} {cs : List Cmd} (h : CmdsAt w b off cs) (k : Nat) : CmdsAt w b off (cs.take k) := fun i c hc => by
  refine h i c ?_
  rw [List.getElem?_take] at hc
  split at hc
  · exact hc
  · cases hc
theorem CmdsAt.below {w w' : World} {b off : Nat} {cs : List Cmd} (h : CmdsAt w b off cs) {B : Nat} (hb : Below B w w') (hlt : b < B) : CmdsAt w' b off cs := fun i c hc => by
  obtain ⟨h0, h1, h2, h3, h4, h5, h6, h7⟩ := h i c hc
  have e := fun o => hb.cell (p := ⟨b, o, none⟩) hlt
  exact ⟨(e _).trans h0, (e _).trans h1, (e _).trans h2, (e _).trans h3, (e _).trans h4, (e _).trans h5, (e _).trans h6, (e _).trans h7⟩
theorem flatMap_snoc {α β : Type} (f : α → List β) (l : List α) (k : Nat) (x : α) (hx : l[k]? = some x) : (l.take (k + 1)).flatMap f = (l.take k).flatMap f ++ f x := by
  rw [take_snoc_get l k x hx]
  simp
theorem emod_nat (x n : Nat) : ((x : Int) % ((n : Int) + 1)) = ((x % (n + 1) : Nat) : Int) := by
  rw [Int.natCast_emod]; rfl
set_option maxRecDepth 100000 in
set_option maxHeartbeats 8000000 in
theorem parts_any (ao : Option Addr) (n cap : Nat) (cs : List Cmd) (at0 : Nat) (hat : at0 ≤ 255) (w : World) (hl : cs.length = n) (hn : n ≤ 100) (hA : 0 < n → ∃ b off, ao = some ⟨b, off, none⟩ ∧ b < w.heap.size ∧ CmdsAt w b off cs) :
    Calls Try.prog 5 #[.slice ao n cap, .int .u8 at0] w fun e w' => e = .returned (.bool true) ∧ Below w.heap.size w w' := by
  have HL := Lib.hid hl
  have HA := Lib.hid hA
  clear hl hA
  obtain ⟨i0, hi, hz0, hz1, hz2⟩ := info_parts cmd_info
  have HI := Lib.hid hi
  have HZ0 := Lib.hid hz0
  have HZ1 := Lib.hid hz1
  have HZ2 := Lib.hid hz2
  clear hi hz0 hz1 hz2
  have hd100 : decide ((100 : Int) < (n : Int)) = false := by simp; omega
  go_enter Try.func5, Try.ntmps5
  go_wp2_with fail
  refine (alive19 _).mono ?_
  rintro e w1 ⟨rfl, hb1⟩
  have hz1 := hb1.size
  have HB1 := Lib.hid hb1
  clear hb1
  go_wp2_with fail
  go_loopw [5, 6] (fun c i wr => ∃ k : Nat, k ≤ n ∧ i = .int .i64 k ∧ wr.ownsRow w.heap.size 32 8 c k ((cs.take k).flatMap Cmd.row) ∧ Below w.heap.size w wr) (fun _ i _ => n - (intOf i).toNat)
  case atStart => exact ⟨0, Nat.zero_le _, rfl, World.ownsRow_nil _ _ _ _, HB1.out⟩
  case round =>
    obtain ⟨i, hi, rfl, hown, hbw⟩ := hrel
    have HOW := Lib.hid hown
    have HBW := Lib.hid hbw
    have hzr := hbw.size
    obtain ⟨ac, cc, rfl⟩ := ownsRow_len hown
    clear hown hbw
    by_cases hlt : i < n
    · obtain ⟨c, hc⟩ : ∃ c, cs[i]? = some c := ⟨_, List.getElem?_eq_getElem (by rw [HL.out]; exact hlt)⟩
      obtain ⟨b, off, rfl, hb, hC⟩ := HA.out (by omega)
      obtain ⟨q0, q1, q2, q3, q4, q5, q6, q7⟩ := hC i c hc
      clear hC
      have k0 := (HBW.out.cell (p := ⟨b, off + i * 8, none⟩) hb).trans q0
      have k1 := (HBW.out.cell (p := ⟨b, off + i * 8 + 1, none⟩) hb).trans q1
      have k2 := (HBW.out.cell (p := ⟨b, off + i * 8 + 2, none⟩) hb).trans q2
      have k3 := (HBW.out.cell (p := ⟨b, off + i * 8 + 3, none⟩) hb).trans q3
      have k4 := (HBW.out.cell (p := ⟨b, off + i * 8 + 4, none⟩) hb).trans q4
      have k5 := (HBW.out.cell (p := ⟨b, off + i * 8 + 5, none⟩) hb).trans q5
      have k6 := (HBW.out.cell (p := ⟨b, off + i * 8 + 6, none⟩) hb).trans q6
      have k7 := (HBW.out.cell (p := ⟨b, off + i * 8 + 7, none⟩) hb).trans q7
      have hbr : b < wr.heap.size := by omega
      have HT := Lib.hid (flatMap_snoc Cmd.row cs i c hc)
      obtain ⟨ck, cv, ce, cp, cn, c0, c1, c2⟩ := c
      clear hc q0 q1 q2 q3 q4 q5 q6 q7
      go_wp2_with (at_builtin; refine wpList_append_own _ rfl _ _ 46 rfl w.heap.size 32 i0 (.agg #[.int .i64 0, .int .i64 0, .int .i64 0, .int .i64 0, .int .i64 0, .int .i64 0, .int .i64 0, .int .i64 0]) 8 64 Try.underlying46 HI.out HZ0.out HZ1.out HZ2.out rfl (by decide) (.slice ac i cc) i _ rfl (HOW.out.alloc _) ⟨wr.heap.size, 0, none⟩ 1 1 [.int .i64 ck, .int .i64 cv, .int .i64 ce, .int .i64 cp, .int .i64 cn, .int .i64 c0, .int .i64 c1, .int .i64 c2] rfl rfl (World.news_of_block (heap_alloc_new wr _)) (by simp [Value.oneCell']) (by unfold maxLen; omega) (by omega) (by simp; omega) ?_; intro v' w5 hown' hgrow _; have HOX := Lib.hid hown'; have HGX := Lib.hid hgrow; clear hown' hgrow)
      go_roundw
      case rel => exact ⟨i + 1, by omega, by go_num, by rw [HT.out]; exact HOX.out, (HBW.out.alloc hzr _).grown HGX.out (by simp; omega) (fun g hg => (HOW.out.lt g hg).1)⟩
      case measure => simp [intOf]; omega
    · have hin : i = n := by omega
      subst hin
      have HOC := Lib.hid (show wr.ownsRow w.heap.size 32 8 (.slice ac i cc) i (cs.flatMap Cmd.row) from by
        have := HOW.out
        rwa [List.take_of_length_le (by rw [HL.out]; omega)] at this)
      clear hlt HOW
      obtain ⟨kk, hkk⟩ : ∃ kk, at0 % (i + 1) = kk := ⟨_, rfl⟩
      have hki : kk ≤ i := by have := Nat.mod_lt at0 (show 0 < i + 1 by omega); omega
      have HMC := Lib.hid (emod_nat at0 i)
      have HKK := Lib.hid hkk
      clear hkk
      have hcc : i ≤ cc := by
        rcases HOC.out.2 with ⟨e, h0⟩ | ⟨g, cap', cur, e, _, _, h1, _⟩
        · omega
        · obtain ⟨_, _, rfl⟩ := slice_inj e
          exact h1
      have hcm : cc ≤ 9223372036854775807 := by
        rcases HOC.out.2 with ⟨e, h0⟩ | ⟨g, cap', cur, e, _, _, _, h1, _⟩
        · obtain ⟨_, _, rfl⟩ := slice_inj e; omega
        · obtain ⟨_, _, rfl⟩ := slice_inj e
          exact h1
      have hkc : (kk : Int) ≤ (cc : Int) := by omega
      have HCA := Lib.hid (fun h0 => cmds_row HOC.out h0)
      go_wp2_with fail
      rw [HMC.out, HKK.out]
      refine (replay_any ac i cc cs _ HL.out (by omega) (fun h0 => by obtain ⟨g, h1, h2, _, h3⟩ := HCA.out h0; exact ⟨g, 0, h1, h2, h3⟩)).mono ?_
      rintro e w2 ⟨rfl, ⟨va, hma⟩, hb2⟩
      have HMA := Lib.hid hma
      have HB2 := Lib.hid hb2
      have hz2 := hb2.size
      have HOC2 := Lib.hid (ownsRow_below HOC.out hb2)
      clear hma hb2
      have HLA := Lib.hid (cntAll_le [] cs)
      have hta : (cntAll [] cs : Int) ≤ 100 := by have := HLA.out; have := HL.out; omega
      obtain ⟨ta, hta'⟩ : ∃ t, cntAll [] cs = t := ⟨_, rfl⟩
      have HTA := Lib.hid hta'
      rw [hta'] at hta ⊢
      clear hta'
      go_wp2_with fail
      refine (replay_any ac kk cc (cs.take kk) _ (by rw [List.length_take, HL.out]; omega) (by omega) (fun h0 => by
        obtain ⟨g, h1, h2, _, h3⟩ := HCA.out (by omega)
        exact ⟨g, 0, h1, by have := HB2.out.size; omega, (h3.below HB2.out h2).take kk⟩)).mono ?_
      rintro e w3 ⟨rfl, ⟨vb, hmb⟩, hb3⟩
      have HMB := Lib.hid hmb
      have HB3 := Lib.hid hb3
      have hz3 := hb3.size
      have HMA3 := Lib.hid (HMA.out.below hb3)
      have HOC3 := Lib.hid (ownsRow_below HOC2.out hb3)
      have HW3 := Lib.hid ((HBW.out.trans (HB2.out.mono hzr)).trans (hb3.mono (Nat.le_trans hzr hz2)))
      clear hmb hb3
      have HLB := Lib.hid (cntAll_le [] (cs.take kk))
      obtain ⟨wo, rfl⟩ : ∃ wo : World, wo = wr := ⟨_, rfl⟩
      go_wp2_with fail
      go_loopw [11, 12] (fun t j wx => ∃ k : Nat, k ≤ i ∧ j = .int .i64 k ∧ t = .int .i64 (cntAll [] (cs.take k) : Nat) ∧ (∃ v, MapAt wx w2.heap.size w2.heap.size v (doAll [] (cs.take k))) ∧ Below w2.heap.size w2 wx) (fun _ j _ => i - (intOf j).toNat)
      case atStart => exact ⟨kk, hki, rfl, rfl, ⟨_, HMB.out⟩, HB3.out⟩
      case round =>
        obtain ⟨k, hk, rfl, rfl, ⟨v, hm⟩, hbw⟩ := hrel
        have HM := Lib.hid hm
        have HBX := Lib.hid hbw
        have hzx := hbw.size
        clear hm hbw
        by_cases hlt2 : k < i
        · obtain ⟨c, hc⟩ : ∃ c, cs[k]? = some c := ⟨_, List.getElem?_eq_getElem (by rw [HL.out]; exact hlt2)⟩
          obtain ⟨g, cg, e1, hg, _, _, k0, k1, k2, k3, k4, k5, k6, k7⟩ := row_cmd (ownsRow_at HOC2.out (fun b hb => HBX.out.block b (HOC2.out.lt b hb).2)) k c hc
          obtain ⟨rfl, -, rfl⟩ := slice_inj e1
          have HT := Lib.hid (take_snoc_get cs k c hc)
          have HCS := Lib.hid (cntAll_snoc [] (cs.take k) c)
          have HDS := Lib.hid (doAll_snoc [] (cs.take k) c)
          have hcl : (cntAll [] (cs.take k) : Int) ≤ 100 := by
            have := cntAll_le [] (cs.take k)
            simp at this
            omega
          have hcl0 : (0 : Int) ≤ (cntAll [] (cs.take k) : Int) := by omega
          have hdk := doK_le (doAll [] (cs.take k)) c
          clear hc e1
          generalize cntAll [] (cs.take k) = t at *
          generalize doAll [] (cs.take k) = es at *
          obtain ⟨nd, hnd⟩ : ∃ nd, doN es c = nd := ⟨_, rfl⟩
          have HND := Lib.hid hnd
          obtain ⟨kd, hkd⟩ : ∃ kd : Nat, doK es c = kd := ⟨_, rfl⟩
          rw [hkd] at hdk
          have HKD := Lib.hid hkd
          clear hnd hkd
          go_wp2_with fail
          refine (do_at w2.heap.size w2.heap.size v es _ c nd kd _ HM.out rfl HND.out (by rw [HKD.out])).mono ?_
          rintro e w4 hd
          have HU := Lib.hid (hd.under (w0 := w2) HM.out (Nat.le_refl _) HBX.out)
          obtain ⟨rfl, v4, hm4, _, _⟩ := hd
          have HM4 := Lib.hid hm4
          clear hm4
          go_wp2_with fail
          refine (code_any _ (by omega) (by omega) _).mono ?_
          rintro e w5 ⟨rfl, rfl⟩
          by_cases hk0 : kd = 0
          · subst hk0
            go_wp2_with fail
            go_roundw
            case rel => exact ⟨k + 1, by omega, by go_num, by rw [HT.out, HCS.out, okN, if_pos HKD.out]; go_num, ⟨v4, by rw [HT.out, HDS.out]; exact HM4.out⟩, HU.out⟩
            case measure => simp [intOf]; omega
          · have hkb : ((kd : Int) == 0) = false := by rw [beq_eq_false_iff_ne]; omega
            have HK0 := Lib.hid hk0
            clear hk0
            go_wp2_with fail
            go_roundw
            case rel => exact ⟨k + 1, by omega, by go_num, by rw [HT.out, HCS.out, okN, if_neg (by rw [HKD.out]; exact HK0.out)]; rfl, ⟨v4, by rw [HT.out, HDS.out]; exact HM4.out⟩, HU.out⟩
            case measure => simp [intOf]; omega
        · have hke : cs.take k = cs := List.take_of_length_le (by rw [HL.out]; omega)
          rw [hke] at HM ⊢
          rw [HTA.out]
          clear hke
          have hgood : Good (1 + (i : Int)) (doAll [] cs) := by
            have := good_all cs 1 [] (fun i x hx => by simp at hx) (by omega) (by rw [HL.out]; omega)
            rwa [HL.out] at this
          have hsound := sound_all cs [] (fun i x hx => by simp at hx)
          have HMAx := Lib.hid (HMA.out.below (HBX.out))
          generalize doAll [] cs = es at *
          have HGD := Lib.hid hgood
          have HSD := Lib.hid hsound
          have hfew := HM.out.few
          clear hgood hsound
          go_wp2_with fail
          refine (bytes_any _ _ _ es (1 + (i : Int)) _ HMAx.out HGD.out (by omega)).mono ?_
          rintro e w4 ⟨v4, rfl, ho4, hb4⟩
          have HB4 := Lib.hid hb4
          have HR4 := Lib.hid (reads_of_owns ho4)
          have HMA4 := Lib.hid (HMAx.out.below hb4)
          have HM4 := Lib.hid (HM.out.below hb4)
          have hz4 := hb4.size
          clear ho4 hb4
          go_wp2_with fail
          refine (bytes_any _ _ _ es (1 + (i : Int)) _ HM4.out HGD.out (by omega)).mono ?_
          rintro e w5 ⟨v5, rfl, ho5, hb5⟩
          have HR5 := Lib.hid (reads_of_owns ho5)
          have HR45 := Lib.hid (HR4.out.below hb5)
          have HMA5 := Lib.hid (HMA4.out.below hb5)
          have HB5 := Lib.hid (HB4.out.trans (hb5.mono hz4))
          have hz5 := hb5.size
          clear ho5 hb5
          go_wp2_with fail
          refine (same_any _ _ _ _ _ HR45.out HR5.out).mono ?_
          rintro e w6 ⟨rfl, hb6⟩
          have HMA6 := Lib.hid (HMA5.out.below hb6)
          have HB6 := Lib.hid (HB5.out.trans (hb6.mono (Nat.le_trans hz4 hz5)))
          have hz6 := hb6.size
          clear hb6
          rw [decide_eq_true (rfl : mapBytes es = mapBytes es)]
          have HW6 := Lib.hid ((HBW.out.trans (HB2.out.mono hzr)).trans ((HBX.out.trans (HB6.out.mono hzx)).mono (Nat.le_trans hzr hz2)))
          obtain ⟨wp, hwp⟩ : ∃ wp : World, wr = wp := ⟨_, rfl⟩
          subst hwp
          go_wp2_with fail
          go_loopw [15, 16] (fun t j wx => ∃ m : Nat, m ≤ 256 ∧ j = .int .i64 m ∧ t = .int .i64 (cntOn es m : Nat) ∧ Below w6.heap.size w6 wx) (fun _ j _ => 256 - (intOf j).toNat)
          case atStart => exact ⟨0, by omega, rfl, rfl, Below.refl _ _⟩
          case round =>
            obtain ⟨m, hm, rfl, rfl, hbm⟩ := hrel
            have HBM := Lib.hid hbm
            have hzm := hbm.size
            have hcm1 : (cntOn es m : Int) ≤ 1048576 := by
              have h1 := cntOn_le es m
              have h2 : m * es.length ≤ 256 * 4096 := Nat.mul_le_mul hm hfew
              omega
            have hcm0 : (0 : Int) ≤ (cntOn es m : Int) := by omega
            clear hbm
            by_cases hlt3 : m < 256
            · have HCS := Lib.hid (show cntOn es (m + 1) = cntOn es m + (onVols (m : Int) es).length from rfl)
              go_wp2_with fail
              refine (on_any _ _ _ es (m : Int) _ (HMA6.out.below HBM.out)).mono ?_
              rintro e w7 ⟨v7, rfl, ho7, hb7⟩
              have HMA7 := Lib.hid ((HMA6.out.below HBM.out).below hb7)
              have HB7 := Lib.hid (HBM.out.trans (hb7.mono hzm))
              have HO7 := Lib.hid ho7
              have hz7 := hb7.size
              obtain ⟨a7, c7, rfl⟩ := ownsRow_len ho7
              have hol := onVols_len (m : Int) es
              clear ho7 hb7
              generalize cntOn es m = ct at *
              obtain ⟨wq, hwq⟩ : ∃ wq : World, wr = wq := ⟨_, rfl⟩
              subst hwq
              go_wp2_with fail
              go_loopw [15, 18] (fun t j wx => ∃ q : Nat, q ≤ (onVols (m : Int) es).length ∧ j = .int .i64 q ∧ t = .int .i64 ((ct + q : Nat) : Int) ∧ Below w7.heap.size w7 wx) (fun _ j _ => (onVols (m : Int) es).length - (intOf j).toNat)
              case atStart => exact ⟨0, by omega, rfl, rfl, Below.refl _ _⟩
              case round =>
                obtain ⟨q, hq, rfl, rfl, hbq⟩ := hrel
                have HBQ := Lib.hid hbq
                have hzq := hbq.size
                clear hbq
                by_cases hlt4 : q < (onVols (m : Int) es).length
                · obtain ⟨vol, hvol⟩ : ∃ vol, (onVols (m : Int) es)[q]? = some vol := ⟨_, List.getElem?_eq_getElem hlt4⟩
                  obtain ⟨kx, x, rfl, hx, hbx⟩ := onVols_at _ _ _ HGD.out q vol hvol
                  have ho7 := ownsRow_below HO7.out HBQ.out
                  have hown8 : ∃ g, a7 = some ⟨g, 0, none⟩ ∧ wr.cell? ⟨g, q, none⟩ = some (.int .i64 ((kx : Int) + 1)) := by
                    rcases ho7.2 with ⟨e, h0⟩ | ⟨g, cap', cur, e, _⟩
                    · omega
                    · obtain ⟨rfl, -, rfl⟩ := slice_inj e
                      refine ⟨g, rfl, ?_⟩
                      rw [ho7.cellAt q (by omega), List.getElem?_map, hvol]
                      rfl
                  obtain ⟨g, rfl, kq⟩ := hown8
                  rw [onB_iff] at hbx
                  have HX := Lib.hid hx
                  have HBXX := Lib.hid hbx
                  clear hx hbx hvol ho7
                  have hct : (ct : Int) + (q : Int) ≤ 2000000 := by omega
                  go_wp2_with fail
                  refine (find_yes _ _ _ es kx x _ (HMA7.out.below HBQ.out) HX.out).mono ?_
                  rintro e w8 ⟨rfl, hb8⟩
                  have HB8 := Lib.hid (HBQ.out.trans (hb8.mono hzq))
                  have hz8 := hb8.size
                  clear hb8
                  obtain ⟨xv, xe, xa, xb, xc, xs⟩ := x
                  go_wp2_with fail
                  refine (code_nil _).mono ?_
                  rintro e w9 ⟨rfl, rfl⟩
                  have hbx : (m : Int) = xa ∨ (m : Int) = xb ∨ (m : Int) = xc := HBXX.out
                  by_cases ha : xa = (m : Int)
                  · have hab : (xa != (m : Int)) = false := by rw [ha]; simp
                    clear ha hbx
                    go_wp2_with fail
                    go_roundw
                    case rel => exact ⟨q + 1, by omega, by go_num, by go_num, HB8.out.alloc (by omega) _⟩
                    case measure => simp [intOf]; omega
                  · have hab : (xa != (m : Int)) = true := by rw [bne_iff_ne]; exact ha
                    by_cases hb : xb = (m : Int)
                    · have hbb : (xb != (m : Int)) = false := by rw [hb]; simp
                      clear ha hb hbx
                      go_wp2_with fail
                      go_roundw
                      case rel => exact ⟨q + 1, by omega, by go_num, by go_num, HB8.out.alloc (by omega) _⟩
                      case measure => simp [intOf]; omega
                    · have hbb : (xb != (m : Int)) = true := by rw [bne_iff_ne]; exact hb
                      have hcb : (xc != (m : Int)) = false := by
                        have hc : xc = (m : Int) := by omega
                        rw [hc]; simp
                      clear ha hb hbx
                      go_wp2_with fail
                      go_roundw
                      case rel => exact ⟨q + 1, by omega, by go_num, by go_num, HB8.out.alloc (by omega) _⟩
                      case measure => simp [intOf]; omega
                · have hqe : q = (onVols (m : Int) es).length := by omega
                  have HQ := Lib.hid hqe
                  clear hqe
                  have hct : (ct : Int) + (q : Int) ≤ 2000000 := by omega
                  go_wp2_with fail
                  go_roundw
                  case rel => exact ⟨m + 1, by omega, by go_num, by rw [HCS.out, ← HQ.out], HB7.out.trans (HBQ.out.mono (by have := HB7.out.size; omega))⟩
                  case measure => simp [intOf]; omega
            · have hme : m = 256 := by omega
              subst hme
              rw [cntOn_all es HSD.out] at *
              go_wp2_with fail
              refine (all_any _ _ _ _ _ (HMA6.out.below HBM.out)).mono ?_
              rintro e w7 ⟨v7, rfl, ho7, _, hb7⟩
              obtain ⟨a7, c7, rfl⟩ := ownsRow_len ho7
              have HB7 := Lib.hid (HBM.out.trans (hb7.mono hzm))
              clear ho7 hb7
              go_wp2_with fail
              go_ret
              exact ⟨ret_bool (by simp), HW6.out.trans (HB7.out.mono HW6.out.size)⟩
end Go.Proofs.Ytigkcbnlbdiimaa
