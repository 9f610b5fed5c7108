/- place.order. -/
import Derived.Test.YtigkcbnlbdiimaaPlaceSort
namespace Go.Proofs.Ytigkcbnlbdiimaa
open Go.RowKit Go.Maps Go.Sort
/-- slices.Clone at []int,int. -/
theorem clone_info_int : (Try.prog.info? 3).map (fun i => (i.zero, i.size, i.bytes)) = some (some (.int .i64 0), 1, 8) := by kernel_rfl
set_option maxRecDepth 100000 in
set_option maxHeartbeats 1000000 in
theorem clone_int (v : Value) (n : Nat) (xs : List Value) (w : World) (h : Reads w 1 v n xs) (h1 : ∀ u ∈ xs, u.oneCell' = true) (hb : n * 8 ≤ 140737488355328) :
    Calls Try.prog 86 #[v] w (CloneOut w 3 1 v n xs) := by
  obtain ⟨i0, hi, hz0, hz1, hz2⟩ := info_parts clone_info_int
  obtain ⟨hlen, ⟨rfl, rfl⟩ | ⟨a, c, rfl, hm, hcell⟩⟩ := h
  · have hx : xs = [] := List.eq_nil_of_length_eq_zero (by simpa using hlen)
    subst hx
    clear hi hz0 hz1 hz2 hlen h1 hb
    have hne := fun (wx : World) => Lib.run_eql_slice_nil (P := Try.prog) wx 42 3 none 0 0 0 0 Try.underlying42
    go_enter Try.func86, Try.ntmps86
    go_wp2
    go_ret
    exact ⟨_, rfl, World.ownsRow_nil _ _ _ _, Iff.rfl, Below.refl _ _⟩
  · have hne := fun (wx : World) => Lib.run_eql_slice_nil (P := Try.prog) wx 42 3 (some a) n c 0 0 Try.underlying42
    have HI := Lib.hid hi
    have HZ0 := Lib.hid hz0
    have HZ1 := Lib.hid hz1
    have HZ2 := Lib.hid hz2
    have HL := Lib.hid hlen
    have HC := Lib.hid hcell
    have H1 := Lib.hid h1
    clear hi hz0 hz1 hz2 hlen hcell h1
    go_enter Try.func86, Try.ntmps86
    go_wp2_with (at_builtin; refine wpList_append_own _ rfl _ _ 42 rfl w.heap.size 3 i0 (.int .i64 0) 1 8 Try.underlying42 HI.out HZ0.out HZ1.out HZ2.out rfl (by decide) (.slice (some ⟨w.heap.size, 0, none⟩) 0 0) 0 [] rfl (World.ownsRow_lit w #[] 0 (Nat.le_refl _) (by unfold maxLen; omega) rfl) a n c xs rfl HL.out (fun j u hu => cell_later ((Below.refl _ _).alloc (Nat.le_refl _) _) (HC.out j u hu)) H1.out (by omega) (by omega) (by simp) ?_; intro v' w1 hown' hgrow hnil)
    go_ret
    exact ⟨_, rfl, by simpa using hown', by simpa using hnil, (((Below.refl _ _).alloc (Nat.le_refl _) _).grown hgrow (by simp) (by simp [Value.ownBlock]))⟩
def sortI (f : Int → Int) (ns : List Int) : List Int := ns.mergeSort fun x y => !ltP f y x
def toN (n : Int) : Fin 256 := Fin.ofNat 256 n.toNat
theorem toN_val {n : Int} (h : placeB n = true) : ((toN n).val : Int) = n := by
  simp [placeB] at h
  unfold toN
  simp only [Fin.ofNat]
  omega
theorem encN_toN {n : Int} (h : placeB n = true) : encN (toN n) = .int .i64 n := by
  unfold encN
  rw [toN_val h]
theorem right_nodes {ns : List Int} (h : rightB ns = true) : ns.length ≤ 64 ∧ ∀ x ∈ ns, placeB x = true := by
  simp only [rightB, prefOk, Bool.and_eq_true, decide_eq_true_eq, List.all_eq_true, List.mem_range] at h
  refine ⟨h.1, fun x hx => ?_⟩
  obtain ⟨i, hi, rfl⟩ := List.getElem_of_mem hx
  have := (h.2 i hi).1
  simpa [hi] using this
theorem sort_map (f : Int → Int) (ns : List Int) (h : ∀ x ∈ ns, placeB x = true) : ((ns.map toN).mergeSort fun x y => !(ltOf (cfP f)) y x).map encN = (sortI f ns).map (Value.int .i64) := by
  have e : ns = (ns.map toN).map (fun i => (i.val : Int)) := by
    rw [List.map_map]
    conv => lhs; rw [← List.map_id ns]
    exact List.map_congr_left fun x hx => (toN_val (h x hx)).symm
  have h1 : ((ns.map toN).mergeSort fun x y => !(ltOf (cfP f)) y x).map (fun i => (i.val : Int)) = sortI f ns := by
    unfold sortI
    conv => rhs; rw [e]
    exact List.map_mergeSort fun a _ b _ => by rw [ltOf_cfP]
  rw [← h1, List.map_map]
  rfl
/-- A row of nodes behind the sort. -/
theorem sorted_row {w : World} {base g cap m n : Nat} {xs : List Value} {d : Array (Fin 256)} (os : Array Obj) (h : w.ownsRow base 3 1 (.slice (some ⟨g, 0, none⟩) n cap) n xs) (hd : d.size = n) :
    (Go.Proofs.sortWorld encN w g 0 m d os).ownsRow base 3 1 (.slice (some ⟨g, 0, none⟩) n cap) n (d.toList.map encN) := by
  rcases h.2 with ⟨h', _⟩ | ⟨g', cap', cur, h', hb, hg, hnc, hcm, hcs, htake⟩
  · cases h'
  · simp only [Value.slice.injEq, Option.some.injEq, Addr.mk.injEq, and_true, true_and] at h'
    obtain ⟨rfl, rfl⟩ := h'
    have hlt := (Array.getElem?_eq_some_iff.1 hg).1
    refine ⟨by simp [hd], .inr ⟨g, cap, putCells encN 0 d cur, rfl, hb, ?_, hnc, hcm, by simp [putCells, hcs], ?_⟩⟩
    · show ((w.heap.modify g _) ++ os)[g]? = _
      rw [Array.getElem?_append_left (by simpa using hlt), Array.getElem?_modify]
      simp [hg, onCells]
    · apply List.ext_getElem?
      intro j
      rw [Nat.mul_one]
      by_cases hj : j < n
      · rw [List.getElem?_take_of_lt hj]
        have hjc : j < cur.size := by omega
        have hjd : j < d.size := by omega
        simp [putCells, hjc, hjd, hj]
      · rw [List.getElem?_eq_none (by simp; omega), List.getElem?_eq_none (by simp; omega)]
set_option maxRecDepth 100000 in
set_option maxHeartbeats 2000000 in
theorem order_any (f : Int → Int) (mb n : Nat) (ns : List Int) (v : Value) (w : World) (hm : MapIs w mb n f) (hr : Reads w 1 v ns.length (ns.map (Value.int .i64))) (hok : rightB ns = true) :
    Calls Try.prog 72 #[.map (some mb), v] w fun e w' => ∃ v', e = .returned v' ∧ w'.ownsRow w.heap.size 3 1 v' ns.length ((sortI f ns).map (Value.int .i64)) ∧ Below w.heap.size w w' := by
  obtain ⟨hl64, hpl⟩ := right_nodes hok
  have HM := Lib.hid hm
  have hml := hm.lt
  have HR := Lib.hid hr
  have HPL := Lib.hid hpl
  clear hm hr hok hpl
  go_enter Try.func72, Try.ntmps72
  go_wp2_with fail
  refine (clone_int v ns.length (ns.map (Value.int .i64)) _ (HR.out.below (by repeat (first | (with_reducible exact Below.refl _ _) | (with_reducible refine Below.setCell ?_ ?_ _) | (with_reducible refine Below.alloc ?_ ?_ _) | (with_reducible refine Below.drewN ?_ _) | (with_reducible refine Below.drew ?_) | (with_reducible exact Nat.le_refl _) | (focus (simp only [World.size_alloc, World.size_setCell, World.size_drew, World.size_drewN]; omega)) | omega | exact Nat.le_refl _ | (focus (simp; done)) | (focus (simp; omega))))) (fun u hu => by obtain ⟨x, _, rfl⟩ := List.mem_map.1 hu; rfl) (by omega)).mono ?_
  rintro e w1 ⟨v1, rfl, ho1, _, hb1⟩
  have HO1 := Lib.hid ho1
  have hz1 := hb1.size
  simp only [World.size_alloc] at hz1
  have hbk := hb1.block w.heap.size (by simp)
  rw [heap_alloc_new] at hbk
  have kb := (cell_of_row w1 w.heap.size 0 _ _ _ hbk)
  have HB1 := Lib.hid (show Below w.heap.size w w1 from Below.trans (by repeat (first | (with_reducible exact Below.refl _ _) | (with_reducible refine Below.setCell ?_ ?_ _) | (with_reducible refine Below.alloc ?_ ?_ _) | (with_reducible refine Below.drewN ?_ _) | (with_reducible refine Below.drew ?_) | (with_reducible exact Nat.le_refl _) | (focus (simp only [World.size_alloc, World.size_setCell, World.size_drew, World.size_drewN]; omega)) | omega | exact Nat.le_refl _ | (focus (simp; done)) | (focus (simp; omega)))) (hb1.mono (by simp)))
  have HM1 := Lib.hid (HM.out.below HB1.out)
  clear ho1 hb1 hbk
  have eg : ∀ args w, (callFunc 88 args).run Try.prog w = .ok (.enter 88 args) w := enters_of Try.func88 (by kernel_rfl) rfl
  rcases HO1.out.2 with ⟨hv, h0⟩ | ⟨g, cap, cur, hv, hg, hh, _⟩
  · subst hv
    have hns : ns = [] := List.eq_nil_of_length_eq_zero h0
    have HNS := Lib.hid hns
    clear hns h0 eg
    go_wp2_with fail
    refine (Try.slices_SortFunc_none (α := Fin 256) none 0 _ _).mono ?_
    rintro e w2 ⟨rfl, rfl⟩
    go_wp2_with fail
    go_ret
    refine ⟨.slice none 0 0, rfl, ?_, HB1.out⟩
    rw [HNS.out]
    simpa [sortI] using World.ownsRow_nil w2 w.heap.size 3 1
  · subst hv
    have hS := fun W (h1 : CmpLays1 Try.prog 88 #[.pointer (some ⟨w.heap.size, 0, none⟩)] encN (cfP f) g 0 (ns.map toN).toArray.size W) (h2 : Holds encN W g 0 (ns.map toN).toArray) (h3 : g < W.heap.size) => Try.slices_SortFunc_total encN (fun _ => rfl) (cfP f) (swoP f) 88 #[.pointer (some ⟨w.heap.size, 0, none⟩)] g 0 cap (ns.map toN).toArray W eg h1 h2 h3 (by simp; omega) (totP f)
    simp only [List.size_toArray, List.length_map] at hS
    have hgb : w.heap.size + 1 ≤ g := by simpa using hg
    have hgl := (HO1.out.lt g rfl).2
    have hcmp := cmpLays f mb n w.heap.size g 0 ns.length w1 HM1.out kb (by omega) (by omega) (by omega)
    have hh0 : Holds encN w1 g 0 (ns.map toN).toArray := by
      intro j hj
      have hj' : j < ns.length := by simpa using hj
      refine ⟨?_, HO1.out.frozenAt _⟩
      rw [Nat.zero_add, HO1.out.cellAt j (by omega), List.getElem?_map, List.getElem?_eq_getElem hj']
      simp only [Option.map_some]
      rw [getElem!_pos _ j (by simpa using hj')]
      simp only [List.getElem_toArray, List.getElem_map]
      rw [encN_toN (HPL.out _ (List.getElem_mem hj'))]
    have HS := Lib.hid (hS w1 hcmp hh0 hgl)
    clear hS eg hcmp hh0 hh
    go_wp2_with fail
    refine HS.out.mono ?_
    rintro e w2 ⟨rfl, m, os, rfl⟩
    have ho2 := sorted_row (m := m) (d := ((ns.map toN).mergeSort fun x y => !(ltOf (cfP f)) y x).toArray) os HO1.out (by simp)
    simp only [List.toList_toArray] at ho2
    rw [sort_map f ns HPL.out] at ho2
    have hbl : ∀ k, k < w1.heap.size → k ≠ g → (Go.Proofs.sortWorld encN w1 g 0 m ((ns.map toN).mergeSort fun x y => !(ltOf (cfP f)) y x).toArray os).heap[k]? = w1.heap[k]? := fun k hk hne => sortWorld_block encN w1 g 0 m k _ os hk hne
    have hB2 : Below w.heap.size w (Go.Proofs.sortWorld encN w1 g 0 m ((ns.map toN).mergeSort fun x y => !(ltOf (cfP f)) y x).toArray os) :=
      HB1.out.trans ⟨rfl, rfl, rfl, by show w1.heap.size ≤ ((w1.heap.modify g _) ++ os).size; simp, fun k hk => hbl k (by omega) (by omega)⟩
    have HO2 := Lib.hid ho2
    have HB2 := Lib.hid hB2
    clear ho2 hB2 hbl
    generalize Go.Proofs.sortWorld encN w1 g 0 m ((ns.map toN).mergeSort fun x y => !(ltOf (cfP f)) y x).toArray os = w2 at *
    go_wp2_with fail
    go_ret
    exact ⟨_, rfl, ownsRow_mono HO2.out (by simp), HB2.out⟩
end Go.Proofs.Ytigkcbnlbdiimaa
