/- The directory's map: its bytes. -/
import Derived.Test.YtigkcbnlbdiimaaDirs6
namespace Go.Proofs.Ytigkcbnlbdiimaa
open Go.RowKit
def ofI (n : Int) : UInt8 := UInt8.ofNat (n % 256).toNat
theorem ofI_toNat (n : Int) : ((ofI n).toNat : Int) = n % 256 := by
  unfold ofI
  rw [UInt8.toNat_ofNat']
  omega
def entBytes (x : Ent) : List UInt8 := (List.range 4).map (nthByte x.epoch.toNat) ++ [ofI x.n0, ofI x.n1, ofI x.n2, if x.shut then 1 else 0]
def mapBytes (es : List Ent) : List UInt8 := es.flatMap entBytes
theorem entBytes_len (x : Ent) : (entBytes x).length = 8 := by simp [entBytes]
theorem mapBytes_len (es : List Ent) : (mapBytes es).length = es.length * 8 := by
  induction es with
  | nil => rfl
  | cons x es ih => simp only [mapBytes, List.flatMap_cons, List.length_append, entBytes_len, List.length_cons] at ih ⊢; rw [ih]; omega
theorem mapBytes_snoc (es : List Ent) (k : Nat) (x : Ent) (hx : es[k]? = some x) : mapBytes (es.take (k + 1)) = mapBytes (es.take k) ++ entBytes x := by
  rw [take_snoc_get es k x hx]
  simp [mapBytes]
theorem ownsRow_cast {w : World} {base : Nat} {e : TypeId} {size : Nat} {v : Value} {n m : Nat} {xs ys : List Value} (h : w.ownsRow base e size v n xs) (hn : n = m) (hx : xs = ys) : w.ownsRow base e size v m ys := by
  subst hn hx; exact h
set_option maxRecDepth 100000 in
set_option maxHeartbeats 4000000 in
theorem bytes_any (base bm : Nat) (v : Value) (es : List Ent) (E : Int) (w : World) (h : MapAt w base bm v es) (hg : Good E es) (hE : E ≤ 1000000) :
    Calls Try.prog 21 #[.pointer (some ⟨bm, 0, none⟩)] w
      fun e w' => ∃ v', e = .returned v' ∧ w'.ownsRow w.heap.size 5 1 v' (mapBytes es).length ((mapBytes es).map bv) ∧ Below w.heap.size w w' := by
  have hfew := h.few
  have H := Lib.hid h
  have HGO := Lib.hid hg
  clear h hg
  obtain ⟨i0, hi, hz0, hz1, hz2⟩ := info_parts byte_info
  have HI := Lib.hid hi
  have HZ0 := Lib.hid hz0
  have HZ1 := Lib.hid hz1
  have HZ2 := Lib.hid hz2
  clear hi hz0 hz1 hz2
  go_enter Try.func21, Try.ntmps21
  go_wp2_with fail
  refine (all_any _ _ _ _ _ H.out).mono ?_
  rintro e w3 ⟨v3, rfl, ho3, _, hb3⟩
  obtain ⟨a3, cap3, rfl⟩ := ownsRow_len ho3
  have HO3 := Lib.hid ho3
  have HB3 := Lib.hid hb3
  have hz3 := hb3.size
  clear ho3 hb3
  go_wp2_with fail
  go_loopw [3, 12] (fun l i wr => ∃ k : Nat, k ≤ es.length ∧ i = .int .i64 k ∧ wr.ownsRow w3.heap.size 5 1 l (mapBytes (es.take k)).length ((mapBytes (es.take k)).map bv) ∧ Below w3.heap.size w3 wr) (fun _ i _ => es.length - (intOf i).toNat)
  case atStart => exact ⟨0, Nat.zero_le _, rfl, World.ownsRow_nil _ _ _ _, Below.refl _ _⟩
  case round =>
    obtain ⟨k, hk, rfl, hown, hbw⟩ := hrel
    have HBW := Lib.hid hbw
    have hzr := hbw.size
    by_cases hlt : k < es.length
    · obtain ⟨x, hx⟩ : ∃ x, es[k]? = some x := ⟨_, List.getElem?_eq_getElem hlt⟩
      obtain ⟨g3, cc3, e3, hg3, _, _, x0, x1, x2, x3, x4, x5⟩ := row_ent (ownsRow_below HO3.out hbw) k x hx
      obtain ⟨rfl, -, rfl⟩ := slice_inj e3
      obtain ⟨-, he1, he2⟩ := HGO.out k x hx
      have HX := Lib.hid (mapBytes_snoc es k x hx)
      have hnl : (mapBytes (es.take k)).length ≤ 40000 := by rw [mapBytes_len]; simp; omega
      have hrd := reads_of_owns hown
      clear hown hbw e3 hx
      generalize mapBytes (es.take k) = acc at *
      obtain ⟨al, cl, rfl⟩ := reads_len hrd
      have HRD := Lib.hid hrd
      clear hrd
      obtain ⟨xv, xe, xa, xb, xc, xs⟩ := x
      obtain ⟨ep, rfl⟩ : ∃ ep : Nat, xe = (ep : Int) := ⟨xe.toNat, by have h : 1 ≤ xe := he1; omega⟩
      have hep : (ep : Int) ≤ 1000000 := by have h : (ep : Int) ≤ E := he2; omega
      have hep' : ep ≤ 1000000 := by omega
      clear he1 he2
      go_wp2_with fail
      refine (put_4 (.slice al acc.length cl) acc ep _ (HRD.out.below (by repeat (first | (with_reducible exact Below.refl _ _) | (with_reducible refine Below.setCell ?_ ?_ _) | (with_reducible refine Below.alloc ?_ ?_ _) | (with_reducible refine Below.drewN ?_ _) | (with_reducible refine Below.drew ?_) | (with_reducible exact Nat.le_refl _) | (focus (simp only [World.size_alloc, World.size_setCell, World.size_drew, World.size_drewN]; omega)) | omega | exact Nat.le_refl _ | (focus (simp; done)) | (focus (simp; omega))))) (by omega) (by omega) (by omega)).mono ?_
      rintro e w4 ⟨v4, rfl, ho4, hb4⟩
      obtain ⟨a4, m4, c4, rfl, HM4⟩ := owns_len ho4
      have hm4 : m4 = acc.length + 4 := by have := HM4.out; simpa using this
      have hm4' : m4 ≤ 50000 := by omega
      have HM4' := Lib.hid hm4
      clear hm4
      have ho4' := ownsRow_cast ho4 HM4.out.symm rfl
      simp only [World.size_alloc] at ho4'
      have HO4 := Lib.hid ho4'
      clear ho4'
      obtain ⟨hc4, hf4⟩ := bcell hb4
      have hz4 := hb4.size
      simp only [World.size_alloc] at hz4
      have hz4' : wr.heap.size < w4.heap.size := by omega
      have HB4 := Lib.hid (Below.trans (B := w3.heap.size) (a := wr) (by repeat (first | (with_reducible exact Below.refl _ _) | (with_reducible refine Below.setCell ?_ ?_ _) | (with_reducible refine Below.alloc ?_ ?_ _) | (with_reducible refine Below.drewN ?_ _) | (with_reducible refine Below.drew ?_) | (with_reducible exact Nat.le_refl _) | (focus (simp only [World.size_alloc, World.size_setCell, World.size_drew, World.size_drewN]; omega)) | omega | exact Nat.le_refl _ | (focus (simp; done)) | (focus (simp; omega)))) (hb4.mono (by simp; omega)))
      clear ho4 hb4 hz4 HM4
      have kx : w4.cell? ⟨wr.heap.size, 5, none⟩ = some (.bool xs) := by rw [hc4 _ _ (by simp)]; simp
      have ix0 : ∀ w, (Instr.index 30 (.agg #[.int .i64 xa, .int .i64 xb, .int .i64 xc]) (.int .i64 0)).run Try.prog w = .ok (.int .i64 xa) w := fun _ => by kernel_rfl
      have ix1 : ∀ w, (Instr.index 30 (.agg #[.int .i64 xa, .int .i64 xb, .int .i64 xc]) (.int .i64 1)).run Try.prog w = .ok (.int .i64 xb) w := fun _ => by kernel_rfl
      have ix2 : ∀ w, (Instr.index 30 (.agg #[.int .i64 xa, .int .i64 xb, .int .i64 xc]) (.int .i64 2)).run Try.prog w = .ok (.int .i64 xc) w := fun _ => by kernel_rfl
      go_wp2_with fail
      refine wp_loop_rounds 4 ?_
      rw [rounds_succ]
      go_wp2_with (at_builtin; refine wpList_append_own _ rfl _ _ 44 rfl (wr.heap.size + 1) 5 i0 (.int .u8 0) 1 1 Try.underlying44 HI.out HZ0.out HZ1.out HZ2.out rfl (by decide) (.slice a4 m4 c4) m4 _ rfl (HO4.out.alloc _) ⟨w4.heap.size, 0, none⟩ 1 1 [.int .u8 (xa % 256)] rfl rfl (cell_one_new _ _ _) (by simp [Value.oneCell']) (by unfold maxLen; omega) (by omega) (by simp; omega) ?_; intro v5 w5 hown hgrow _; have kx : w5.cell? ⟨wr.heap.size, 5, none⟩ = some (.bool xs) := (grown_cell (b := wr.heap.size) (o := 5) hgrow (by simp; omega) (fun e => by have := (HO4.out.lt _ e).1; omega)).trans (by go_simp); have hl5 : wr.heap.size < w5.heap.size := (by have := hgrow.size; simp at this; omega); have HB5 := Lib.hid (Below.grown (HB4.out.alloc (by have := HB4.out.size; omega) _) hgrow (by simp; omega) (fun g e => by have := (HO4.out.lt _ e).1; omega)); have HO5 := Lib.hid hown; clear hown hgrow)
      rw [rounds_succ]
      go_wp2_with (at_builtin; refine wpList_append_own _ rfl _ _ 44 rfl (wr.heap.size + 1) 5 i0 (.int .u8 0) 1 1 Try.underlying44 HI.out HZ0.out HZ1.out HZ2.out rfl (by decide) v5 (m4 + 1) _ rfl (HO5.out.alloc _) ⟨w5.heap.size, 0, none⟩ 1 1 [.int .u8 (xb % 256)] rfl rfl (cell_one_new _ _ _) (by simp [Value.oneCell']) (by unfold maxLen; omega) (by omega) (by simp; omega) ?_; intro v6 w6 hown hgrow _; have kx : w6.cell? ⟨wr.heap.size, 5, none⟩ = some (.bool xs) := (grown_cell (b := wr.heap.size) (o := 5) hgrow (by simp; omega) (fun e => by have := (HO5.out.lt _ e).1; omega)).trans (by go_simp); have hl6 : wr.heap.size < w6.heap.size := (by have := hgrow.size; simp at this; omega); have HB6 := Lib.hid (Below.grown (HB5.out.alloc (by have := HB5.out.size; omega) _) hgrow (by simp; omega) (fun g e => by have := (HO5.out.lt _ e).1; omega)); have HO6 := Lib.hid hown; clear hown hgrow)
      rw [rounds_succ]
      go_wp2_with (at_builtin; refine wpList_append_own _ rfl _ _ 44 rfl (wr.heap.size + 1) 5 i0 (.int .u8 0) 1 1 Try.underlying44 HI.out HZ0.out HZ1.out HZ2.out rfl (by decide) v6 (m4 + 1 + 1) _ rfl (HO6.out.alloc _) ⟨w6.heap.size, 0, none⟩ 1 1 [.int .u8 (xc % 256)] rfl rfl (cell_one_new _ _ _) (by simp [Value.oneCell']) (by unfold maxLen; omega) (by omega) (by simp; omega) ?_; intro v7 w7 hown hgrow _; have kx : w7.cell? ⟨wr.heap.size, 5, none⟩ = some (.bool xs) := (grown_cell (b := wr.heap.size) (o := 5) hgrow (by simp; omega) (fun e => by have := (HO6.out.lt _ e).1; omega)).trans (by go_simp); have hl7 : wr.heap.size < w7.heap.size := (by have := hgrow.size; simp at this; omega); have HB7 := Lib.hid (Below.grown (HB6.out.alloc (by have := HB6.out.size; omega) _) hgrow (by simp; omega) (fun g e => by have := (HO6.out.lt _ e).1; omega)); have HO7 := Lib.hid hown; clear hown hgrow)
      rw [rounds_succ]
      cases xs
      · go_wp2_with (at_builtin; refine wpList_append_own _ rfl _ _ 44 rfl (wr.heap.size + 1) 5 i0 (.int .u8 0) 1 1 Try.underlying44 HI.out HZ0.out HZ1.out HZ2.out rfl (by decide) v7 (m4 + 1 + 1 + 1) _ rfl (HO7.out.alloc _) ⟨w7.heap.size, 0, none⟩ 1 1 [.int .u8 (0)] rfl rfl (cell_one_new _ _ _) (by simp [Value.oneCell']) (by unfold maxLen; omega) (by omega) (by simp; omega) ?_; intro v8 w8 hown hgrow _; have kx : w8.cell? ⟨wr.heap.size, 5, none⟩ = some (.bool false) := (grown_cell (b := wr.heap.size) (o := 5) hgrow (by simp; omega) (fun e => by have := (HO7.out.lt _ e).1; omega)).trans (by go_simp); have hl8 : wr.heap.size < w8.heap.size := (by have := hgrow.size; simp at this; omega); have HB8 := Lib.hid (Below.grown (HB7.out.alloc (by have := HB7.out.size; omega) _) hgrow (by simp; omega) (fun g e => by have := (HO7.out.lt _ e).1; omega)); have HO8 := Lib.hid hown; clear hown hgrow)
        go_roundw
        case rel => exact ⟨k + 1, by omega, by go_num, by
          rw [HX.out]
          exact ownsRow_mono (ownsRow_cast HO8.out (by rw [List.length_append, entBytes_len]; have := HM4'.out; omega) (by simp [entBytes, bv, ofI_toNat, List.map_append])) (by omega), HBW.out.trans HB8.out⟩
        case measure => simp [intOf]; omega
      · go_wp2_with (at_builtin; refine wpList_append_own _ rfl _ _ 44 rfl (wr.heap.size + 1) 5 i0 (.int .u8 0) 1 1 Try.underlying44 HI.out HZ0.out HZ1.out HZ2.out rfl (by decide) v7 (m4 + 1 + 1 + 1) _ rfl (HO7.out.alloc _) ⟨w7.heap.size, 0, none⟩ 1 1 [.int .u8 (1)] rfl rfl (cell_one_new _ _ _) (by simp [Value.oneCell']) (by unfold maxLen; omega) (by omega) (by simp; omega) ?_; intro v8 w8 hown hgrow _; have kx : w8.cell? ⟨wr.heap.size, 5, none⟩ = some (.bool true) := (grown_cell (b := wr.heap.size) (o := 5) hgrow (by simp; omega) (fun e => by have := (HO7.out.lt _ e).1; omega)).trans (by go_simp); have hl8 : wr.heap.size < w8.heap.size := (by have := hgrow.size; simp at this; omega); have HB8 := Lib.hid (Below.grown (HB7.out.alloc (by have := HB7.out.size; omega) _) hgrow (by simp; omega) (fun g e => by have := (HO7.out.lt _ e).1; omega)); have HO8 := Lib.hid hown; clear hown hgrow)
        go_roundw
        case rel => exact ⟨k + 1, by omega, by go_num, by
          rw [HX.out]
          exact ownsRow_mono (ownsRow_cast HO8.out (by rw [List.length_append, entBytes_len]; have := HM4'.out; omega) (by simp [entBytes, bv, ofI_toNat, List.map_append])) (by omega), HBW.out.trans HB8.out⟩
        case measure => simp [intOf]; omega
    · have HOW := Lib.hid hown
      clear hown hbw
      have HK := Lib.hid (show es.take k = es from List.take_of_length_le (by omega))
      obtain ⟨al, cl, rfl⟩ := ownsRow_len HOW.out
      go_wp2_with fail
      go_ret
      refine ⟨_, rfl, ?_, HB3.out.trans (HBW.out.mono hz3)⟩
      have := HOW.out
      rw [HK.out] at this ⊢
      exact ownsRow_mono this hz3
end Go.Proofs.Ytigkcbnlbdiimaa
