/- corncribref19.Bytes. -/
import Derived.Test.YtigkcbnlbdiimaaRef19f
import Derived.Test.YtigkcbnlbdiimaaRef01
namespace Go.Proofs.Ytigkcbnlbdiimaa
open Go.RowKit
set_option maxRecDepth 100000 in
set_option maxHeartbeats 4000000 in
theorem ref_bytes (base : Nat) (v : Value) (es : List Ent) (E : Int) (w : World) (h : w.ownsRow base 128 6 v es.length (es.flatMap Ent.row)) (hfew : es.length ≤ 4096) (hg : Good E es) (hE : E ≤ 1000000) :
    Calls Try.prog 40 #[v] w
      fun e w' => ∃ v', e = .returned v' ∧ w'.ownsRow w.heap.size 5 1 v' (mapBytes es).length ((mapBytes es).map bv) ∧ Below w.heap.size w w' := by
  have H := Lib.hid h
  have HGO := Lib.hid hg
  obtain ⟨a0, cap0, rfl⟩ := ownsRow_len h
  clear h hg
  obtain ⟨i0, hi, hz0, hz1, hz2⟩ := info_parts byte_info
  have HI := Lib.hid hi
  have HZ0 := Lib.hid hz0
  have HZ1 := Lib.hid hz1
  have HZ2 := Lib.hid hz2
  clear hi hz0 hz1 hz2
  go_enter Try.func40, Try.ntmps40
  go_wp2_with fail
  go_loopw [3, 4, 5, 6, 7] (fun l i _ _ _ wr => ∃ k : Nat, k ≤ es.length ∧ i = .int .i64 k ∧ wr.ownsRow w.heap.size 5 1 l (mapBytes (es.take k)).length ((mapBytes (es.take k)).map bv) ∧ Below w.heap.size w wr) (fun _ i _ _ _ _ => es.length - (intOf i).toNat)
  case atStart => exact ⟨0, Nat.zero_le _, rfl, World.ownsRow_nil _ _ _ _, Below.refl _ _⟩
  case round =>
    obtain ⟨k, hk, rfl, hown, hbw⟩ := hrel
    have HBW := Lib.hid hbw
    have hzr := hbw.size
    by_cases hlt : k < es.length
    · obtain ⟨x, hx⟩ : ∃ x, es[k]? = some x := ⟨_, List.getElem?_eq_getElem hlt⟩
      have HXX := Lib.hid hx
      obtain ⟨g3, cc3, e3, hg3, _, _, x0, x1, x2, x3, x4, x5⟩ := row_ent19 (ownsRow_below H.out hbw) k x hx
      obtain ⟨e3', -, e3''⟩ := slice_inj e3
      subst e3' e3''
      have hgw : g3 < w.heap.size := (H.out.lt g3 rfl).2
      obtain ⟨-, he1, he2⟩ := HGO.out k x hx
      have HX := Lib.hid (mapBytes_snoc es k x hx)
      have hnl : (mapBytes (es.take k)).length ≤ 40000 := by rw [mapBytes_len]; simp; omega
      have HR := Lib.hid hown
      clear hown hbw e3 hx
      generalize mapBytes (es.take k) = acc at *
      obtain ⟨xv, xe, xa, xb, xc, xs⟩ := x
      obtain ⟨ep, rfl⟩ : ∃ ep : Nat, xe = (ep : Int) := ⟨xe.toNat, by have h : 1 ≤ xe := he1; omega⟩
      have hep : (ep : Int) ≤ 1000000 := by have h : (ep : Int) ≤ E := he2; omega
      have hep' : ep ≤ 1000000 := by omega
      clear he1 he2
      have hk0 : (0 : Int) ≤ (k : Int) := by omega
      have hk1 : (k : Int) < (es.length : Int) := by omega
      go_wp2_with fail
      refine (bytes01_any ep 4 4 _ (by omega) rfl (by omega)).mono ?_
      rintro e w4 ⟨rfl, ho4, hb4⟩
      have HO4 := Lib.hid ho4
      have HR4 := Lib.hid (ownsRow_below HR.out hb4)
      have hz4 := hb4.size
      have HB4 := Lib.hid (HBW.out.trans (hb4.mono hzr))
      clear ho4 hb4
      obtain ⟨al, cl, rfl⟩ := ownsRow_len HR4.out
      go_wp2_with (at_builtin; refine wpList_append_own _ rfl _ _ 44 rfl w.heap.size 5 i0 (.int .u8 0) 1 1 Try.underlying44 HI.out HZ0.out HZ1.out HZ2.out rfl (by decide) (.slice al acc.length cl) acc.length _ rfl HR4.out ⟨wr.heap.size, 0, none⟩ 4 4 (((List.range 4).map (nthByte ep)).map bv) rfl rfl (HO4.out.cells (g := wr.heap.size) rfl) (bv_one _) (by unfold maxLen; omega) (by omega) (by omega) ?_; intro v5 w5 hown hgrow _; have hz5 := hgrow.size; have HB5 := Lib.hid (Below.grown HB4.out hgrow (by omega) (fun g e => (HR4.out.lt g e).1)); have HO5 := Lib.hid hown; clear hown hgrow)
      have hm4' : acc.length + 4 ≤ 50000 := by omega
      have HM4 := Lib.hid (show acc.length + 4 = (acc ++ (List.range 4).map (nthByte ep)).length by simp)
      generalize acc.length + 4 = m4 at *
      go_wp2_with fail
      refine wp_loop_rounds 4 ?_
      obtain ⟨g_5, c_5, e_5, -, -, -, -, -, y0, y1, y2, y3⟩ := row_ent19 (ownsRow_below H.out HB5.out) k _ HXX.out
      obtain ⟨e_p, -, -⟩ := slice_inj e_5
      have e_q : g3 = g_5 := by simpa using e_p
      subst e_q
      simp only at y0 y1 y2 y3
      clear e_p e_5
      rw [rounds_succ]
      go_wp2_with (at_builtin; refine wpList_append_own _ rfl _ _ 44 rfl w.heap.size 5 i0 (.int .u8 0) 1 1 Try.underlying44 HI.out HZ0.out HZ1.out HZ2.out rfl (by decide) v5 (m4) _ rfl (HO5.out.alloc _) ⟨w5.heap.size, 0, none⟩ 1 1 [.int .u8 (xa % 256)] rfl rfl (cell_one_new _ _ _) (by simp [Value.oneCell']) (by unfold maxLen; omega) (by omega) (by simp; omega) ?_; intro v6 w6 hown hgrow _; have hz6 := hgrow.size; simp only [World.size_alloc] at hz6; have HB6 := Lib.hid (Below.grown (HB5.out.alloc (by omega) _) hgrow (by simp; omega) (fun g e => (HO5.out.lt g e).1)); have HO6 := Lib.hid hown; clear hown hgrow)
      clear y0 y1 y2 y3
      obtain ⟨g_6, c_6, e_6, -, -, -, -, -, y0, y1, y2, y3⟩ := row_ent19 (ownsRow_below H.out HB6.out) k _ HXX.out
      obtain ⟨e_p, -, -⟩ := slice_inj e_6
      have e_q : g3 = g_6 := by simpa using e_p
      subst e_q
      simp only at y0 y1 y2 y3
      clear e_p e_6
      rw [rounds_succ]
      go_wp2_with (at_builtin; refine wpList_append_own _ rfl _ _ 44 rfl w.heap.size 5 i0 (.int .u8 0) 1 1 Try.underlying44 HI.out HZ0.out HZ1.out HZ2.out rfl (by decide) v6 (m4 + 1) _ rfl (HO6.out.alloc _) ⟨w6.heap.size, 0, none⟩ 1 1 [.int .u8 (xb % 256)] rfl rfl (cell_one_new _ _ _) (by simp [Value.oneCell']) (by unfold maxLen; omega) (by omega) (by simp; omega) ?_; intro v7 w7 hown hgrow _; have hz7 := hgrow.size; simp only [World.size_alloc] at hz7; have HB7 := Lib.hid (Below.grown (HB6.out.alloc (by omega) _) hgrow (by simp; omega) (fun g e => (HO6.out.lt g e).1)); have HO7 := Lib.hid hown; clear hown hgrow)
      clear y0 y1 y2 y3
      obtain ⟨g_7, c_7, e_7, -, -, -, -, -, y0, y1, y2, y3⟩ := row_ent19 (ownsRow_below H.out HB7.out) k _ HXX.out
      obtain ⟨e_p, -, -⟩ := slice_inj e_7
      have e_q : g3 = g_7 := by simpa using e_p
      subst e_q
      simp only at y0 y1 y2 y3
      clear e_p e_7
      rw [rounds_succ]
      go_wp2_with (at_builtin; refine wpList_append_own _ rfl _ _ 44 rfl w.heap.size 5 i0 (.int .u8 0) 1 1 Try.underlying44 HI.out HZ0.out HZ1.out HZ2.out rfl (by decide) v7 (m4 + 1 + 1) _ rfl (HO7.out.alloc _) ⟨w7.heap.size, 0, none⟩ 1 1 [.int .u8 (xc % 256)] rfl rfl (cell_one_new _ _ _) (by simp [Value.oneCell']) (by unfold maxLen; omega) (by omega) (by simp; omega) ?_; intro v8 w8 hown hgrow _; have hz8 := hgrow.size; simp only [World.size_alloc] at hz8; have HB8 := Lib.hid (Below.grown (HB7.out.alloc (by omega) _) hgrow (by simp; omega) (fun g e => (HO7.out.lt g e).1)); have HO8 := Lib.hid hown; clear hown hgrow)
      clear y0 y1 y2 y3
      obtain ⟨g_8, c_8, e_8, -, -, -, -, -, y0, y1, y2, y3⟩ := row_ent19 (ownsRow_below H.out HB8.out) k _ HXX.out
      obtain ⟨e_p, -, -⟩ := slice_inj e_8
      have e_q : g3 = g_8 := by simpa using e_p
      subst e_q
      simp only at y0 y1 y2 y3
      clear e_p e_8
      rw [rounds_succ]
      cases xs
      · go_wp2_with (at_builtin; refine wpList_append_own _ rfl _ _ 44 rfl w.heap.size 5 i0 (.int .u8 0) 1 1 Try.underlying44 HI.out HZ0.out HZ1.out HZ2.out rfl (by decide) v8 (m4 + 1 + 1 + 1) _ rfl (HO8.out.alloc _) ⟨w8.heap.size, 0, none⟩ 1 1 [.int .u8 (0)] rfl rfl (cell_one_new _ _ _) (by simp [Value.oneCell']) (by unfold maxLen; omega) (by omega) (by simp; omega) ?_; intro v9 w9 hown hgrow _; have hz9 := hgrow.size; simp only [World.size_alloc] at hz9; have HB9 := Lib.hid (Below.grown (HB8.out.alloc (by omega) _) hgrow (by simp; omega) (fun g e => (HO8.out.lt g e).1)); have HO9 := Lib.hid hown; clear hown hgrow)
        go_roundw
        case rel => exact ⟨k + 1, by omega, by go_num, by
          rw [HX.out]
          exact ownsRow_cast HO9.out (by rw [List.length_append, entBytes_len]; have := HM4.out; simp at this; omega) (by simp [entBytes, bv, ofI_toNat, List.map_append]), HB9.out⟩
        case measure => simp [intOf]; omega
      · go_wp2_with (at_builtin; refine wpList_append_own _ rfl _ _ 44 rfl w.heap.size 5 i0 (.int .u8 0) 1 1 Try.underlying44 HI.out HZ0.out HZ1.out HZ2.out rfl (by decide) v8 (m4 + 1 + 1 + 1) _ rfl (HO8.out.alloc _) ⟨w8.heap.size, 0, none⟩ 1 1 [.int .u8 (1)] rfl rfl (cell_one_new _ _ _) (by simp [Value.oneCell']) (by unfold maxLen; omega) (by omega) (by simp; omega) ?_; intro v9 w9 hown hgrow _; have hz9 := hgrow.size; simp only [World.size_alloc] at hz9; have HB9 := Lib.hid (Below.grown (HB8.out.alloc (by omega) _) hgrow (by simp; omega) (fun g e => (HO8.out.lt g e).1)); have HO9 := Lib.hid hown; clear hown hgrow)
        go_roundw
        case rel => exact ⟨k + 1, by omega, by go_num, by
          rw [HX.out]
          exact ownsRow_cast HO9.out (by rw [List.length_append, entBytes_len]; have := HM4.out; simp at this; omega) (by simp [entBytes, bv, ofI_toNat, List.map_append]), HB9.out⟩
        case measure => simp [intOf]; omega
    · have HOW := Lib.hid hown
      clear hown hbw
      have HK := Lib.hid (show es.take k = es from List.take_of_length_le (by omega))
      obtain ⟨al, cl, rfl⟩ := ownsRow_len HOW.out
      go_wp2_with fail
      go_ret
      refine ⟨_, rfl, ?_, HBW.out⟩
      have := HOW.out
      rw [HK.out] at this ⊢
      exact this
end Go.Proofs.Ytigkcbnlbdiimaa
