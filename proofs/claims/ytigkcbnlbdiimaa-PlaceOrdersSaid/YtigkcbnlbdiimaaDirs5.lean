/- The directory's map: On, Bytes, Replay. -/
import Derived.Test.YtigkcbnlbdiimaaDirsApart2
import Derived.Test.YtigkcbnlbdiimaaSame
import Derived.Test.YtigkcbnlbdiimaaPut4
import Derived.Maps.AppendAt
namespace Go.Proofs.Ytigkcbnlbdiimaa
open Go.RowKit
theorem int_info : (Try.prog.info? 3).map (fun i => (i.zero, i.size, i.bytes)) = some (some (.int .i64 0), 1, 8) := by kernel_rfl
/-- Has it a node? -/
def onB (node : Int) (x : Ent) : Bool := [x.n0, x.n1, x.n2].contains node
def onVols (node : Int) (es : List Ent) : List Int := (es.filter (onB node)).map Ent.vol
theorem onVols_yes (node : Int) (es : List Ent) (k : Nat) (x : Ent) (hx : es[k]? = some x) (h : onB node x = true) : onVols node (es.take (k + 1)) = onVols node (es.take k) ++ [x.vol] := by
  obtain ⟨hk, hx'⟩ := List.getElem?_eq_some_iff.1 hx
  rw [List.take_succ_eq_append_getElem hk, hx']
  simp [onVols, List.filter_append, List.filter_cons, h]
theorem onVols_no (node : Int) (es : List Ent) (k : Nat) (x : Ent) (hx : es[k]? = some x) (h : onB node x = false) : onVols node (es.take (k + 1)) = onVols node (es.take k) := by
  obtain ⟨hk, hx'⟩ := List.getElem?_eq_some_iff.1 hx
  rw [List.take_succ_eq_append_getElem hk, hx']
  simp [onVols, List.filter_append, List.filter_cons, h]
theorem onVols_len (node : Int) (es : List Ent) : (onVols node es).length ≤ es.length := by
  simp only [onVols, List.length_map]
  exact List.length_filter_le _ _
set_option maxRecDepth 100000 in
set_option maxHeartbeats 2000000 in
theorem on_any (base bm : Nat) (v : Value) (es : List Ent) (node : Int) (w : World) (h : MapAt w base bm v es) :
    Calls Try.prog 20 #[.pointer (some ⟨bm, 0, none⟩), .int .i64 node] w
      fun e w' => ∃ v', e = .returned v' ∧ w'.ownsRow w.heap.size 3 1 v' (onVols node es).length ((onVols node es).map (Value.int .i64)) ∧ Below w.heap.size w w' := by
  have hfew := h.few
  have H := Lib.hid h
  clear h
  obtain ⟨i0, hi, hz0, hz1, hz2⟩ := info_parts int_info
  have HI := Lib.hid hi
  have HZ0 := Lib.hid hz0
  have HZ1 := Lib.hid hz1
  have HZ2 := Lib.hid hz2
  clear hi hz0 hz1 hz2
  go_enter Try.func20, Try.ntmps20
  go_wp2_with fail
  refine (all_any _ _ _ _ _ H.out).mono ?_
  rintro e w3 ⟨v3, rfl, ho3, _, hb3⟩
  obtain ⟨a3, cap3, rfl⟩ := ownsRow_len ho3
  have HO3 := Lib.hid ho3
  have HB3 := Lib.hid hb3
  have hz3 := hb3.size
  clear ho3 hb3
  go_wp2_with fail
  go_loopw [5, 11] (fun l i wr => ∃ k : Nat, k ≤ es.length ∧ i = .int .i64 k ∧ wr.ownsRow w3.heap.size 3 1 l (onVols node (es.take k)).length ((onVols node (es.take k)).map (Value.int .i64)) ∧ Below w3.heap.size w3 wr) (fun _ i _ => es.length - (intOf i).toNat)
  case atStart => exact ⟨0, Nat.zero_le _, rfl, World.ownsRow_nil _ _ _ _, Below.refl _ _⟩
  case round =>
    obtain ⟨k, hk, rfl, hown, hbw⟩ := hrel
    have HOW := Lib.hid hown
    have HBW := Lib.hid hbw
    have hzr := hbw.size
    obtain ⟨al, cl, rfl⟩ := ownsRow_len hown
    clear hown hbw
    by_cases hlt : k < es.length
    · obtain ⟨x, hx⟩ : ∃ x, es[k]? = some x := ⟨_, List.getElem?_eq_getElem hlt⟩
      obtain ⟨g3, cc3, e3, hg3, _, _, x0, x1, x2, x3, x4, x5⟩ := row_ent (ownsRow_below HO3.out HBW.out) k x hx
      obtain ⟨rfl, -, rfl⟩ := slice_inj e3
      have HOL := Lib.hid (onVols_len node (es.take k))
      have hnl : (onVols node (es.take k)).length ≤ 4096 := by have := HOL.out; simp at this; omega
      clear e3
      cases hc : onB node x
      · have HX := Lib.hid (onVols_no node es k x hx hc)
        have HC := Lib.hid hc
        obtain ⟨xv, xe, xa, xb, xc, xs⟩ := x
        clear hx hc
        go_wp2_with fail
        refine Calls.mono (contains3 wr.heap.size 2 _ xa xb xc node false _ HC.out ?_ ?_ ?_) ?_
        · go_simp
        · go_simp
        · go_simp
        rintro e w4 ⟨rfl, rfl⟩
        go_wp2_with fail
        go_roundw
        case rel => exact ⟨k + 1, by omega, by go_num, by rw [HX.out]; exact HOW.out.alloc _, HBW.out.alloc hzr _⟩
        case measure => simp [intOf]; omega
      · have HX := Lib.hid (onVols_yes node es k x hx hc)
        have HC := Lib.hid hc
        obtain ⟨xv, xe, xa, xb, xc, xs⟩ := x
        clear hx hc
        go_wp2_with fail
        refine Calls.mono (contains3 wr.heap.size 2 _ xa xb xc node true _ HC.out ?_ ?_ ?_) ?_
        · go_simp
        · go_simp
        · go_simp
        rintro e w4 ⟨rfl, rfl⟩
        go_wp2_with (at_builtin; refine wpList_append_own _ rfl _ _ 42 rfl w3.heap.size 3 i0 (.int .i64 0) 1 8 Try.underlying42 HI.out HZ0.out HZ1.out HZ2.out rfl (by decide) _ _ _ rfl ((HOW.out.alloc _).alloc _) ⟨wr.heap.size + 1, 0, none⟩ 1 1 [.int .i64 xv] rfl rfl (by have h := cell_one_new (wr.alloc (.cells #[.int .i64 xv, .int .i64 xe, .int .i64 xa, .int .i64 xb, .int .i64 xc, .bool xs] 37)) (.int .i64 xv) 3; simpa using h) (by simp [Value.oneCell']) (by unfold maxLen; omega) (by omega) (by simp; omega) ?_; intro v' w5 hown' hgrow _; have HOX := Lib.hid hown'; have HGX := Lib.hid hgrow; clear hown' hgrow)
        go_roundw
        case rel => exact ⟨k + 1, by omega, by go_num, by rw [HX.out]; simpa using HOX.out, ((HBW.out.alloc hzr _).alloc (by simp; omega) _).grown HGX.out (by simp; omega) (fun g hg => (HOW.out.lt g hg).1)⟩
        case measure => simp [intOf]; omega
    · have HK := Lib.hid (show es.take k = es from List.take_of_length_le (by omega))
      go_wp2_with fail
      go_ret
      refine ⟨_, rfl, ?_, HB3.out.trans (HBW.out.mono hz3)⟩
      have := HOW.out
      rw [HK.out] at this ⊢
      exact ownsRow_mono this hz3
end Go.Proofs.Ytigkcbnlbdiimaa
