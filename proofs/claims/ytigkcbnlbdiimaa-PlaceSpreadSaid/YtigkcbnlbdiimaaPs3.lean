/- Joined texts: Dirs7, Ref01, Ref19g, OrderM, Place, Place2, Place3, PlaceMap, Shelf, PlaceSort. -/
import Derived.Test.YtigkcbnlbdiimaaPs2
import Derived.OwnWalk
import Derived.Maps.OwnOps
import Derived.Maps.Views
import Derived.Shelf.Small.Bits
import Derived.Shelf.Small.Wraps
import Derived.Shelf.Strconv.Itoa0
import Derived.Ground.SlgfProg
import Derived.Shelf.SlicesE.IndexFunc
import Derived.Shelf.SlicesE.DeleteFunc
import Derived.Ground.SlsfProg
import Derived.Shelf.SlSortCmp.Insertion
import Derived.Shelf.SlSortCmp.SiftDown1
import Derived.Shelf.SlSortCmp.HeapSort1
import Derived.Shelf.SlSortCmp.Insertion1
import Derived.Shelf.SlSortCmp.Median1
import Derived.Shelf.SlSortCmp.Pivot1
import Derived.Shelf.SlSortCmp.ReverseRange1
import Derived.Shelf.SlSortCmp.PartialInsertion1
import Derived.Shelf.SlSortCmp.PartitionEqual1
import Derived.Shelf.SlSortCmp.Partition1
import Derived.Shelf.SlSortCmp.Pdq1
import Derived.Shelf.SlSortCmp.Whole1
import Derived.Shelf.SlSortCmp.NoneTotal
import Derived.Test.YtigkcbnlbdiimaaProg
import Derived.Sort.Grow
/- The directory's map: its bytes. -/
namespace Go.Proofs.Ytigkcbnlbdiimaa
open Go.RowKit
def ofI (n : Int) : UInt8 := UInt8.ofNat (n % 256).toNat
theorem ofI_toNat (n : Int) : ((ofI n).toNat : Int) = n % 256 := by
  unfold ofI
  rw [UInt8.toNat_ofNat']
  omega
def entBytes (x : Ent) : List UInt8 := (List.range 4).map (nthByte x.epoch.toNat) ++ [ofI x.n0, ofI x.n1, ofI x.n2, if x.shut then 1 else 0]
def mapBytes (es : List Ent) : List UInt8 := es.flatMap entBytes
theorem entBytes_len (x : Ent) : (entBytes x).length = 8 := by simp [entBytes]
theorem mapBytes_len (es : List Ent) : (mapBytes es).length = es.length * 8 := by
  induction es with
  | nil => rfl
  | cons x es ih => simp only [mapBytes, List.flatMap_cons, List.length_append, entBytes_len, List.length_cons] at ih ⊢; rw [ih]; omega
theorem mapBytes_snoc (es : List Ent) (k : Nat) (x : Ent) (hx : es[k]? = some x) : mapBytes (es.take (k + 1)) = mapBytes (es.take k) ++ entBytes x := by
  rw [take_snoc_get es k x hx]
  simp [mapBytes]
set_option maxRecDepth 100000 in
set_option maxHeartbeats 4000000 in
theorem bytes_any (base bm : Nat) (v : Value) (es : List Ent) (E : Int) (w : World) (h : MapAt w base bm v es) (hg : Good E es) (hE : E ≤ 1000000) :
    Calls Try.prog 21 #[.pointer (some ⟨bm, 0, none⟩)] w
      fun e w' => ∃ v', e = .returned v' ∧ w'.ownsRow w.heap.size 5 1 v' (mapBytes es).length ((mapBytes es).map bv) ∧ Below w.heap.size w w' := by
  have hfew := h.few
  have H := Lib.hid h
  have HGO := Lib.hid hg
  clear h hg
  obtain ⟨i0, hi, hz0, hz1, hz2⟩ := info_parts byte_info
  have HI := Lib.hid hi
  have HZ0 := Lib.hid hz0
  have HZ1 := Lib.hid hz1
  have HZ2 := Lib.hid hz2
  clear hi hz0 hz1 hz2
  go_enter Try.func21, Try.ntmps21
  go_wp2_with fail
  refine (all_any _ _ _ _ _ H.out).mono ?_
  rintro e w3 ⟨v3, rfl, ho3, _, hb3⟩
  obtain ⟨a3, cap3, rfl⟩ := ownsRow_len ho3
  have HO3 := Lib.hid ho3
  have HB3 := Lib.hid hb3
  have hz3 := hb3.size
  clear ho3 hb3
  go_wp2_with fail
  go_loopw [3, 12] (fun l i wr => ∃ k : Nat, k ≤ es.length ∧ i = .int .i64 k ∧ wr.ownsRow w3.heap.size 5 1 l (mapBytes (es.take k)).length ((mapBytes (es.take k)).map bv) ∧ Below w3.heap.size w3 wr) (fun _ i _ => es.length - (intOf i).toNat)
  case atStart => exact ⟨0, Nat.zero_le _, rfl, World.ownsRow_nil _ _ _ _, Below.refl _ _⟩
  case round =>
    obtain ⟨k, hk, rfl, hown, hbw⟩ := hrel
    have HBW := Lib.hid hbw
    have hzr := hbw.size
    by_cases hlt : k < es.length
    · obtain ⟨x, hx⟩ : ∃ x, es[k]? = some x := ⟨_, List.getElem?_eq_getElem hlt⟩
      obtain ⟨g3, cc3, e3, hg3, _, _, x0, x1, x2, x3, x4, x5⟩ := row_ent (ownsRow_below HO3.out hbw) k x hx
      obtain ⟨rfl, -, rfl⟩ := slice_inj e3
      obtain ⟨-, he1, he2⟩ := HGO.out k x hx
      have HX := Lib.hid (mapBytes_snoc es k x hx)
      have hnl : (mapBytes (es.take k)).length ≤ 40000 := by rw [mapBytes_len]; simp; omega
      have hrd := reads_of_owns hown
      clear hown hbw e3 hx
      generalize mapBytes (es.take k) = acc at *
      obtain ⟨al, cl, rfl⟩ := reads_len hrd
      have HRD := Lib.hid hrd
      clear hrd
      obtain ⟨xv, xe, xa, xb, xc, xs⟩ := x
      obtain ⟨ep, rfl⟩ : ∃ ep : Nat, xe = (ep : Int) := ⟨xe.toNat, by have h : 1 ≤ xe := he1; omega⟩
      have hep : (ep : Int) ≤ 1000000 := by have h : (ep : Int) ≤ E := he2; omega
      have hep' : ep ≤ 1000000 := by omega
      clear he1 he2
      go_wp2_with fail
      refine (put_4 (.slice al acc.length cl) acc ep _ (HRD.out.below (by repeat (first | (with_reducible exact Below.refl _ _) | (with_reducible refine Below.setCell ?_ ?_ _) | (with_reducible refine Below.alloc ?_ ?_ _) | (with_reducible refine Below.drewN ?_ _) | (with_reducible refine Below.drew ?_) | (with_reducible exact Nat.le_refl _) | (focus (simp only [World.size_alloc, World.size_setCell, World.size_drew, World.size_drewN]; omega)) | omega | exact Nat.le_refl _ | (focus (simp; done)) | (focus (simp; omega))))) (by omega) (by omega) (by omega)).mono ?_
      rintro e w4 ⟨v4, rfl, ho4, hb4⟩
      obtain ⟨a4, m4, c4, rfl, HM4⟩ := owns_len ho4
      have hm4 : m4 = acc.length + 4 := by have := HM4.out; simpa using this
      have hm4' : m4 ≤ 50000 := by omega
      have HM4' := Lib.hid hm4
      clear hm4
      have ho4' := ownsRow_cast ho4 HM4.out.symm rfl
      simp only [World.size_alloc] at ho4'
      have HO4 := Lib.hid ho4'
      clear ho4'
      obtain ⟨hc4, hf4⟩ := bcell hb4
      have hz4 := hb4.size
      simp only [World.size_alloc] at hz4
      have hz4' : wr.heap.size < w4.heap.size := by omega
      have HB4 := Lib.hid (Below.trans (B := w3.heap.size) (a := wr) (by repeat (first | (with_reducible exact Below.refl _ _) | (with_reducible refine Below.setCell ?_ ?_ _) | (with_reducible refine Below.alloc ?_ ?_ _) | (with_reducible refine Below.drewN ?_ _) | (with_reducible refine Below.drew ?_) | (with_reducible exact Nat.le_refl _) | (focus (simp only [World.size_alloc, World.size_setCell, World.size_drew, World.size_drewN]; omega)) | omega | exact Nat.le_refl _ | (focus (simp; done)) | (focus (simp; omega)))) (hb4.mono (by simp; omega)))
      clear ho4 hb4 hz4 HM4
      have kx : w4.cell? ⟨wr.heap.size, 5, none⟩ = some (.bool xs) := by rw [hc4 _ _ (by simp)]; simp
      have ix0 : ∀ w, (Instr.index 30 (.agg #[.int .i64 xa, .int .i64 xb, .int .i64 xc]) (.int .i64 0)).run Try.prog w = .ok (.int .i64 xa) w := fun _ => by kernel_rfl
      have ix1 : ∀ w, (Instr.index 30 (.agg #[.int .i64 xa, .int .i64 xb, .int .i64 xc]) (.int .i64 1)).run Try.prog w = .ok (.int .i64 xb) w := fun _ => by kernel_rfl
      have ix2 : ∀ w, (Instr.index 30 (.agg #[.int .i64 xa, .int .i64 xb, .int .i64 xc]) (.int .i64 2)).run Try.prog w = .ok (.int .i64 xc) w := fun _ => by kernel_rfl
      go_wp2_with fail
      refine wp_loop_rounds 4 ?_
      rw [rounds_succ]
      go_wp2_with (at_builtin; refine wpList_append_own _ rfl _ _ 44 rfl (wr.heap.size + 1) 5 i0 (.int .u8 0) 1 1 Try.underlying44 HI.out HZ0.out HZ1.out HZ2.out rfl (by decide) (.slice a4 m4 c4) m4 _ rfl (HO4.out.alloc _) ⟨w4.heap.size, 0, none⟩ 1 1 [.int .u8 (xa % 256)] rfl rfl (cell_one_new _ _ _) (by simp [Value.oneCell']) (by unfold maxLen; omega) (by omega) (by simp; omega) ?_; intro v5 w5 hown hgrow _; have kx : w5.cell? ⟨wr.heap.size, 5, none⟩ = some (.bool xs) := (grown_cell (b := wr.heap.size) (o := 5) hgrow (by simp; omega) (fun e => by have := (HO4.out.lt _ e).1; omega)).trans (by go_simp); have hl5 : wr.heap.size < w5.heap.size := (by have := hgrow.size; simp at this; omega); have HB5 := Lib.hid (Below.grown (HB4.out.alloc (by have := HB4.out.size; omega) _) hgrow (by simp; omega) (fun g e => by have := (HO4.out.lt _ e).1; omega)); have HO5 := Lib.hid hown; clear hown hgrow)
      rw [rounds_succ]
      go_wp2_with (at_builtin; refine wpList_append_own _ rfl _ _ 44 rfl (wr.heap.size + 1) 5 i0 (.int .u8 0) 1 1 Try.underlying44 HI.out HZ0.out HZ1.out HZ2.out rfl (by decide) v5 (m4 + 1) _ rfl (HO5.out.alloc _) ⟨w5.heap.size, 0, none⟩ 1 1 [.int .u8 (xb % 256)] rfl rfl (cell_one_new _ _ _) (by simp [Value.oneCell']) (by unfold maxLen; omega) (by omega) (by simp; omega) ?_; intro v6 w6 hown hgrow _; have kx : w6.cell? ⟨wr.heap.size, 5, none⟩ = some (.bool xs) := (grown_cell (b := wr.heap.size) (o := 5) hgrow (by simp; omega) (fun e => by have := (HO5.out.lt _ e).1; omega)).trans (by go_simp); have hl6 : wr.heap.size < w6.heap.size := (by have := hgrow.size; simp at this; omega); have HB6 := Lib.hid (Below.grown (HB5.out.alloc (by have := HB5.out.size; omega) _) hgrow (by simp; omega) (fun g e => by have := (HO5.out.lt _ e).1; omega)); have HO6 := Lib.hid hown; clear hown hgrow)
      rw [rounds_succ]
      go_wp2_with (at_builtin; refine wpList_append_own _ rfl _ _ 44 rfl (wr.heap.size + 1) 5 i0 (.int .u8 0) 1 1 Try.underlying44 HI.out HZ0.out HZ1.out HZ2.out rfl (by decide) v6 (m4 + 1 + 1) _ rfl (HO6.out.alloc _) ⟨w6.heap.size, 0, none⟩ 1 1 [.int .u8 (xc % 256)] rfl rfl (cell_one_new _ _ _) (by simp [Value.oneCell']) (by unfold maxLen; omega) (by omega) (by simp; omega) ?_; intro v7 w7 hown hgrow _; have kx : w7.cell? ⟨wr.heap.size, 5, none⟩ = some (.bool xs) := (grown_cell (b := wr.heap.size) (o := 5) hgrow (by simp; omega) (fun e => by have := (HO6.out.lt _ e).1; omega)).trans (by go_simp); have hl7 : wr.heap.size < w7.heap.size := (by have := hgrow.size; simp at this; omega); have HB7 := Lib.hid (Below.grown (HB6.out.alloc (by have := HB6.out.size; omega) _) hgrow (by simp; omega) (fun g e => by have := (HO6.out.lt _ e).1; omega)); have HO7 := Lib.hid hown; clear hown hgrow)
      rw [rounds_succ]
      cases xs
      · go_wp2_with (at_builtin; refine wpList_append_own _ rfl _ _ 44 rfl (wr.heap.size + 1) 5 i0 (.int .u8 0) 1 1 Try.underlying44 HI.out HZ0.out HZ1.out HZ2.out rfl (by decide) v7 (m4 + 1 + 1 + 1) _ rfl (HO7.out.alloc _) ⟨w7.heap.size, 0, none⟩ 1 1 [.int .u8 (0)] rfl rfl (cell_one_new _ _ _) (by simp [Value.oneCell']) (by unfold maxLen; omega) (by omega) (by simp; omega) ?_; intro v8 w8 hown hgrow _; have kx : w8.cell? ⟨wr.heap.size, 5, none⟩ = some (.bool false) := (grown_cell (b := wr.heap.size) (o := 5) hgrow (by simp; omega) (fun e => by have := (HO7.out.lt _ e).1; omega)).trans (by go_simp); have hl8 : wr.heap.size < w8.heap.size := (by have := hgrow.size; simp at this; omega); have HB8 := Lib.hid (Below.grown (HB7.out.alloc (by have := HB7.out.size; omega) _) hgrow (by simp; omega) (fun g e => by have := (HO7.out.lt _ e).1; omega)); have HO8 := Lib.hid hown; clear hown hgrow)
        go_roundw
        case rel => exact ⟨k + 1, by omega, by go_num, by
          rw [HX.out]
          exact ownsRow_mono (ownsRow_cast HO8.out (by rw [List.length_append, entBytes_len]; have := HM4'.out; omega) (by simp [entBytes, bv, ofI_toNat, List.map_append])) (by omega), HBW.out.trans HB8.out⟩
        case measure => simp [intOf]; omega
      · go_wp2_with (at_builtin; refine wpList_append_own _ rfl _ _ 44 rfl (wr.heap.size + 1) 5 i0 (.int .u8 0) 1 1 Try.underlying44 HI.out HZ0.out HZ1.out HZ2.out rfl (by decide) v7 (m4 + 1 + 1 + 1) _ rfl (HO7.out.alloc _) ⟨w7.heap.size, 0, none⟩ 1 1 [.int .u8 (1)] rfl rfl (cell_one_new _ _ _) (by simp [Value.oneCell']) (by unfold maxLen; omega) (by omega) (by simp; omega) ?_; intro v8 w8 hown hgrow _; have kx : w8.cell? ⟨wr.heap.size, 5, none⟩ = some (.bool true) := (grown_cell (b := wr.heap.size) (o := 5) hgrow (by simp; omega) (fun e => by have := (HO7.out.lt _ e).1; omega)).trans (by go_simp); have hl8 : wr.heap.size < w8.heap.size := (by have := hgrow.size; simp at this; omega); have HB8 := Lib.hid (Below.grown (HB7.out.alloc (by have := HB7.out.size; omega) _) hgrow (by simp; omega) (fun g e => by have := (HO7.out.lt _ e).1; omega)); have HO8 := Lib.hid hown; clear hown hgrow)
        go_roundw
        case rel => exact ⟨k + 1, by omega, by go_num, by
          rw [HX.out]
          exact ownsRow_mono (ownsRow_cast HO8.out (by rw [List.length_append, entBytes_len]; have := HM4'.out; omega) (by simp [entBytes, bv, ofI_toNat, List.map_append])) (by omega), HBW.out.trans HB8.out⟩
        case measure => simp [intOf]; omega
    · have HOW := Lib.hid hown
      clear hown hbw
      have HK := Lib.hid (show es.take k = es from List.take_of_length_le (by omega))
      obtain ⟨al, cl, rfl⟩ := ownsRow_len HOW.out
      go_wp2_with fail
      go_ret
      refine ⟨_, rfl, ?_, HB3.out.trans (HBW.out.mono hz3)⟩
      have := HOW.out
      rw [HK.out] at this ⊢
      exact ownsRow_mono this hz3
end Go.Proofs.Ytigkcbnlbdiimaa

/- corncribref01.Bytes. -/
namespace Go.Proofs.Ytigkcbnlbdiimaa
open Go.RowKit
/-- The first k of the bytes of a number, the others 0. -/
def someBytes (n k size : Nat) : List UInt8 := (List.range size).map fun j => if j < k then nthByte n j else 0
theorem someBytes_all (n size : Nat) : someBytes n size size = (List.range size).map (nthByte n) := by
  unfold someBytes
  apply List.map_congr_left
  intro j hj
  rw [if_pos (List.mem_range.1 hj)]
theorem someBytes_set (n k size : Nat) (hk : k < size) : ((someBytes n k size).map bv).set k (bv (nthByte n k)) = (someBytes n (k + 1) size).map bv := by
  apply List.ext_getElem?
  intro j
  by_cases hj : j = k
  · subst hj
    simp [someBytes, hk]
  · rw [List.getElem?_set_ne (by omega)]
    by_cases hl : j < size
    · have e : (j < k + 1) = (j < k) := by simp; omega
      simp [someBytes, hl, e]
    · simp [someBytes, hl]
theorem nth_div (n k : Nat) : (nthByte n k).toNat = n / 256 ^ k % 256 := by
  unfold nthByte
  rw [UInt8.toNat_ofNat']
set_option maxRecDepth 100000 in
set_option maxHeartbeats 2000000 in
theorem bytes01_any (n : Nat) (s : Int) (size : Nat) (w : World) (hn : n < 18446744073709551616) (hs : s = (size : Int)) (hsz : size ≤ 1000) :
    Calls Try.prog 70 #[.int .u64 n, .int .i64 s] w
      fun e w' => e = .returned (.tuple #[.slice (some ⟨w.heap.size, 0, none⟩) size size, .bool (((n / 256 ^ size : Nat) : Int) == 0)]) ∧ w'.ownsRow w.heap.size 5 1 (.slice (some ⟨w.heap.size, 0, none⟩) size size) size (((List.range size).map (nthByte n)).map bv) ∧ Below w.heap.size w w' := by
  subst hs
  obtain ⟨i0, hi, hz0, hz1, hz2⟩ := info_parts byte_info
  have HI := Lib.hid hi
  have HZ0 := Lib.hid hz0
  have HZ1 := Lib.hid hz1
  have HZ2 := Lib.hid hz2
  clear hi hz0 hz1 hz2
  go_enter Try.func70, Try.ntmps70
  go_wp2_with (refine wpList_make_full _ rfl _ _ 44 rfl w.heap.size 5 i0 (.int .u8 0) 1 Try.underlying44 HI.out HZ0.out HZ1.out .i64 .i64 _ _ size rfl rfl rfl rfl (by rw [HZ2.out]; omega) (by unfold maxLen; omega) (Nat.le_refl _) ?_; intro w1 hown hgrow; have HO := Lib.hid hown; have HG := Lib.hid hgrow; clear hown hgrow)
  go_loopw [0, 7] (fun x i wr => ∃ k : Nat, k ≤ size ∧ i = .int .i64 k ∧ x = .int .u64 ((n / 256 ^ k : Nat) : Int) ∧ wr.ownsRow w.heap.size 5 1 (.slice (some ⟨w.heap.size, 0, none⟩) size size) size ((someBytes n k size).map bv) ∧ Below w.heap.size w wr) (fun _ i _ => size - (intOf i).toNat)
  case atStart =>
    refine ⟨0, Nat.zero_le _, rfl, by simp, ownsRow_cast HO.out rfl ?_, Below.grown (Below.refl _ _) HG.out (Nat.le_refl _) (fun _ h => by cases h)⟩
    show (madeCells #[.int .u8 0] (size * 1)).toList = _
    rw [toList_madeCells_one]
    apply List.ext_getElem
    · simp [someBytes]
    · intro i h1 h2
      simp [someBytes, bv]
  case round =>
    obtain ⟨k, hk, rfl, rfl, hown, hb⟩ := hrel
    have HO' := Lib.hid hown
    have HB := Lib.hid hb
    have kf := hown.frozenAt k
    have hzb := hb.size
    clear HO
    have hq : n / 256 ^ k < 18446744073709551616 := Nat.lt_of_le_of_lt (Nat.div_le_self _ _) hn
    have HNX := Lib.hid (show n / 256 ^ k / 256 = n / 256 ^ (k + 1) by rw [Nat.div_div_eq_div_mul, Nat.pow_succ])
    have HNB := Lib.hid (nth_div n k)
    by_cases hlt : k < size
    · have kc := hown.cellAt k (by omega)
      rw [List.getElem?_eq_getElem (by simp [someBytes]; omega)] at kc
      generalize ((someBytes n k size).map bv)[k]'_ = old at kc
      clear hown hb
      generalize n / 256 ^ k = q at *
      go_wp2
      refine ⟨⟨k + 1, by omega, by go_num, by rw [← HNX.out]; simp, ?_, HB.out.setCell (Nat.le_refl _) _⟩, by simp [intOf]; omega⟩
      have h := (HO'.out.stored k (bv (nthByte n k))).1
      rw [someBytes_set n k size hlt] at h
      have e : bv (nthByte n k) = .int .u8 ((q : Int) % 256) := by unfold bv; rw [HNB.out]; simp
      rw [e] at h
      exact h
    · clear hown hb
      have hks : k = size := by omega
      subst hks
      generalize hq0 : n / 256 ^ k = q at *
      have HQ := Lib.hid hq0
      clear hq0
      go_wp2
      go_ret2
      exact ⟨by rw [HQ.out]; rfl, by rw [← someBytes_all]; exact HO'.out, HB.out⟩
end Go.Proofs.Ytigkcbnlbdiimaa

/- corncribref19.Bytes. -/
namespace Go.Proofs.Ytigkcbnlbdiimaa
open Go.RowKit
set_option maxRecDepth 100000 in
set_option maxHeartbeats 4000000 in
theorem ref_bytes (base : Nat) (v : Value) (es : List Ent) (E : Int) (w : World) (h : w.ownsRow base 128 6 v es.length (es.flatMap Ent.row)) (hfew : es.length ≤ 4096) (hg : Good E es) (hE : E ≤ 1000000) :
    Calls Try.prog 40 #[v] w
      fun e w' => ∃ v', e = .returned v' ∧ w'.ownsRow w.heap.size 5 1 v' (mapBytes es).length ((mapBytes es).map bv) ∧ Below w.heap.size w w' := by
  have H := Lib.hid h
  have HGO := Lib.hid hg
  obtain ⟨a0, cap0, rfl⟩ := ownsRow_len h
  clear h hg
  obtain ⟨i0, hi, hz0, hz1, hz2⟩ := info_parts byte_info
  have HI := Lib.hid hi
  have HZ0 := Lib.hid hz0
  have HZ1 := Lib.hid hz1
  have HZ2 := Lib.hid hz2
  clear hi hz0 hz1 hz2
  go_enter Try.func40, Try.ntmps40
  go_wp2_with fail
  go_loopw [3, 4, 5, 6, 7] (fun l i _ _ _ wr => ∃ k : Nat, k ≤ es.length ∧ i = .int .i64 k ∧ wr.ownsRow w.heap.size 5 1 l (mapBytes (es.take k)).length ((mapBytes (es.take k)).map bv) ∧ Below w.heap.size w wr) (fun _ i _ _ _ _ => es.length - (intOf i).toNat)
  case atStart => exact ⟨0, Nat.zero_le _, rfl, World.ownsRow_nil _ _ _ _, Below.refl _ _⟩
  case round =>
    obtain ⟨k, hk, rfl, hown, hbw⟩ := hrel
    have HBW := Lib.hid hbw
    have hzr := hbw.size
    by_cases hlt : k < es.length
    · obtain ⟨x, hx⟩ : ∃ x, es[k]? = some x := ⟨_, List.getElem?_eq_getElem hlt⟩
      have HXX := Lib.hid hx
      obtain ⟨g3, cc3, e3, hg3, _, _, x0, x1, x2, x3, x4, x5⟩ := row_ent19 (ownsRow_below H.out hbw) k x hx
      obtain ⟨e3', -, e3''⟩ := slice_inj e3
      subst e3' e3''
      have hgw : g3 < w.heap.size := (H.out.lt g3 rfl).2
      obtain ⟨-, he1, he2⟩ := HGO.out k x hx
      have HX := Lib.hid (mapBytes_snoc es k x hx)
      have hnl : (mapBytes (es.take k)).length ≤ 40000 := by rw [mapBytes_len]; simp; omega
      have HR := Lib.hid hown
      clear hown hbw e3 hx
      generalize mapBytes (es.take k) = acc at *
      obtain ⟨xv, xe, xa, xb, xc, xs⟩ := x
      obtain ⟨ep, rfl⟩ : ∃ ep : Nat, xe = (ep : Int) := ⟨xe.toNat, by have h : 1 ≤ xe := he1; omega⟩
      have hep : (ep : Int) ≤ 1000000 := by have h : (ep : Int) ≤ E := he2; omega
      have hep' : ep ≤ 1000000 := by omega
      clear he1 he2
      have hk0 : (0 : Int) ≤ (k : Int) := by omega
      have hk1 : (k : Int) < (es.length : Int) := by omega
      go_wp2_with fail
      refine (bytes01_any ep 4 4 _ (by omega) rfl (by omega)).mono ?_
      rintro e w4 ⟨rfl, ho4, hb4⟩
      have HO4 := Lib.hid ho4
      have HR4 := Lib.hid (ownsRow_below HR.out hb4)
      have hz4 := hb4.size
      have HB4 := Lib.hid (HBW.out.trans (hb4.mono hzr))
      clear ho4 hb4
      obtain ⟨al, cl, rfl⟩ := ownsRow_len HR4.out
      go_wp2_with (at_builtin; refine wpList_append_own _ rfl _ _ 44 rfl w.heap.size 5 i0 (.int .u8 0) 1 1 Try.underlying44 HI.out HZ0.out HZ1.out HZ2.out rfl (by decide) (.slice al acc.length cl) acc.length _ rfl HR4.out ⟨wr.heap.size, 0, none⟩ 4 4 (((List.range 4).map (nthByte ep)).map bv) rfl rfl (HO4.out.cells (g := wr.heap.size) rfl) (bv_one _) (by unfold maxLen; omega) (by omega) (by omega) ?_; intro v5 w5 hown hgrow _; have hz5 := hgrow.size; have HB5 := Lib.hid (Below.grown HB4.out hgrow (by omega) (fun g e => (HR4.out.lt g e).1)); have HO5 := Lib.hid hown; clear hown hgrow)
      have hm4' : acc.length + 4 ≤ 50000 := by omega
      have HM4 := Lib.hid (show acc.length + 4 = (acc ++ (List.range 4).map (nthByte ep)).length by simp)
      generalize acc.length + 4 = m4 at *
      go_wp2_with fail
      refine wp_loop_rounds 4 ?_
      obtain ⟨g_5, c_5, e_5, -, -, -, -, -, y0, y1, y2, y3⟩ := row_ent19 (ownsRow_below H.out HB5.out) k _ HXX.out
      obtain ⟨e_p, -, -⟩ := slice_inj e_5
      have e_q : g3 = g_5 := by simpa using e_p
      subst e_q
      simp only at y0 y1 y2 y3
      clear e_p e_5
      rw [rounds_succ]
      go_wp2_with (at_builtin; refine wpList_append_own _ rfl _ _ 44 rfl w.heap.size 5 i0 (.int .u8 0) 1 1 Try.underlying44 HI.out HZ0.out HZ1.out HZ2.out rfl (by decide) v5 (m4) _ rfl (HO5.out.alloc _) ⟨w5.heap.size, 0, none⟩ 1 1 [.int .u8 (xa % 256)] rfl rfl (cell_one_new _ _ _) (by simp [Value.oneCell']) (by unfold maxLen; omega) (by omega) (by simp; omega) ?_; intro v6 w6 hown hgrow _; have hz6 := hgrow.size; simp only [World.size_alloc] at hz6; have HB6 := Lib.hid (Below.grown (HB5.out.alloc (by omega) _) hgrow (by simp; omega) (fun g e => (HO5.out.lt g e).1)); have HO6 := Lib.hid hown; clear hown hgrow)
      clear y0 y1 y2 y3
      obtain ⟨g_6, c_6, e_6, -, -, -, -, -, y0, y1, y2, y3⟩ := row_ent19 (ownsRow_below H.out HB6.out) k _ HXX.out
      obtain ⟨e_p, -, -⟩ := slice_inj e_6
      have e_q : g3 = g_6 := by simpa using e_p
      subst e_q
      simp only at y0 y1 y2 y3
      clear e_p e_6
      rw [rounds_succ]
      go_wp2_with (at_builtin; refine wpList_append_own _ rfl _ _ 44 rfl w.heap.size 5 i0 (.int .u8 0) 1 1 Try.underlying44 HI.out HZ0.out HZ1.out HZ2.out rfl (by decide) v6 (m4 + 1) _ rfl (HO6.out.alloc _) ⟨w6.heap.size, 0, none⟩ 1 1 [.int .u8 (xb % 256)] rfl rfl (cell_one_new _ _ _) (by simp [Value.oneCell']) (by unfold maxLen; omega) (by omega) (by simp; omega) ?_; intro v7 w7 hown hgrow _; have hz7 := hgrow.size; simp only [World.size_alloc] at hz7; have HB7 := Lib.hid (Below.grown (HB6.out.alloc (by omega) _) hgrow (by simp; omega) (fun g e => (HO6.out.lt g e).1)); have HO7 := Lib.hid hown; clear hown hgrow)
      clear y0 y1 y2 y3
      obtain ⟨g_7, c_7, e_7, -, -, -, -, -, y0, y1, y2, y3⟩ := row_ent19 (ownsRow_below H.out HB7.out) k _ HXX.out
      obtain ⟨e_p, -, -⟩ := slice_inj e_7
      have e_q : g3 = g_7 := by simpa using e_p
      subst e_q
      simp only at y0 y1 y2 y3
      clear e_p e_7
      rw [rounds_succ]
      go_wp2_with (at_builtin; refine wpList_append_own _ rfl _ _ 44 rfl w.heap.size 5 i0 (.int .u8 0) 1 1 Try.underlying44 HI.out HZ0.out HZ1.out HZ2.out rfl (by decide) v7 (m4 + 1 + 1) _ rfl (HO7.out.alloc _) ⟨w7.heap.size, 0, none⟩ 1 1 [.int .u8 (xc % 256)] rfl rfl (cell_one_new _ _ _) (by simp [Value.oneCell']) (by unfold maxLen; omega) (by omega) (by simp; omega) ?_; intro v8 w8 hown hgrow _; have hz8 := hgrow.size; simp only [World.size_alloc] at hz8; have HB8 := Lib.hid (Below.grown (HB7.out.alloc (by omega) _) hgrow (by simp; omega) (fun g e => (HO7.out.lt g e).1)); have HO8 := Lib.hid hown; clear hown hgrow)
      clear y0 y1 y2 y3
      obtain ⟨g_8, c_8, e_8, -, -, -, -, -, y0, y1, y2, y3⟩ := row_ent19 (ownsRow_below H.out HB8.out) k _ HXX.out
      obtain ⟨e_p, -, -⟩ := slice_inj e_8
      have e_q : g3 = g_8 := by simpa using e_p
      subst e_q
      simp only at y0 y1 y2 y3
      clear e_p e_8
      rw [rounds_succ]
      cases xs
      · go_wp2_with (at_builtin; refine wpList_append_own _ rfl _ _ 44 rfl w.heap.size 5 i0 (.int .u8 0) 1 1 Try.underlying44 HI.out HZ0.out HZ1.out HZ2.out rfl (by decide) v8 (m4 + 1 + 1 + 1) _ rfl (HO8.out.alloc _) ⟨w8.heap.size, 0, none⟩ 1 1 [.int .u8 (0)] rfl rfl (cell_one_new _ _ _) (by simp [Value.oneCell']) (by unfold maxLen; omega) (by omega) (by simp; omega) ?_; intro v9 w9 hown hgrow _; have hz9 := hgrow.size; simp only [World.size_alloc] at hz9; have HB9 := Lib.hid (Below.grown (HB8.out.alloc (by omega) _) hgrow (by simp; omega) (fun g e => (HO8.out.lt g e).1)); have HO9 := Lib.hid hown; clear hown hgrow)
        go_roundw
        case rel => exact ⟨k + 1, by omega, by go_num, by
          rw [HX.out]
          exact ownsRow_cast HO9.out (by rw [List.length_append, entBytes_len]; have := HM4.out; simp at this; omega) (by simp [entBytes, bv, ofI_toNat, List.map_append]), HB9.out⟩
        case measure => simp [intOf]; omega
      · go_wp2_with (at_builtin; refine wpList_append_own _ rfl _ _ 44 rfl w.heap.size 5 i0 (.int .u8 0) 1 1 Try.underlying44 HI.out HZ0.out HZ1.out HZ2.out rfl (by decide) v8 (m4 + 1 + 1 + 1) _ rfl (HO8.out.alloc _) ⟨w8.heap.size, 0, none⟩ 1 1 [.int .u8 (1)] rfl rfl (cell_one_new _ _ _) (by simp [Value.oneCell']) (by unfold maxLen; omega) (by omega) (by simp; omega) ?_; intro v9 w9 hown hgrow _; have hz9 := hgrow.size; simp only [World.size_alloc] at hz9; have HB9 := Lib.hid (Below.grown (HB8.out.alloc (by omega) _) hgrow (by simp; omega) (fun g e => (HO8.out.lt g e).1)); have HO9 := Lib.hid hown; clear hown hgrow)
        go_roundw
        case rel => exact ⟨k + 1, by omega, by go_num, by
          rw [HX.out]
          exact ownsRow_cast HO9.out (by rw [List.length_append, entBytes_len]; have := HM4.out; simp at this; omega) (by simp [entBytes, bv, ofI_toNat, List.map_append]), HB9.out⟩
        case measure => simp [intOf]; omega
    · have HOW := Lib.hid hown
      clear hown hbw
      have HK := Lib.hid (show es.take k = es from List.take_of_length_le (by omega))
      obtain ⟨al, cl, rfl⟩ := ownsRow_len HOW.out
      go_wp2_with fail
      go_ret
      refine ⟨_, rfl, ?_, HBW.out⟩
      have := HOW.out
      rw [HK.out] at this ⊢
      exact this
end Go.Proofs.Ytigkcbnlbdiimaa

/- A region that draws its order, walked along a plan, as XOrderT; who waits for whom stands in bit masks, checked once (a great region would take the elder check too long). -/
namespace Go.Proofs.Ytigkcbnlbdiimaa
open Go.RowKit
def bitOf (ms : List Nat) (j i : Nat) : Bool := (ms.getD j 0).testBit i
def stepMask (ms : List Nat) (o : Oper) (j : Nat) : Nat := o.after.toList.foldl (fun m e => if (Region.binds .any e && decide (e.on < j)) = true then m ||| (2 ^ e.on ||| ms.getD e.on 0) else m) 0
def okMasks (ops : Array Oper) (ms : List Nat) : Bool := (List.range ops.size).all fun j => match ops[j]? with | some o => ms.getD j 0 == stepMask ms o j | none => true
theorem fold_bit (ms : List Nat) (j i : Nat) : ∀ (l : List Edge) (m : Nat), (l.foldl (fun m e => if (Region.binds .any e && decide (e.on < j)) = true then m ||| (2 ^ e.on ||| ms.getD e.on 0) else m) m).testBit i = true →
    m.testBit i = true ∨ ∃ e ∈ l, Region.binds .any e = true ∧ e.on < j ∧ (e.on = i ∨ bitOf ms e.on i = true)
  | [], m, h => .inl h
  | e :: l, m, h => by
    rw [List.foldl_cons] at h
    rcases fold_bit ms j i l _ h with h1 | ⟨e', he, h2⟩
    · split at h1
      · rename_i hb
        simp only [Bool.and_eq_true, decide_eq_true_eq] at hb
        rw [Nat.testBit_or, Nat.testBit_or, Nat.testBit_two_pow] at h1
        simp only [Bool.or_eq_true, decide_eq_true_eq] at h1
        rcases h1 with h1 | h1 | h1
        · exact .inl h1
        · exact .inr ⟨e, List.mem_cons_self, hb.1, hb.2, .inl h1⟩
        · exact .inr ⟨e, List.mem_cons_self, hb.1, hb.2, .inr h1⟩
      · exact .inl h1
    · exact .inr ⟨e', List.mem_cons_of_mem _ he, h2⟩
theorem Closed.bits {ops : Array Oper} {ms : List Nat} {listed : Array Bool} (hc : Closed ops listed) (hm : okMasks ops ms = true) (i : Nat) : ∀ (n j : Nat), j < n → ∀ (o : Oper), ops[j]? = some o → (∀ e ∈ o.after, Region.binds .any e = true → listed.getD e.on false = true) →
    bitOf ms j i = true → listed.getD i false = true
  | 0, _, h, _, _, _, _ => by omega
  | n + 1, j, hj, o, ho, hall, h => by
    have hjs := (Array.getElem?_eq_some_iff.1 ho).1
    simp only [okMasks, List.all_eq_true, List.mem_range] at hm
    have h1 := hm j hjs
    rw [ho] at h1
    simp only [beq_iff_eq] at h1
    unfold bitOf at h
    rw [h1] at h
    rcases fold_bit ms j i _ _ h with h2 | ⟨e, he, hb, hlt, h3⟩
    · simp at h2
    · have hon := hall e (by simpa using he) hb
      rcases h3 with rfl | h3
      · exact hon
      · have ho' : ops[e.on]? = some ops[e.on] := Array.getElem?_eq_getElem (by omega)
        refine Closed.bits hc (by simp only [okMasks, List.all_eq_true, List.mem_range]; exact hm) i n e.on (by omega) _ ho' (hc e.on _ ho' (getD_true_of_false hon)) h3
def needsM (ms : List Nat) (rds : List Nat) (j : Nat) : Bool := rds.any fun r => r != j && !bitOf ms j r
def freeM (ops : Array Oper) (ms : List Nat) (rds : List Nat) (rd : Bool) (listed : Array Bool) (i : Nat) (oi : Oper) : Bool :=
  (List.range ops.size).all fun j => j == i || !unlisted listed j || bitOf ms j i || match ops[j]? with
    | some oj => oi.apart ops oj && (!rd || needsM ms rds j)
    | none => true
section
variable {P : Program} {ops : Array Oper} {Q : Exit → Go.Act → World → Prop} {S : World → Prop} {rds ms : List Nat}
/-- As wpAny, and S is said behind each operation behind which it is needed. -/
def wpAnyM (P : Program) (ops : Array Oper) (ms : List Nat) (rds : List Nat) (Q : Exit → Go.Act → World → Prop) (S : World → Prop) : Nat → Array Bool → Go.Act → World → Prop
  | 0, listed, a, w => Region.ready .any ops listed = [] ∧ Q .normal a w
  | fuel + 1, listed, a, w =>
    (Region.ready .any ops listed = [] → Q .normal a w) ∧
    ∀ i ∈ Region.ready .any ops listed, wpOp P ops Q i (fun a' w' => (needsM ms rds i = true → S w → S w') ∧ wpAnyM P ops ms rds Q S fuel (listed.setIfInBounds i true) a' w') a w
theorem wpAny_of_M : ∀ (fuel : Nat) (listed : Array Bool) (a : Go.Act) (w : World), wpAnyM P ops ms rds Q S fuel listed a w → wpAny P .any ops Q fuel listed a w
  | 0, _, _, _, h => h
  | fuel + 1, listed, a, w, h => ⟨h.1, fun i hi => wpOp_mono (fun a' w' h' => wpAny_of_M fuel _ a' w' h'.2) (h.2 i hi)⟩

theorem wpAnyM_first (hms : okMasks ops ms = true) {T : World → Prop} {i : Nat} {oi : Oper} {v : Value} {rd : Bool} (hi : ops[i]? = some oi) (hsel : ∀ (j : Nat) (o : Oper) cs b, ops[j]? = some o → o.op ≠ .select cs b)
    (hQ : ∀ c a w, Q (.panic c) (a.put oi.dst v) w → Q (.panic c) a w) (hTS : rd = true → ∀ w, S w → T w) (hST : rd = true → ∀ w, T w → S w) (hT0 : rd = false → ∀ w, T w) :
    ∀ (fuel : Nat) (listed : Array Bool) (a : Go.Act) (w : World), Closed ops listed →
      (∀ j oj, ops[j]? = some oj → j ≠ i → listed.getD j true = false → bitOf ms j i = true ∨ (oi.apart ops oj = true ∧ (rd = true → needsM ms rds j = true))) →
      i ∈ Region.ready .any ops listed → T w → YieldsT P ops T oi v a →
      wpAnyM P ops ms rds Q S fuel (listed.setIfInBounds i true) (a.put oi.dst v) w → wpAnyM P ops ms rds Q S (fuel + 1) listed a w := by
  intro fuel
  induction fuel with
  | zero =>
    intro listed a w _ _ hr hT hy H
    refine ⟨fun h => (by rw [h] at hr; cases hr), fun j hj => ?_⟩
    by_cases hji : j = i
    · subst hji; exact hy.wpOp hi hT ⟨fun _ h => h, H⟩
    · have := ready_mono hj hji
      rw [H.1] at this
      cases this
  | succ fuel ih =>
    intro listed a w hcl hfree hr hT hy H
    refine ⟨fun h => (by rw [h] at hr; cases hr), fun j hj => ?_⟩
    by_cases hji : j = i
    · subst hji; exact hy.wpOp hi hT ⟨fun _ h => h, H⟩
    · have h1 := H.2 j (ready_mono hj hji)
      obtain ⟨hjun, oj, hoj, hall⟩ := mem_ready.1 hj
      have hiun := (mem_ready.1 hr).1
      have hnot : ¬ bitOf ms j i = true := fun hw => by
        have h1 := hcl.bits hms i _ j (Nat.lt_succ_self j) oj hoj hall hw
        have h2 := getD_true_of_false h1
        rw [hiun] at h2
        cases h2
      obtain ⟨hap, hnd⟩ := (hfree j oj hoj hji hjun).resolve_left hnot
      have h2 := wpOp_putT hoj hap (fun cs b => hsel i oi cs b hi) (fun cs b => hsel j oj cs b hoj) hQ hy h1
      have hfree' : ∀ k ok, ops[k]? = some ok → k ≠ i → (listed.setIfInBounds j true).getD k true = false →
          bitOf ms k i = true ∨ (oi.apart ops ok = true ∧ (rd = true → needsM ms rds k = true)) := fun k ok hk hki hun => by
        refine hfree k ok hk hki ?_
        by_cases hjk : j = k
        · subst hjk; exact hjun
        · rw [getD_set_ne true hjk] at hun; exact hun
      refine wpOp_mono (fun a' w' h3 => ?_) h2
      obtain ⟨h4, h5, h6⟩ := h3
      refine ⟨h5, ?_⟩
      have hT' : T w' := by
        cases hrd : rd with
        | true => exact hTS hrd w' (h5 (hnd hrd) (hST hrd w hT))
        | false => exact hT0 hrd w'
      refine ih (listed.setIfInBounds j true) a' w' (hcl.ready hj) hfree' (ready_mono hr (Ne.symm hji)) hT' h4 ?_
      rw [Array.setIfInBounds_comm _ _ hji]
      exact h6

theorem freeM_spec {rd : Bool} {listed : Array Bool} {i : Nat} {oi : Oper} (h : freeM ops ms rds rd listed i oi = true) (j : Nat) (oj : Oper) (hj : ops[j]? = some oj) (hne : j ≠ i) (hun : listed.getD j true = false) :
    bitOf ms j i = true ∨ (oi.apart ops oj = true ∧ (rd = true → needsM ms rds j = true)) := by
  simp only [freeM, List.all_eq_true, List.mem_range] at h
  have h1 := h j (Array.getElem?_eq_some_iff.1 hj).1
  simp only [hj, Bool.or_eq_true, Bool.and_eq_true, beq_iff_eq, hne, false_or, unlisted_of hun, Bool.not_true, Bool.false_eq_true, Bool.not_eq_true'] at h1
  rcases h1 with h1 | ⟨h1, h2⟩
  · exact .inl h1
  · exact .inr ⟨h1, fun hr => h2.resolve_left (by simp [hr])⟩

def okPlanM (ops : Array Oper) (ms rds : List Nat) : Bool → Array Bool → Plan → Bool
  | _, listed, .nil => (Region.ready .any ops listed).isEmpty
  | has, listed, .op i k rest => (match ops[i]? with
    | some oi => (Region.ready .any ops listed).contains i &&
      (match k with
       | 0 => freeM ops ms rds false listed i oi && okPlanM ops ms rds has (listed.setIfInBounds i true) rest
       | 1 => (Region.ready .any ops listed == [i]) && okPlanM ops ms rds (has && needsM ms rds i) (listed.setIfInBounds i true) rest
       | _ => has && freeM ops ms rds true listed i oi && okPlanM ops ms rds has (listed.setIfInBounds i true) rest)
    | none => false)
  | has, listed, .two i pi j pj => (ops[i]?).isSome && (ops[j]?).isSome && (Region.ready .any ops listed == [i, j]) && (pi.len == pj.len) &&
      okPlanM ops ms rds (has && needsM ms rds i) (listed.setIfInBounds i true) pi && okPlanM ops ms rds (has && needsM ms rds j) (listed.setIfInBounds j true) pj
def wpM (P : Program) (ops : Array Oper) (ms : List Nat) (rds : List Nat) (Q : Exit → Go.Act → World → Prop) (S : World → Prop) : Plan → Go.Act → World → Prop
  | .nil, a, w => Q .normal a w
  | .op i k rest, a, w => match ops[i]? with
    | none => False
    | some oi => match k with
      | 0 => ∃ v, YieldsT P ops (fun _ => True) oi v a ∧ wpM P ops ms rds Q S rest (a.put oi.dst v) w
      | 1 => wpOp P ops Q i (fun a' w' => (needsM ms rds i = true → S w → S w') ∧ wpM P ops ms rds Q S rest a' w') a w
      | _ => ∃ v, YieldsT P ops S oi v a ∧ wpM P ops ms rds Q S rest (a.put oi.dst v) w
  | .two i pi j pj, a, w => wpOp P ops Q i (fun a' w' => (needsM ms rds i = true → S w → S w') ∧ wpM P ops ms rds Q S pi a' w') a w ∧
      wpOp P ops Q j (fun a' w' => (needsM ms rds j = true → S w → S w') ∧ wpM P ops ms rds Q S pj a' w') a w
theorem wpN_of_M (hms : okMasks ops ms = true) (hsel : ∀ (j : Nat) (o : Oper) cs b, ops[j]? = some o → o.op ≠ .select cs b) (hQ : ∀ c a d v w, Q (.panic c) (a.put d v) w → Q (.panic c) a w) :
    ∀ (l : Plan) (has : Bool) (listed : Array Bool) (a : Go.Act) (w : World), Closed ops listed → okPlanM ops ms rds has listed l = true → (has = true → S w) →
      wpM P ops ms rds Q S l a w → wpAnyM P ops ms rds Q S l.len listed a w
  | .nil, has, listed, a, w, _, hok, _, h => ⟨by simpa [okPlanM] using hok, h⟩
  | .two i pi j pj, has, listed, a, w, hcl, hok, hS, h => by
    simp only [okPlanM, Bool.and_eq_true, beq_iff_eq] at hok
    obtain ⟨⟨⟨⟨⟨_, _⟩, hr⟩, hlen⟩, ho1⟩, ho2⟩ := hok
    have hri : i ∈ Region.ready .any ops listed := by rw [hr]; simp
    have hrj : j ∈ Region.ready .any ops listed := by rw [hr]; simp
    refine ⟨fun e => (by rw [e] at hr; cases hr), fun m hm => ?_⟩
    rw [hr] at hm
    rcases List.mem_cons.1 hm with hmi | hm
    · subst hmi
      refine wpOp_mono (fun a' w' h' => ⟨h'.1, wpN_of_M hms hsel hQ pi (has && needsM ms rds m) _ a' w' (hcl.ready hri) ho1 (fun e => ?_) h'.2⟩) h.1
      simp only [Bool.and_eq_true] at e
      exact h'.1 e.2 (hS e.1)
    · have hmj : m = j := by simpa using hm
      subst hmj
      refine wpOp_mono (fun a' w' h' => ⟨h'.1, ?_⟩) h.2
      have := wpN_of_M hms hsel hQ pj (has && needsM ms rds m) _ a' w' (hcl.ready hrj) ho2 (fun e => by
        simp only [Bool.and_eq_true] at e
        exact h'.1 e.2 (hS e.1)) h'.2
      rwa [← hlen] at this
  | .op i k rest, has, listed, a, w, hcl, hok, hS, h => by
    cases hi : ops[i]? with
    | none => simp [okPlanM, hi] at hok
    | some oi =>
      simp only [okPlanM, hi, Bool.and_eq_true, List.contains_iff_mem] at hok
      obtain ⟨hr, hok⟩ := hok
      simp only [wpM, hi] at h
      match k, hok, h with
      | 0, hok, h =>
        simp only [Bool.and_eq_true] at hok
        obtain ⟨v, hy, h⟩ := h
        refine wpAnyM_first hms (T := fun _ => True) (rd := false) hi hsel (fun c a w => hQ c a _ _ w) (fun e => by cases e) (fun e => by cases e) (fun _ _ => trivial) rest.len listed a w hcl (freeM_spec hok.1) hr trivial hy ?_
        exact wpN_of_M hms hsel hQ rest has _ _ w (hcl.ready hr) hok.2 hS h
      | 1, hok, h =>
        simp only [Bool.and_eq_true, beq_iff_eq] at hok
        refine ⟨fun e => (by rw [e] at hr; cases hr), fun j hj => ?_⟩
        rw [hok.1] at hj
        have hji : j = i := by simpa using hj
        subst hji
        refine wpOp_mono (fun a' w' h' => ⟨h'.1, wpN_of_M hms hsel hQ rest (has && needsM ms rds j) _ a' w' (hcl.ready hr) hok.2 (fun e => ?_) h'.2⟩) h
        simp only [Bool.and_eq_true] at e
        exact h'.1 e.2 (hS e.1)
      | k + 2, hok, h =>
        simp only [Bool.and_eq_true] at hok
        obtain ⟨v, hy, h⟩ := h
        refine wpAnyM_first hms (T := S) (rd := true) hi hsel (fun c a w => hQ c a _ _ w) (fun _ _ h => h) (fun _ _ h => h) (fun e => by cases e) rest.len listed a w hcl (freeM_spec hok.1.2) hr (hS hok.1.1) hy ?_
        exact wpN_of_M hms hsel hQ rest has _ _ w (hcl.ready hr) hok.2 hS h
theorem wp_region_mask0 {id : Nat} {a : Go.Act} {w : World} (S : World → Prop) (rds ms : List Nat) (l : Plan) (hm : P.follows .mixedOrders = true) (hsel : Region.noSelect ops = true)
    (hlen : l.len = ops.size) (hms : okMasks ops ms = true) (hok : okPlanM ops ms rds true (Array.replicate ops.size false) l = true)
    (hS : S w.drew) (h : wpM P ops ms rds (onlyNormal Q) S l a w.drew) : (Code.region id ops true).wp P Q a w := by
  refine wp_mono (?_ : (Code.region id ops true).wp P (onlyNormal Q) a w) (fun e a w h => by cases e <;> first | exact h | exact False.elim h)
  refine wp_region_any hm (wpAny_of_M (ms := ms) (rds := rds) (S := S) _ _ _ _ ?_)
  rw [← hlen]
  refine wpN_of_M hms (fun j o cs b => Region.noSelect_spec hsel j o cs b) (fun _ _ _ _ _ h => h) l true _ a _ ?_ (by rw [hlen]; exact hok) (fun _ => hS) h
  intro j o ho hj
  rcases Nat.lt_or_ge j l.len with h' | h'
  · simp [h'] at hj
  · have := (Array.getElem?_eq_some_iff.1 ho).1
    omega
section
variable {o : Oper} {i : Nat} {rest : Plan} {a : Go.Act} {w : World}
theorem stepMnil0 (h : Q .normal a w) : wpM P ops ms rds (onlyNormal Q) S .nil a w := h
theorem stepM0 (ho : ops[i]? = some o) (hw : Region.wanted o (yielded ops a.tmps) = true)
    (h : ∀ K : Go.Act → Prop, (∀ a, wpM P ops ms rds Q S rest a w → K a) → ∃ v, (∀ w1 : World, (execOp a.eval o).run P w1 = .ok (.value v) w1) ∧ K (a.put o.dst v)) : wpM P ops ms rds Q S (.op i 0 rest) a w := by
  obtain ⟨v, h1, h2⟩ := h _ (fun _ h => h)
  simp only [wpM, ho]
  exact ⟨v, .inl ⟨hw, fun w1 _ => h1 w1⟩, h2⟩
theorem stepM2 (ho : ops[i]? = some o) (hw : Region.wanted o (yielded ops a.tmps) = true) (v : Value) (h1 : ∀ w1 : World, S w1 → (execOp a.eval o).run P w1 = .ok (.value v) w1)
    (h : ∀ K : Go.Act → Prop, (∀ a, wpM P ops ms rds Q S rest a w → K a) → K (a.put o.dst v)) : wpM P ops ms rds Q S (.op i 2 rest) a w := by
  have h2 := h _ (fun _ h => h)
  simp only [wpM, ho]
  exact ⟨v, .inl ⟨hw, h1⟩, h2⟩
theorem stepM1 (ho : ops[i]? = some o) (hw : Region.wanted o (yielded ops a.tmps) = true) (hn : needsM ms rds i = false)
    (h : ∀ K : Go.Act → World → Prop, (∀ a' w', wpM P ops ms rds Q S rest a' w' → K a' w') → o.wp P a w K Q) : wpM P ops ms rds Q S (.op i 1 rest) a w := by
  simp only [wpM, ho, wpOp, hw, if_true]
  exact .inl (h _ fun a' w' h => ⟨fun e => absurd e (by rw [hn]; simp), h⟩)
theorem stepM1S (ho : ops[i]? = some o) (hw : Region.wanted o (yielded ops a.tmps) = true)
    (h : ∀ K : Go.Act → World → Prop, (∀ a' w', S w' ∧ wpM P ops ms rds Q S rest a' w' → K a' w') → o.wp P a w K Q) : wpM P ops ms rds Q S (.op i 1 rest) a w := by
  simp only [wpM, ho, wpOp, hw, if_true]
  exact .inl (h _ fun a' w' h => ⟨fun _ _ => h.1, h.2⟩)
theorem stepMy0 (ho : ops[i]? = some o) (hw : Region.wanted o (yielded ops a.tmps) = false)
    (h : ∀ K : Go.Act → Prop, (∀ a, wpM P ops ms rds Q S rest a w → K a) → K (a.put o.dst undef)) : wpM P ops ms rds Q S (.op i 0 rest) a w := by
  have h2 := h _ (fun _ h => h)
  simp only [wpM, ho]
  exact ⟨undef, .inr ⟨hw, rfl⟩, h2⟩
theorem stepMy2 (ho : ops[i]? = some o) (hw : Region.wanted o (yielded ops a.tmps) = false)
    (h : ∀ K : Go.Act → Prop, (∀ a, wpM P ops ms rds Q S rest a w → K a) → K (a.put o.dst undef)) : wpM P ops ms rds Q S (.op i 2 rest) a w := by
  have h2 := h _ (fun _ h => h)
  simp only [wpM, ho]
  exact ⟨undef, .inr ⟨hw, rfl⟩, h2⟩
theorem stepMy1 (ho : ops[i]? = some o) (hw : Region.wanted o (yielded ops a.tmps) = false)
    (h : ∀ K : Go.Act → Prop, (∀ a, wpM P ops ms rds Q S rest a w → K a) → K (a.put o.dst undef)) : wpM P ops ms rds Q S (.op i 1 rest) a w := by
  have h2 := h _ (fun _ h => h)
  simp only [wpM, ho, wpOp, hw, Bool.false_eq_true, if_false]
  exact ⟨fun _ h => h, h2⟩
theorem stepMx0 (ho : ops[i]? = some o) (hw : Region.wanted o (yielded ops a.tmps) = false) (h : wpM P ops ms rds Q S rest (a.put o.dst undef) w) : wpM P ops ms rds Q S (.op i 0 rest) a w := by
  simp only [wpM, ho]
  exact ⟨undef, .inr ⟨hw, rfl⟩, h⟩
theorem stepMx2 (ho : ops[i]? = some o) (hw : Region.wanted o (yielded ops a.tmps) = false) (h : wpM P ops ms rds Q S rest (a.put o.dst undef) w) : wpM P ops ms rds Q S (.op i 2 rest) a w := by
  simp only [wpM, ho]
  exact ⟨undef, .inr ⟨hw, rfl⟩, h⟩
theorem stepMx1 (ho : ops[i]? = some o) (hw : Region.wanted o (yielded ops a.tmps) = false) (h : wpM P ops ms rds Q S rest (a.put o.dst undef) w) : wpM P ops ms rds Q S (.op i 1 rest) a w := by
  simp only [wpM, ho, wpOp, hw, Bool.false_eq_true, if_false]
  exact ⟨fun _ h => h, h⟩
theorem stepMnil (h : Q .normal a w) : wpM P ops ms rds Q S .nil a w := h
theorem stepMtwo {pi pj : Plan} {j : Nat} (h1 : wpM P ops ms rds Q S (.op i 1 pi) a w) (h2 : wpM P ops ms rds Q S (.op j 1 pj) a w) (hi : (ops[i]?).isSome = true) (hj : (ops[j]?).isSome = true) : wpM P ops ms rds Q S (.two i pi j pj) a w := by
  obtain ⟨oi, hi⟩ := Option.isSome_iff_exists.1 hi
  obtain ⟨oj, hj⟩ := Option.isSome_iff_exists.1 hj
  simp only [wpM, hi] at h1
  simp only [wpM, hj] at h2
  exact ⟨h1, h2⟩
end
end
end Go.Proofs.Ytigkcbnlbdiimaa

/- corncribref27: Has, Load; the plain words of layer 27. -/
namespace Go.Proofs.Ytigkcbnlbdiimaa
open Go.RowKit
/-- Where an entry has a node; below 0: nowhere. -/
def hasI (x : Ent) (n : Int) : Int := if x.n0 = n then 0 else if x.n1 = n then 1 else if x.n2 = n then 2 else -1
def hasB (x : Ent) (n : Int) : Bool := x.n0 == n || x.n1 == n || x.n2 == n
theorem hasI_pos (x : Ent) (n : Int) : decide (0 ≤ hasI x n) = hasB x n := by
  unfold hasI hasB
  by_cases h0 : x.n0 = n
  · simp [h0]
  · by_cases h1 : x.n1 = n
    · simp [h0, h1]
    · by_cases h2 : x.n2 = n <;> simp [h0, h1, h2]
def loadN (es : List Ent) (n : Int) : Nat := es.countP fun x => hasB x n
theorem loadN_snoc (es : List Ent) (k : Nat) (x : Ent) (hx : es[k]? = some x) (n : Int) : loadN (es.take (k + 1)) n = loadN (es.take k) n + if hasB x n then 1 else 0 := by
  rw [take_snoc_get es k x hx]
  simp [loadN, List.countP_append, List.countP_cons]
theorem loadN_le (es : List Ent) (n : Int) : loadN es n ≤ es.length := List.countP_le_length
set_option maxRecDepth 100000 in
set_option maxHeartbeats 1000000 in
theorem has_any (x : Ent) (n : Int) (w : World) :
    Calls Try.prog 74 #[.agg #[.int .i64 x.vol, .int .i64 x.epoch, .int .i64 x.n0, .int .i64 x.n1, .int .i64 x.n2, .bool x.shut], .int .i64 n] w
      fun e w' => e = .returned (.int .i64 (hasI x n)) ∧ Below w.heap.size w w' := by
  obtain ⟨v, ep, a, b, c, s⟩ := x
  by_cases h0 : a = n
  · have HR := Lib.hid (show hasI ⟨v, ep, a, b, c, s⟩ n = 0 by simp [hasI, h0])
    have b0 : (a == n) = true := by simpa using h0
    clear h0
    go_enter Try.func74, Try.ntmps74
    go_wp2
    refine wp_loop_rounds 4 ?_
    rw [rounds_succ]
    go_wp2
    go_ret
    exact ⟨by rw [HR.out]; rfl, (by repeat (first | (with_reducible exact Below.refl _ _) | (with_reducible refine Below.setCell ?_ ?_ _) | (with_reducible refine Below.alloc ?_ ?_ _) | (with_reducible refine Below.drewN ?_ _) | (with_reducible refine Below.drew ?_) | (with_reducible exact Nat.le_refl _) | (focus (simp only [World.size_alloc, World.size_setCell, World.size_drew, World.size_drewN]; omega)) | omega | exact Nat.le_refl _ | (focus (simp; done)) | (focus (simp; omega))))⟩
  by_cases h1 : b = n
  · have HR := Lib.hid (show hasI ⟨v, ep, a, b, c, s⟩ n = 1 by simp [hasI, h0, h1])
    have b0 : (a == n) = false := by simpa using h0
    have b1 : (b == n) = true := by simpa using h1
    clear h0 h1
    go_enter Try.func74, Try.ntmps74
    go_wp2
    refine wp_loop_rounds 4 ?_
    rw [rounds_succ]
    go_wp2
    rw [rounds_succ]
    go_wp2
    go_ret
    exact ⟨by rw [HR.out]; rfl, (by repeat (first | (with_reducible exact Below.refl _ _) | (with_reducible refine Below.setCell ?_ ?_ _) | (with_reducible refine Below.alloc ?_ ?_ _) | (with_reducible refine Below.drewN ?_ _) | (with_reducible refine Below.drew ?_) | (with_reducible exact Nat.le_refl _) | (focus (simp only [World.size_alloc, World.size_setCell, World.size_drew, World.size_drewN]; omega)) | omega | exact Nat.le_refl _ | (focus (simp; done)) | (focus (simp; omega))))⟩
  by_cases h2 : c = n
  · have HR := Lib.hid (show hasI ⟨v, ep, a, b, c, s⟩ n = 2 by simp [hasI, h0, h1, h2])
    have b0 : (a == n) = false := by simpa using h0
    have b1 : (b == n) = false := by simpa using h1
    have b2 : (c == n) = true := by simpa using h2
    clear h0 h1 h2
    go_enter Try.func74, Try.ntmps74
    go_wp2
    refine wp_loop_rounds 4 ?_
    rw [rounds_succ]
    go_wp2
    rw [rounds_succ]
    go_wp2
    rw [rounds_succ]
    go_wp2
    go_ret
    exact ⟨by rw [HR.out]; rfl, (by repeat (first | (with_reducible exact Below.refl _ _) | (with_reducible refine Below.setCell ?_ ?_ _) | (with_reducible refine Below.alloc ?_ ?_ _) | (with_reducible refine Below.drewN ?_ _) | (with_reducible refine Below.drew ?_) | (with_reducible exact Nat.le_refl _) | (focus (simp only [World.size_alloc, World.size_setCell, World.size_drew, World.size_drewN]; omega)) | omega | exact Nat.le_refl _ | (focus (simp; done)) | (focus (simp; omega))))⟩
  · have HR := Lib.hid (show hasI ⟨v, ep, a, b, c, s⟩ n = -1 by simp [hasI, h0, h1, h2])
    have b0 : (a == n) = false := by simpa using h0
    have b1 : (b == n) = false := by simpa using h1
    have b2 : (c == n) = false := by simpa using h2
    clear h0 h1 h2
    go_enter Try.func74, Try.ntmps74
    go_wp2
    refine wp_loop_rounds 4 ?_
    rw [rounds_succ]
    go_wp2
    rw [rounds_succ]
    go_wp2
    rw [rounds_succ]
    go_wp2
    rw [rounds_succ]
    go_wp2
    go_ret
    exact ⟨by rw [HR.out]; rfl, (by repeat (first | (with_reducible exact Below.refl _ _) | (with_reducible refine Below.setCell ?_ ?_ _) | (with_reducible refine Below.alloc ?_ ?_ _) | (with_reducible refine Below.drewN ?_ _) | (with_reducible refine Below.drew ?_) | (with_reducible exact Nat.le_refl _) | (focus (simp only [World.size_alloc, World.size_setCell, World.size_drew, World.size_drewN]; omega)) | omega | exact Nat.le_refl _ | (focus (simp; done)) | (focus (simp; omega))))⟩
set_option maxRecDepth 100000 in
set_option maxHeartbeats 2000000 in
theorem rload_any (base : Nat) (v : Value) (es : List Ent) (n : Int) (w : World) (h : w.ownsRow base 128 6 v es.length (es.flatMap Ent.row)) (hfew : es.length ≤ 4096) :
    Calls Try.prog 46 #[v, .int .i64 n] w fun e w' => e = .returned (.int .i64 (loadN es n)) ∧ Below w.heap.size w w' := by
  have H := Lib.hid h
  obtain ⟨a0, cap0, rfl⟩ := ownsRow_len h
  clear h
  go_enter Try.func46, Try.ntmps46
  go_wp2_with fail
  go_loopw [5, 6] (fun c i wr => ∃ k : Nat, k ≤ es.length ∧ i = .int .i64 k ∧ c = .int .i64 (loadN (es.take k) n) ∧ Below w.heap.size w wr) (fun _ i _ => es.length - (intOf i).toNat)
  case atStart => exact ⟨0, Nat.zero_le _, rfl, by simp [loadN], Below.refl _ _⟩
  case round =>
    obtain ⟨k, hk, rfl, rfl, hbw⟩ := hrel
    have HBW := Lib.hid hbw
    have hzr := hbw.size
    by_cases hlt : k < es.length
    · obtain ⟨x, hx⟩ : ∃ x, es[k]? = some x := ⟨_, List.getElem?_eq_getElem hlt⟩
      obtain ⟨g3, cc3, e3, hg3, _, _, x0, x1, x2, x3, x4, x5⟩ := row_ent19 (ownsRow_below H.out hbw) k x hx
      obtain ⟨e3', -, e3''⟩ := slice_inj e3
      subst e3' e3''
      have HS := Lib.hid (loadN_snoc es k x hx n)
      have HP := Lib.hid (hasI_pos x n)
      have hle := loadN_le (es.take k) n
      rw [List.length_take] at hle
      have hle' : loadN (es.take k) n ≤ 4096 := by omega
      generalize loadN (es.take k) n = c at *
      clear hbw e3 hx hle
      have hk0 : (0 : Int) ≤ (k : Int) := by omega
      have hk1 : (k : Int) < (es.length : Int) := by omega
      have hc0 : (0 : Int) ≤ (c : Int) := by omega
      have hc1 : (c : Int) ≤ 4096 := by omega
      obtain ⟨xv, xe, xa, xb, xc, xs⟩ := x
      cases hb : hasB ⟨xv, xe, xa, xb, xc, xs⟩ n
      · have hi : decide (0 ≤ hasI ⟨xv, xe, xa, xb, xc, xs⟩ n) = false := by rw [HP.out]; exact hb
        rw [hb] at HS
        have HB := Lib.hid hb
        clear hb
        go_wp2_with fail
        refine (has_any ⟨xv, xe, xa, xb, xc, xs⟩ n _).mono ?_
        rintro e w4 ⟨rfl, hb4⟩
        generalize hasI ⟨xv, xe, xa, xb, xc, xs⟩ n = r at *
        have HB4 := Lib.hid (HBW.out.trans (hb4.mono hzr))
        clear hb4
        go_wp2_with fail
        go_roundw
        case rel => exact ⟨k + 1, by omega, by go_num, by rw [HS.out]; simp, HB4.out⟩
        case measure => simp [intOf]; omega
      · have hi : decide (0 ≤ hasI ⟨xv, xe, xa, xb, xc, xs⟩ n) = true := by rw [HP.out]; exact hb
        rw [hb] at HS
        have HB := Lib.hid hb
        clear hb
        go_wp2_with fail
        refine (has_any ⟨xv, xe, xa, xb, xc, xs⟩ n _).mono ?_
        rintro e w4 ⟨rfl, hb4⟩
        generalize hasI ⟨xv, xe, xa, xb, xc, xs⟩ n = r at *
        have HB4 := Lib.hid (HBW.out.trans (hb4.mono hzr))
        clear hb4
        go_wp2_with fail
        go_roundw
        case rel => exact ⟨k + 1, by omega, by go_num, by rw [HS.out]; simp, HB4.out⟩
        case measure => simp [intOf]; omega
    · have HK := Lib.hid (show es.take k = es from List.take_of_length_le (by omega))
      clear hbw
      go_wp2_with fail
      go_ret
      exact ⟨by rw [HK.out]; rfl, HBW.out⟩
end Go.Proofs.Ytigkcbnlbdiimaa

/- corncriblaw27.same; place.right, corncribref27.Right. -/
namespace Go.Proofs.Ytigkcbnlbdiimaa
open Go.RowKit
set_option maxRecDepth 100000 in
set_option maxHeartbeats 1000000 in
theorem samei_any (va vb : Value) (xs ys : List Int) (w : World) (ha : Reads w 1 va xs.length (xs.map (Value.int .i64))) (hb : Reads w 1 vb ys.length (ys.map (Value.int .i64))) :
    Calls Try.prog 50 #[va, vb] w fun e w' => e = .returned (.bool (decide (xs = ys))) ∧ Below w.heap.size w w' := by
  obtain ⟨a1, c1, rfl⟩ := reads_len ha
  obtain ⟨a2, c2, rfl⟩ := reads_len hb
  by_cases hl : xs.length = ys.length
  · have hdl : ((xs.length : Int) != (ys.length : Int)) = false := by rw [hl]; simp
    have HL := Lib.hid hl
    have HA := Lib.hid ha
    have HB := Lib.hid hb
    clear hl ha hb
    go_enter Try.func50, Try.ntmps50
    go_wp2
    go_loopw [5] (fun i wr => ∃ k : Nat, k ≤ xs.length ∧ i = .int .i64 k ∧ xs.take k = ys.take k ∧ Below w.heap.size w wr) (fun i _ => xs.length - (intOf i).toNat)
    case atStart => exact ⟨0, Nat.zero_le _, rfl, rfl, Below.refl _ _⟩
    case round =>
      obtain ⟨k, hk, rfl, ht, hbw⟩ := hrel
      have HT := Lib.hid ht
      have HBW := Lib.hid hbw
      clear ht hbw
      by_cases hlt : k < xs.length
      · have hlt2 : k < ys.length := by have := HL.out; omega
        obtain ⟨b1, o1, _, e1, hb1, hm1, hc1⟩ := reads_addr HA.out (by omega)
        obtain ⟨b2, o2, _, e2, hb2, hm2, hc2⟩ := reads_addr HB.out (by omega)
        obtain ⟨rfl, -, rfl⟩ := sl_inj e1
        obtain ⟨rfl, -, rfl⟩ := sl_inj e2
        have k1 := (HBW.out.cell (p := ⟨b1, o1 + k, none⟩) hb1).trans (hc1 k (Value.int .i64 xs[k]) (by rw [List.getElem?_map, List.getElem?_eq_getElem hlt]; rfl))
        have k2 := (HBW.out.cell (p := ⟨b2, o2 + k, none⟩) hb2).trans (hc2 k (Value.int .i64 ys[k]) (by rw [List.getElem?_map, List.getElem?_eq_getElem hlt2]; rfl))
        unfold maxLen at hm1 hm2
        clear e1 e2 hc1 hc2
        have hi0 : (0 : Int) ≤ (k : Int) := by omega
        have hi1 : (k : Int) < (xs.length : Int) := by omega
        have hi2 : (k : Int) < (ys.length : Int) := by omega
        have HX := Lib.hid (show xs.take (k + 1) = xs.take k ++ [xs[k]] by rw [List.take_succ_eq_append_getElem hlt])
        have HY := Lib.hid (show ys.take (k + 1) = ys.take k ++ [ys[k]] by rw [List.take_succ_eq_append_getElem hlt2])
        obtain ⟨x, hx⟩ : ∃ x, xs[k] = x := ⟨_, rfl⟩
        obtain ⟨y, hy⟩ : ∃ y, ys[k] = y := ⟨_, rfl⟩
        have HXX := Lib.hid hx
        have HYY := Lib.hid hy
        rw [hx] at k1
        rw [hy] at k2
        clear hx hy
        by_cases hxy : x = y
        · have hxe : (x != y) = false := by rw [hxy]; simp
          have HXY := Lib.hid hxy
          clear hxy
          go_wp2_with fail
          refine wp_region_now0 [3, 7] [(0, 0), (1, 0), (2, 0), (3, 2), (4, 0), (5, 0), (6, 0), (7, 2), (8, 0)] (by kernel_rfl) (by kernel_rfl) rfl (by kernel_rfl) ?_
          refine stepE0 rfl rfl (fun K hK => ?_)
          go_simp
          refine hK _ ?_
          clear hK K
          refine stepE0 rfl rfl (fun K hK => ?_)
          go_simp
          refine hK _ ?_
          clear hK K
          refine stepE0 rfl rfl (fun K hK => ?_)
          go_simp
          refine hK _ ?_
          clear hK K
          refine stepE2 rfl rfl ?_ (fun w1 hS => ?_) (fun K hK => ?_)
          rotate_left
          focus (obtain rfl : w1 = _ := hS; go_simp; rfl)
          go_simp
          refine hK _ ?_
          clear hK K
          refine stepE0 rfl rfl (fun K hK => ?_)
          go_simp
          refine hK _ ?_
          clear hK K
          refine stepE0 rfl rfl (fun K hK => ?_)
          go_simp
          refine hK _ ?_
          clear hK K
          refine stepE0 rfl rfl (fun K hK => ?_)
          go_simp
          refine hK _ ?_
          clear hK K
          refine stepE2 rfl rfl ?_ (fun w1 hS => ?_) (fun K hK => ?_)
          rotate_left
          focus (obtain rfl : w1 = _ := hS; go_simp; rfl)
          go_simp
          refine hK _ ?_
          clear hK K
          refine stepE0 rfl rfl (fun K hK => ?_)
          go_simp
          refine hK _ ?_
          clear hK K
          try refine stepEnil0 ?_
          go_wp2_with fail
          go_roundw
          case rel => exact ⟨k + 1, by omega, by go_num, by rw [HX.out, HY.out, HT.out, HXX.out, HYY.out, HXY.out], HBW.out.drew⟩
          case measure => simp [intOf]; omega
        · have hxe : (x != y) = true := by rw [bne_iff_ne]; exact hxy
          have HXY := Lib.hid hxy
          clear hxy
          go_wp2_with fail
          refine wp_region_now0 [3, 7] [(0, 0), (1, 0), (2, 0), (3, 2), (4, 0), (5, 0), (6, 0), (7, 2), (8, 0)] (by kernel_rfl) (by kernel_rfl) rfl (by kernel_rfl) ?_
          refine stepE0 rfl rfl (fun K hK => ?_)
          go_simp
          refine hK _ ?_
          clear hK K
          refine stepE0 rfl rfl (fun K hK => ?_)
          go_simp
          refine hK _ ?_
          clear hK K
          refine stepE0 rfl rfl (fun K hK => ?_)
          go_simp
          refine hK _ ?_
          clear hK K
          refine stepE2 rfl rfl ?_ (fun w1 hS => ?_) (fun K hK => ?_)
          rotate_left
          focus (obtain rfl : w1 = _ := hS; go_simp; rfl)
          go_simp
          refine hK _ ?_
          clear hK K
          refine stepE0 rfl rfl (fun K hK => ?_)
          go_simp
          refine hK _ ?_
          clear hK K
          refine stepE0 rfl rfl (fun K hK => ?_)
          go_simp
          refine hK _ ?_
          clear hK K
          refine stepE0 rfl rfl (fun K hK => ?_)
          go_simp
          refine hK _ ?_
          clear hK K
          refine stepE2 rfl rfl ?_ (fun w1 hS => ?_) (fun K hK => ?_)
          rotate_left
          focus (obtain rfl : w1 = _ := hS; go_simp; rfl)
          go_simp
          refine hK _ ?_
          clear hK K
          refine stepE0 rfl rfl (fun K hK => ?_)
          go_simp
          refine hK _ ?_
          clear hK K
          try refine stepEnil0 ?_
          go_wp2_with fail
          go_ret
          refine ⟨ret_bool (decide_eq_false fun h => HXY.out ?_).symm, HBW.out.drew⟩
          subst h
          rw [← HXX.out, ← HYY.out]
      · go_wp2_with fail
        go_ret
        refine ⟨ret_bool (decide_eq_true ?_).symm, HBW.out⟩
        have := HT.out
        rwa [List.take_of_length_le (by omega), List.take_of_length_le (by have := HL.out; omega)] at this
  · have hdl : ((xs.length : Int) != (ys.length : Int)) = true := by rw [bne_iff_ne]; omega
    have HL := Lib.hid hl
    clear hl ha hb
    go_enter Try.func50, Try.ntmps50
    go_wp2
    go_ret
    exact ⟨ret_bool (decide_eq_false fun h => HL.out (by rw [h])).symm, Below.refl _ _⟩
/-- The first k numbers may be nodes, no two alike. -/
def prefOk (ns : List Int) (k : Nat) : Bool := (List.range k).all fun i => placeB (ns.getD i 0) && !(ns.take i).contains (ns.getD i 0)
def rightB (ns : List Int) : Bool := decide (ns.length ≤ 64) && prefOk ns ns.length
theorem prefOk_succ (ns : List Int) (k : Nat) : prefOk ns (k + 1) = (prefOk ns k && (placeB (ns.getD k 0) && !(ns.take k).contains (ns.getD k 0))) := by
  unfold prefOk
  rw [List.range_succ, List.all_append]
  simp
theorem prefOk_false {ns : List Int} {k m : Nat} (h : prefOk ns k = false) (hm : k ≤ m) : prefOk ns m = false := by
  induction m with
  | zero => simpa [show k = 0 by omega] using h
  | succ m ih =>
    by_cases hk : k = m + 1
    · rw [← hk]; exact h
    · rw [prefOk_succ, ih (by omega)]; rfl
theorem ints_at {w : World} {v : Value} {ns : List Int} (h : Reads w 1 v ns.length (ns.map (Value.int .i64))) (hn : 0 < ns.length) :
    ∃ b o c, v = .slice (some ⟨b, o, none⟩) ns.length c ∧ b < w.heap.size ∧ ns.length ≤ maxLen ∧ ∀ i, i < ns.length → w.cell? ⟨b, o + i, none⟩ = some (.int .i64 (ns.getD i 0)) := by
  obtain ⟨b, o, c, h1, h2, h3, h4⟩ := reads_addr h hn
  exact ⟨b, o, c, h1, h2, h3, fun i hi => h4 i _ (by rw [List.getElem?_map, List.getElem?_eq_getElem hi]; simp [hi])⟩
set_option maxRecDepth 100000 in
set_option maxHeartbeats 2000000 in
theorem right27_any (v : Value) (ns : List Int) (cap : Nat) (ao : Option Addr) (w : World) (hv : v = .slice ao ns.length cap) (h : Reads w 1 v ns.length (ns.map (Value.int .i64))) (hcap : ns.length ≤ cap) :
    Calls Try.prog 71 #[v] w fun e w' => e = .returned (.bool (rightB ns)) ∧ w = w' := by
  subst hv
  by_cases hl : ns.length ≤ 64
  · have hd : decide ((64 : Int) < (ns.length : Int)) = false := by simp; omega
    have HR := Lib.hid (show rightB ns = prefOk ns ns.length by simp [rightB, hl])
    have H := Lib.hid h
    clear h
    go_enter Try.func71, Try.ntmps71
    go_wp2_with fail
    go_loop [10] (fun i => ∃ k : Nat, k ≤ ns.length ∧ i = .int .i64 k ∧ prefOk ns k = true) (fun i => ns.length - (intOf i).toNat)
    case atStart => exact ⟨0, Nat.zero_le _, rfl, rfl⟩
    case round =>
      obtain ⟨k, hk, rfl, hp⟩ := hrel
      have HP := Lib.hid hp
      clear hp
      by_cases hlt : k < ns.length
      · obtain ⟨b, o, c, e1, hb, hm, hc⟩ := ints_at H.out (by omega)
        obtain ⟨rfl, -, rfl⟩ := sl_inj e1
        unfold maxLen at hm
        have kc := hc k hlt
        have HC := Lib.hid hc
        have HS := Lib.hid (prefOk_succ ns k)
        have HF := Lib.hid (fun h => prefOk_false (ns := ns) (k := k + 1) (m := ns.length) h (by omega))
        clear hc e1
        obtain ⟨x, hx⟩ : ∃ x, ns.getD k 0 = x := ⟨_, rfl⟩
        rw [hx] at kc
        have HX := Lib.hid hx
        clear hx
        have hk0 : (0 : Int) ≤ (k : Int) := by omega
        have hk1 : (k : Int) < (ns.length : Int) := by omega
        have hk2 : (k : Int) ≤ (cap : Int) := by omega
        by_cases hx0 : x < 0
        · have hpl : placeB x = false := by simp [placeB]; omega
          have HPL := Lib.hid hpl
          clear hpl
          go_wp2_with fail
          go_ret
          exact ⟨by rw [HR.out, HF.out (by rw [HS.out, HX.out, HPL.out]; simp)]; rfl, rfl⟩
        have hx0' : decide (x < 0) = false := by simpa using hx0
        by_cases hx1 : 255 < x
        · have hpl : placeB x = false := by simp [placeB]; omega
          have HPL := Lib.hid hpl
          clear hpl hx0
          go_wp2_with fail
          go_ret
          exact ⟨by rw [HR.out, HF.out (by rw [HS.out, HX.out, HPL.out]; simp)]; rfl, rfl⟩
        have hx1' : decide (255 < x) = false := by simpa using hx1
        have HPL := Lib.hid (show placeB x = true by simp [placeB]; omega)
        clear hx0 hx1
        go_wp2_with fail
        refine (contains_any b o k cap (ns.take k) x _ (by rw [List.length_take]; omega) (fun i hi => ?_) (by unfold maxLen; omega)).mono ?_
        · have h1 := HC.out i (by omega)
          rw [h1]
          congr 2
          simp [hi]
        rintro e w' ⟨rfl, rfl⟩
        cases hct : (ns.take k).contains x
        · have HCT := Lib.hid hct
          clear hct
          go_wp2_with fail
          go_round
          case rel => exact ⟨k + 1, by omega, by go_num, by rw [HS.out, HP.out, HX.out, HPL.out, HCT.out]; rfl⟩
          case measure => simp [intOf]; omega
        · have HCT := Lib.hid hct
          clear hct
          go_wp2_with fail
          go_ret
          exact ⟨by rw [HR.out, HF.out (by rw [HS.out, HX.out, HCT.out]; simp)]; rfl, rfl⟩
      · have HKK := Lib.hid (show k = ns.length by omega)
        go_wp2_with fail
        go_ret
        exact ⟨by rw [HR.out, ← HKK.out, HP.out]; rfl, rfl⟩
  · have hd : decide ((64 : Int) < (ns.length : Int)) = true := by simp; omega
    have HR := Lib.hid (show rightB ns = false by simp [rightB]; omega)
    clear h
    go_enter Try.func71, Try.ntmps71
    go_wp2_with fail
    go_ret
    exact ⟨by rw [HR.out]; rfl, rfl⟩
end Go.Proofs.Ytigkcbnlbdiimaa

/- corncribref27.Right; corncriblaw27.made. -/
namespace Go.Proofs.Ytigkcbnlbdiimaa
open Go.RowKit
set_option maxRecDepth 100000 in
set_option maxHeartbeats 4000000 in
theorem rright_any (v : Value) (ns : List Int) (w : World) (h : Reads w 1 v ns.length (ns.map (Value.int .i64))) :
    Calls Try.prog 47 #[v] w fun e w' => e = .returned (.bool (rightB ns)) ∧ Below w.heap.size w w' := by
  obtain ⟨ao, cap, rfl⟩ := reads_len h
  have H := Lib.hid h
  clear h
  go_enter Try.func47, Try.ntmps47
  go_wp2_with fail
  go_loopw [3, 4] (fun i _ wr => ∃ k : Nat, k ≤ ns.length ∧ i = .int .i64 k ∧ prefOk ns k = true ∧ Below w.heap.size w wr) (fun i _ _ => ns.length - (intOf i).toNat)
  case atStart => exact ⟨0, Nat.zero_le _, rfl, rfl, Below.refl _ _⟩
  case round =>
    obtain ⟨k, hk, rfl, hp, hbw⟩ := hrel
    have HP := Lib.hid hp
    have HBW := Lib.hid hbw
    have hzr := hbw.size
    clear hp hbw
    by_cases hlt : k < ns.length
    · obtain ⟨b, o, c, e1, hb, hm, hc⟩ := ints_at H.out (by omega)
      obtain ⟨rfl, -, rfl⟩ := sl_inj e1
      unfold maxLen at hm
      have kc := (HBW.out.cell (p := ⟨b, o + k, none⟩) hb).trans (hc k hlt)
      have HC := Lib.hid hc
      have HS := Lib.hid (prefOk_succ ns k)
      have HF := Lib.hid (fun h => prefOk_false (ns := ns) (k := k + 1) (m := ns.length) h (by omega))
      clear hc e1
      obtain ⟨x, hx⟩ : ∃ x, ns.getD k 0 = x := ⟨_, rfl⟩
      rw [hx] at kc
      have HX := Lib.hid hx
      clear hx
      have hk0 : (0 : Int) ≤ (k : Int) := by omega
      have hk1 : (k : Int) < (ns.length : Int) := by omega
      by_cases hx0 : x < 0
      · have HPL := Lib.hid (show placeB x = false by simp [placeB]; omega)
        go_wp2_with fail
        go_ret
        exact ⟨by unfold rightB; rw [HF.out (by rw [HS.out, HX.out, HPL.out]; simp)]; simp, HBW.out⟩
      have hx0' : decide (x < 0) = false := by simpa using hx0
      by_cases hx1 : 255 < x
      · have HPL := Lib.hid (show placeB x = false by simp [placeB]; omega)
        clear hx0
        go_wp2_with fail
        go_ret
        exact ⟨by unfold rightB; rw [HF.out (by rw [HS.out, HX.out, HPL.out]; simp)]; simp, HBW.out⟩
      have hx1' : decide (255 < x) = false := by simpa using hx1
      have HPL := Lib.hid (show placeB x = true by simp [placeB]; omega)
      clear hx0 hx1
      obtain ⟨wo, rfl⟩ : ∃ wo : World, wo = wr := ⟨_, rfl⟩
      go_wp2_with fail
      go_loopw [4] (fun i wx => ∃ j : Nat, j ≤ k ∧ i = .int .i64 j ∧ (∀ m, m < j → ns.getD m 0 ≠ x) ∧ Below w.heap.size w wx) (fun i _ => k - (intOf i).toNat)
      case atStart => exact ⟨0, Nat.zero_le _, rfl, fun m hm => absurd hm (by omega), HBW.out⟩
      case round =>
        obtain ⟨j, hj, rfl, hall, hbx⟩ := hrel
        have HALL := Lib.hid hall
        have HBX := Lib.hid hbx
        clear hall hbx kc
        by_cases hjk : j < k
        · obtain ⟨y, hy⟩ : ∃ y, ns.getD j 0 = y := ⟨_, rfl⟩
          have kc := (HBX.out.cell (p := ⟨b, o + k, none⟩) hb).trans (HC.out k hlt)
          have kj := (HBX.out.cell (p := ⟨b, o + j, none⟩) hb).trans (HC.out j (by omega))
          rw [HX.out] at kc
          rw [hy] at kj
          have HY := Lib.hid hy
          clear hy
          have hj0 : (0 : Int) ≤ (j : Int) := by omega
          have hj1 : (j : Int) < (ns.length : Int) := by omega
          by_cases hxy : y = x
          · have hyx : (y == x) = true := by simpa using hxy
            have HXY := Lib.hid hxy
            have HIN := Lib.hid (show (ns.take k).contains x = true by
              rw [List.contains_iff_mem, List.mem_take_iff_getElem]
              refine ⟨j, by omega, ?_⟩
              rw [← hxy, ← HY.out]
              simp [show j < ns.length by omega])
            clear hxy
            go_wp2_with fail
            refine wp_region_now0 [3, 7] [(0, 0), (1, 0), (2, 0), (3, 2), (4, 0), (5, 0), (6, 0), (7, 2), (8, 0)] (by kernel_rfl) (by kernel_rfl) rfl (by kernel_rfl) ?_
            refine stepE0 rfl rfl (fun K hK => ?_)
            go_simp
            refine hK _ ?_
            clear hK K
            refine stepE0 rfl rfl (fun K hK => ?_)
            go_simp
            refine hK _ ?_
            clear hK K
            refine stepE0 rfl rfl (fun K hK => ?_)
            go_simp
            refine hK _ ?_
            clear hK K
            refine stepE2 rfl rfl ?_ (fun w1 hS => ?_) (fun K hK => ?_)
            rotate_left
            focus (obtain rfl : w1 = _ := hS; go_simp; rfl)
            go_simp
            refine hK _ ?_
            clear hK K
            refine stepE0 rfl rfl (fun K hK => ?_)
            go_simp
            refine hK _ ?_
            clear hK K
            refine stepE0 rfl rfl (fun K hK => ?_)
            go_simp
            refine hK _ ?_
            clear hK K
            refine stepE0 rfl rfl (fun K hK => ?_)
            go_simp
            refine hK _ ?_
            clear hK K
            refine stepE2 rfl rfl ?_ (fun w1 hS => ?_) (fun K hK => ?_)
            rotate_left
            focus (obtain rfl : w1 = _ := hS; go_simp; rfl)
            go_simp
            refine hK _ ?_
            clear hK K
            refine stepE0 rfl rfl (fun K hK => ?_)
            go_simp
            refine hK _ ?_
            clear hK K
            try refine stepEnil0 ?_
            go_wp2_with fail
            go_ret
            exact ⟨by unfold rightB; rw [HF.out (by rw [HS.out, HX.out, HIN.out]; simp)]; simp, HBX.out.drew⟩
          · have hyx : (y == x) = false := by simpa using hxy
            have HXY := Lib.hid hxy
            clear hxy
            go_wp2_with fail
            refine wp_region_now0 [3, 7] [(0, 0), (1, 0), (2, 0), (3, 2), (4, 0), (5, 0), (6, 0), (7, 2), (8, 0)] (by kernel_rfl) (by kernel_rfl) rfl (by kernel_rfl) ?_
            refine stepE0 rfl rfl (fun K hK => ?_)
            go_simp
            refine hK _ ?_
            clear hK K
            refine stepE0 rfl rfl (fun K hK => ?_)
            go_simp
            refine hK _ ?_
            clear hK K
            refine stepE0 rfl rfl (fun K hK => ?_)
            go_simp
            refine hK _ ?_
            clear hK K
            refine stepE2 rfl rfl ?_ (fun w1 hS => ?_) (fun K hK => ?_)
            rotate_left
            focus (obtain rfl : w1 = _ := hS; go_simp; rfl)
            go_simp
            refine hK _ ?_
            clear hK K
            refine stepE0 rfl rfl (fun K hK => ?_)
            go_simp
            refine hK _ ?_
            clear hK K
            refine stepE0 rfl rfl (fun K hK => ?_)
            go_simp
            refine hK _ ?_
            clear hK K
            refine stepE0 rfl rfl (fun K hK => ?_)
            go_simp
            refine hK _ ?_
            clear hK K
            refine stepE2 rfl rfl ?_ (fun w1 hS => ?_) (fun K hK => ?_)
            rotate_left
            focus (obtain rfl : w1 = _ := hS; go_simp; rfl)
            go_simp
            refine hK _ ?_
            clear hK K
            refine stepE0 rfl rfl (fun K hK => ?_)
            go_simp
            refine hK _ ?_
            clear hK K
            try refine stepEnil0 ?_
            go_wp2_with fail
            go_roundw
            case rel =>
              refine ⟨j + 1, by omega, by go_num, fun m hm => ?_, HBX.out.drew⟩
              by_cases hmj : m = j
              · rw [hmj, HY.out]; exact HXY.out
              · exact HALL.out m (by omega)
            case measure => simp [intOf]; omega
        · have HNI := Lib.hid (show (ns.take k).contains x = false by
            rw [Bool.eq_false_iff]
            intro h
            rw [List.contains_iff_mem, List.mem_take_iff_getElem] at h
            obtain ⟨m, hm, he⟩ := h
            refine HALL.out m (by omega) ?_
            rw [← he]
            simp [show m < ns.length by omega])
          go_wp2_with fail
          go_roundw
          case rel => exact ⟨k + 1, by omega, by go_num, by rw [HS.out, HP.out, HX.out, HPL.out, HNI.out]; rfl, HBX.out⟩
          case measure => simp [intOf]; omega
    · have HKK := Lib.hid (show k = ns.length by omega)
      by_cases hl : ns.length ≤ 64
      · have hd : decide ((ns.length : Int) ≤ 64) = true := by simp; omega
        have HL := Lib.hid hl
        clear hl
        go_wp2_with fail
        go_ret
        exact ⟨by unfold rightB; rw [← HKK.out, HP.out]; have := HL.out; rw [← HKK.out] at this; simp [this], HBW.out⟩
      · have hd : decide ((ns.length : Int) ≤ 64) = false := by simp; omega
        have HL := Lib.hid hl
        clear hl
        go_wp2_with fail
        go_ret
        exact ⟨by unfold rightB; have := HL.out; simp [this], HBW.out⟩
end Go.Proofs.Ytigkcbnlbdiimaa

/- place.loads: a map of the call's own, read as a function. -/
namespace Go.Proofs.Ytigkcbnlbdiimaa
open Go.RowKit Go.Maps
theorem law_int : Keyed Try.prog 3 := int_keyed Try.underlying3
theorem zero_int (w : World) : (zeroValue 3).run Try.prog w = .ok (.int .i64 0) w := by kernel_rfl
/-- Block b is a map of at most n entries that reads as the function f. -/
def MapIs (w : World) (b n : Nat) (f : Int → Int) : Prop :=
  ∃ D : DataW Unit, w.ownsMap Try.prog 3 (plainElem Try.prog 3) b n D ∧ IsMap D ∧ ∀ k : Int, D.atKey (.int .i64 k) (.lit (.int .i64 0)) = .lit (.int .i64 (f k))
theorem MapIs.made (w : World) : MapIs (w.alloc (.map #[] 0)) w.heap.size 0 (fun _ => 0) :=
  ⟨.map [], World.ownsMap_made _ _ _ _, isMap_empty, fun _ => rfl⟩
theorem MapIs.lt {w : World} {b n : Nat} {f : Int → Int} (h : MapIs w b n f) : b < w.heap.size := by
  obtain ⟨_, h, _, _⟩ := h
  exact h.lt
theorem MapIs.kept {w w' : World} {b n : Nat} {f : Int → Int} {row : Option Nat} (h : MapIs w b n f) (hg : w.grownBy w' row) (hne : some b ≠ row) : MapIs w' b n f := by
  obtain ⟨D, h1, h2, h3⟩ := h
  exact ⟨D, h1.kept hg hne, h2, h3⟩
theorem MapIs.below {w w' : World} {b n : Nat} {f : Int → Int} (h : MapIs w b n f) (hb : Below w.heap.size w w') : MapIs w' b n f :=
  h.kept (row := none) ⟨hb.os, hb.tape, hb.output, hb.size, fun k hk _ => hb.block k hk⟩ (by simp)
theorem MapIs.put {w : World} {b n : Nat} {f : Int → Int} {D : DataW Unit} {k c : Int} (h : w.ownsMap Try.prog 3 (plainElem Try.prog 3) b n (D.put (.int .i64 k) (.lit (.int .i64 c)))) (hm : IsMap D)
    (hf : ∀ k : Int, D.atKey (.int .i64 k) (.lit (.int .i64 0)) = .lit (.int .i64 (f k))) : MapIs w b n (fun j => if j = k then c else f j) := by
  refine ⟨_, h, ?_, fun j => ?_⟩
  · obtain ⟨es, rfl⟩ := hm
    exact ⟨_, rfl⟩
  · show _ = DataW.lit (.int .i64 (if j = k then c else f j))
    by_cases hj : j = k
    · subst hj
      rw [if_pos rfl]
      exact atKey_put_same hm (k := .int .i64 j) (show WideAt.IsKeyLit (.int .i64 j) from trivial) _ _
    · rw [if_neg hj, atKey_put_other (fun e => hj (by simpa using e))]
      exact hf j
theorem wf_i64 {n : Int} (h1 : -9223372036854775808 ≤ n) (h2 : n ≤ 9223372036854775807) : (Lit.int .i64 n).wf = true := by
  simp [Lit.wf, IntKind.min, IntKind.max, IntKind.bits, IntKind.signed]
  omega
theorem wpList_look (w : World) {ops : Array Oper} {rest : List Oper} {o : Oper} {a : Act} {Q : Exit → Act → World → Prop} (hg : o.guard = none) (m x : Operand) (hop : o.op = Op.lookup 132 m x false)
    (b n : Nat) (f : Int → Int) (hm : a.eval m = .map (some b)) (h : MapIs w b n f) (key : Int) (hx : a.eval x = .int .i64 key) (hw : (Lit.int .i64 key).wf = true)
    (hK : wpList Try.prog ops Q rest (a.put o.dst (.int .i64 (f key))) w) : wpList Try.prog ops Q (o :: rest) a w := by
  obtain ⟨D, h1, h2, h3⟩ := h
  refine wpList_lookup_own_int w hg m x 132 hop 3 3 .i64 law_int Try.underlying132 Try.underlying3 (zero_int _) b n D hm h1 _ _ hx (keyOf_int_mk Try.underlying3 hw) fun c hat _ => ?_
  rw [h3 key] at hat
  have hc : f key = c := by simpa using hat
  rw [← hc]
  exact hK
theorem wpList_mark (w : World) {ops : Array Oper} {rest : List Oper} {o : Oper} {a : Act} {Q : Exit → Act → World → Prop} (hg : o.guard = none) (m x v : Operand) (hop : o.op = Op.mapUpdate 132 m x v)
    (b n : Nat) (f : Int → Int) (hm : a.eval m = .map (some b)) (h : MapIs w b n f) (hn : n < maxLen) (key c : Int) (hx : a.eval x = .int .i64 key) (hv : a.eval v = .int .i64 c) (hw : (Lit.int .i64 key).wf = true) (hw2 : (Lit.int .i64 c).wf = true)
    (hK : ∀ w', MapIs w' b (n + 1) (fun j => if j = key then c else f j) → w.grownBy w' (some b) → wpList Try.prog ops Q rest (a.put o.dst undef) w') : wpList Try.prog ops Q (o :: rest) a w := by
  obtain ⟨D, h1, h2, h3⟩ := h
  exact wpList_mapUpdate_own w hg m x v 132 hop 3 3 law_int Try.underlying132 _ b n D hm h1 hn _ _ _ hx hv (keyOf_int_mk Try.underlying3 hw) _ [] (plainElem_int Try.underlying3 hw2) fun w' h4 h5 => hK w' (MapIs.put h4 h2 h3) h5
/-- How often a node stands in entries. -/
def slotN (x : Ent) (n : Int) : Nat := (if x.n0 = n then 1 else 0) + (if x.n1 = n then 1 else 0) + (if x.n2 = n then 1 else 0)
def slotsN (es : List Ent) (n : Int) : Nat := (es.map fun x => slotN x n).sum
theorem slotsN_snoc (es : List Ent) (k : Nat) (x : Ent) (hx : es[k]? = some x) (n : Int) : slotsN (es.take (k + 1)) n = slotsN (es.take k) n + slotN x n := by
  rw [take_snoc_get es k x hx]
  simp [slotsN]
theorem slotN_le (x : Ent) (n : Int) : slotN x n ≤ 3 := by unfold slotN; repeat (first | omega | split)
theorem slotsN_le (es : List Ent) (n : Int) : slotsN es n ≤ es.length * 3 := by
  induction es with
  | nil => simp [slotsN]
  | cons x es ih =>
    have := slotN_le x n
    simp only [slotsN, List.map_cons, List.sum_cons, List.length_cons] at ih ⊢
    omega
/-- Nodes may be such, and an entry's are apart. -/
def NodesOk (es : List Ent) : Prop := ∀ x ∈ es, placeB x.n0 = true ∧ placeB x.n1 = true ∧ placeB x.n2 = true ∧ x.n0 ≠ x.n1 ∧ x.n0 ≠ x.n2 ∧ x.n1 ≠ x.n2
theorem slots_load (es : List Ent) (h : NodesOk es) (n : Int) : slotsN es n = loadN es n := by
  induction es with
  | nil => rfl
  | cons x es ih =>
    have ih' := ih (fun y hy => h y (List.mem_cons_of_mem _ hy))
    obtain ⟨_, _, _, h1, h2, h3⟩ := h x List.mem_cons_self
    simp only [slotsN, loadN, List.map_cons, List.sum_cons, List.countP_cons] at ih' ⊢
    rw [ih', Nat.add_comm]
    congr 1
    unfold slotN hasB
    by_cases a0 : x.n0 = n
    · have a1 : x.n1 ≠ n := fun e => h1 (by rw [a0, e])
      have a2 : x.n2 ≠ n := fun e => h2 (by rw [a0, e])
      simp [a0, a1, a2]
    · by_cases a1 : x.n1 = n
      · have a2 : x.n2 ≠ n := fun e => h3 (by rw [a1, e])
        simp [a0, a1, a2]
      · by_cases a2 : x.n2 = n <;> simp [a0, a1, a2]
set_option maxRecDepth 100000 in
set_option maxHeartbeats 4000000 in
theorem loads_any (base : Nat) (v : Value) (es : List Ent) (w : World) (h : w.ownsRow base 37 6 v es.length (es.flatMap Ent.row)) (hfew : es.length ≤ 4096) (hok : NodesOk es) :
    Calls Try.prog 73 #[v] w fun e w' => ∃ n, e = .returned (.map (some w.heap.size)) ∧ n ≤ 12288 ∧ MapIs w' w.heap.size n (fun k => (loadN es k : Int)) ∧ Below w.heap.size w w' := by
  have H := Lib.hid h
  have HOK := Lib.hid hok
  obtain ⟨a0, cap0, rfl⟩ := ownsRow_len h
  clear h hok
  have hmm := @run_makeMap Try.prog
  go_enter Try.func73, Try.ntmps73
  go_wp2_with fail
  clear hmm
  go_loopw [11] (fun i wr => ∃ k : Nat, k ≤ es.length ∧ i = .int .i64 k ∧ MapIs wr w.heap.size (3 * k) (fun j => (slotsN (es.take k) j : Int)) ∧ Below w.heap.size w wr) (fun i _ => es.length - (intOf i).toNat)
  case atStart => exact ⟨0, Nat.zero_le _, rfl, MapIs.made w, (by repeat (first | (with_reducible exact Below.refl _ _) | (with_reducible refine Below.setCell ?_ ?_ _) | (with_reducible refine Below.alloc ?_ ?_ _) | (with_reducible refine Below.drewN ?_ _) | (with_reducible refine Below.drew ?_) | (with_reducible exact Nat.le_refl _) | (focus (simp only [World.size_alloc, World.size_setCell, World.size_drew, World.size_drewN]; omega)) | omega | exact Nat.le_refl _ | (focus (simp; done)) | (focus (simp; omega))))⟩
  case round =>
    obtain ⟨k, hk, rfl, hmap, hbw⟩ := hrel
    have HM := Lib.hid hmap
    have HBW := Lib.hid hbw
    have hzr := hbw.size
    have hlm := hmap.lt
    clear hmap hbw
    by_cases hlt : k < es.length
    · obtain ⟨x, hx⟩ : ∃ x, es[k]? = some x := ⟨_, List.getElem?_eq_getElem hlt⟩
      obtain ⟨g3, cc3, e3, hg3, _, _, x0, x1, x2, x3, x4, x5⟩ := row_ent (ownsRow_below H.out HBW.out) k x hx
      obtain ⟨e3', -, e3''⟩ := slice_inj e3
      subst e3' e3''
      have HS := Lib.hid (slotsN_snoc es k x hx)
      obtain ⟨p0, p1, p2, d01, d02, d12⟩ := HOK.out x (List.mem_of_getElem? hx)
      have hwk : ∀ n, placeB n = true → (Lit.int .i64 n).wf = true := fun n h => by simp [placeB] at h; exact wf_i64 (by omega) (by omega)
      have W0 := Lib.hid (hwk _ p0)
      have W1 := Lib.hid (hwk _ p1)
      have W2 := Lib.hid (hwk _ p2)
      have HLE := Lib.hid (fun j => (slotsN_le (es.take k) j))
      have HD := Lib.hid (And.intro d01 (And.intro d02 d12))
      clear e3 hx p0 p1 p2 d01 d02 d12 hwk
      obtain ⟨xv, xe, xa, xb, xc, xs⟩ := x
      simp only at x0 x1 x2 x3 x4 x5
      obtain ⟨f, hf⟩ : ∃ f : Int → Int, f = (fun j => (slotsN (es.take k) j : Int)) := ⟨_, rfl⟩
      have hfb : ∀ j, 0 ≤ f j ∧ f j ≤ 12300 := fun j => by
        have h := HLE.out j
        rw [List.length_take] at h
        rw [hf]
        show 0 ≤ (slotsN (es.take k) j : Int) ∧ (slotsN (es.take k) j : Int) ≤ 12300
        omega
      have HM' := Lib.hid (show MapIs wr w.heap.size (3 * k) f by rw [hf]; exact HM.out)
      have HF := Lib.hid hf
      clear hf HM
      have b0 := hfb xa
      have b1 := hfb xb
      have b2 := hfb xc
      clear hfb
      have ix0 : ∀ w, (Instr.index 30 (.agg #[.int .i64 xa, .int .i64 xb, .int .i64 xc]) (.int .i64 0)).run Try.prog w = .ok (.int .i64 xa) w := fun _ => by kernel_rfl
      have ix1 : ∀ w, (Instr.index 30 (.agg #[.int .i64 xa, .int .i64 xb, .int .i64 xc]) (.int .i64 1)).run Try.prog w = .ok (.int .i64 xb) w := fun _ => by kernel_rfl
      have ix2 : ∀ w, (Instr.index 30 (.agg #[.int .i64 xa, .int .i64 xb, .int .i64 xc]) (.int .i64 2)).run Try.prog w = .ok (.int .i64 xc) w := fun _ => by kernel_rfl
      have hk0 : (0 : Int) ≤ (k : Int) := by omega
      have hk1 : (k : Int) < (es.length : Int) := by omega
      go_wp2_with fail
      refine wp_loop_rounds 4 ?_
      rw [rounds_succ]
      go_wp2_with (first
        | (at_lookup; refine wpList_look _ rfl _ _ rfl w.heap.size (3 * k) f rfl (HM'.out.below (by repeat (first | (with_reducible exact Below.refl _ _) | (with_reducible refine Below.setCell ?_ ?_ _) | (with_reducible refine Below.alloc ?_ ?_ _) | (with_reducible refine Below.drewN ?_ _) | (with_reducible refine Below.drew ?_) | (with_reducible exact Nat.le_refl _) | (focus (simp only [World.size_alloc, World.size_setCell, World.size_drew, World.size_drewN]; omega)) | omega | exact Nat.le_refl _ | (focus (simp; done)) | (focus (simp; omega))))) xa rfl W0.out ?_)
        | (at_mapUpdate; refine wpList_mark _ rfl _ _ _ rfl w.heap.size (3 * k) f rfl (HM'.out.below (by repeat (first | (with_reducible exact Below.refl _ _) | (with_reducible refine Below.setCell ?_ ?_ _) | (with_reducible refine Below.alloc ?_ ?_ _) | (with_reducible refine Below.drewN ?_ _) | (with_reducible refine Below.drew ?_) | (with_reducible exact Nat.le_refl _) | (focus (simp only [World.size_alloc, World.size_setCell, World.size_drew, World.size_drewN]; omega)) | omega | exact Nat.le_refl _ | (focus (simp; done)) | (focus (simp; omega))))) (by unfold maxLen; omega) xa _ rfl rfl W0.out (wf_i64 (by omega) (by omega)) ?_; intro w4 hm4 hg4; have HM4 := Lib.hid hm4; have hz4 := hg4.size; have HG4 := Lib.hid hg4; clear hm4 hg4))
      obtain ⟨f1, hf4⟩ : ∃ f1 : Int → Int, f1 = (fun j => if j = xa then f xa + 1 else f j) := ⟨_, rfl⟩
      have b11 : f1 xb = f xb := by rw [hf4]; show (if xb = xa then _ else _) = _; rw [if_neg (fun e => HD.out.1 e.symm)]
      have b12 : f1 xc = f xc := by rw [hf4]; show (if xc = xa then _ else _) = _; rw [if_neg (fun e => HD.out.2.1 e.symm)]
      have c1 : 0 ≤ f1 xb ∧ f1 xb ≤ 12300 := by omega
      have c2 : 0 ≤ f1 xc ∧ f1 xc ≤ 12300 := by omega
      have B1 := Lib.hid (And.intro b11 b12)
      clear b11 b12
      rw [← hf4] at HM4
      have HF4 := Lib.hid hf4
      clear hf4
      rw [rounds_succ]
      go_wp2_with (first
        | (at_lookup; refine wpList_look _ rfl _ _ rfl w.heap.size (3 * k + 1) f1 rfl HM4.out xb rfl W1.out ?_)
        | (at_mapUpdate; refine wpList_mark _ rfl _ _ _ rfl w.heap.size (3 * k + 1) f1 rfl HM4.out (by unfold maxLen; omega) xb _ rfl rfl W1.out (wf_i64 (by omega) (by omega)) ?_; intro w5 hm5 hg5; have HM5 := Lib.hid hm5; have hz5 := hg5.size; have HG5 := Lib.hid hg5; clear hm5 hg5))
      obtain ⟨f2, hf5⟩ : ∃ f2 : Int → Int, f2 = (fun j => if j = xb then f1 xb + 1 else f1 j) := ⟨_, rfl⟩
      have b22 : f2 xc = f1 xc := by rw [hf5]; show (if xc = xb then _ else _) = _; rw [if_neg (fun e => HD.out.2.2 e.symm)]
      have c3 : 0 ≤ f2 xc ∧ f2 xc ≤ 12300 := by omega
      have B2 := Lib.hid b22
      clear b22
      rw [← hf5] at HM5
      have HF5 := Lib.hid hf5
      clear hf5
      rw [rounds_succ]
      go_wp2_with (first
        | (at_lookup; refine wpList_look _ rfl _ _ rfl w.heap.size (3 * k + 2) f2 rfl HM5.out xc rfl W2.out ?_)
        | (at_mapUpdate; refine wpList_mark _ rfl _ _ _ rfl w.heap.size (3 * k + 2) f2 rfl HM5.out (by unfold maxLen; omega) xc _ rfl rfl W2.out (wf_i64 (by omega) (by omega)) ?_; intro w6 hm6 hg6; have HM6 := Lib.hid hm6; have hz6 := hg6.size; have HG6 := Lib.hid hg6; clear hm6 hg6))
      rw [rounds_succ]
      go_wp2_with fail
      go_roundw
      case rel =>
        refine ⟨k + 1, by omega, by go_num, ?_, ?_⟩
        · have hm := HM6.out
          have e : (fun j => if j = xc then f2 xc + 1 else f2 j) = (fun j => (slotsN (es.take (k + 1)) j : Int)) := by
            funext j
            rw [HS.out j]
            have hfj : f j = (slotsN (es.take k) j : Int) := by rw [HF.out]
            obtain ⟨d01, d02, d12⟩ := HD.out
            have d01 : xa ≠ xb := d01
            have d02 : xa ≠ xc := d02
            have d12 : xb ≠ xc := d12
            obtain ⟨e1, e2⟩ := B1.out
            rw [B2.out, e2]
            by_cases jc : j = xc
            · subst jc
              rw [if_pos rfl, hfj]
              simp [slotN, d02, d12]
            · rw [if_neg jc, HF5.out]
              show (if j = xb then _ else _) = _
              by_cases jb : j = xb
              · subst jb
                rw [if_pos rfl, e1, hfj]
                simp [slotN, d01, Ne.symm d12]
              · rw [if_neg jb, HF4.out]
                show (if j = xa then _ else _) = _
                by_cases ja : j = xa
                · subst ja
                  rw [if_pos rfl, hfj]
                  simp [slotN, Ne.symm d01, Ne.symm d02]
                · rw [if_neg ja, hfj]
                  simp [slotN, Ne.symm ja, Ne.symm jb, Ne.symm jc]
          rw [e] at hm
          exact hm
        · simp only [World.size_alloc] at hz4
          exact ((((HBW.out.alloc hzr _).grown HG4.out (by first | omega | (simp; done) | (simp; omega)) (fun j e => by cases e; exact Nat.le_refl _)).grown HG5.out (by first | omega | (simp; done) | (simp; omega)) (fun j e => by cases e; exact Nat.le_refl _)).grown HG6.out (by first | omega | (simp; done) | (simp; omega)) (fun j e => by cases e; exact Nat.le_refl _))
      case measure => simp [intOf]; omega
    · have HK := Lib.hid (show es.take k = es from List.take_of_length_le (by omega))
      go_wp2_with fail
      go_ret
      refine ⟨3 * k, rfl, by omega, ?_, HBW.out⟩
      have hm := HM.out
      have e : (fun j => (slotsN (es.take k) j : Int)) = (fun j => (loadN es j : Int)) := by
        funext j
        rw [HK.out, slots_load es HOK.out j]
      rw [e] at hm
      exact hm
end Go.Proofs.Ytigkcbnlbdiimaa

/-
  DERIVED: THE SHELF's CONTRACTS AT THIS DUMP, IN PLAIN WORDS (tools/lay-plain.mjs out of 'TryShelf.lean', which tools/lay-shelf.mjs wrote): THE SAME DECLARATIONS UNDER THE SAME NAMES: 'import', 'namespace', 'open', 'def', 'theorem' AND NOTHING ELSE: no command of the shelf's: FOR A HAND-IN. Each laying: the table of numbers ('.._ren') and one theorem, a field a fact of the dump's own or the kernel's comparison; each contract: ONE APPLICATION.
-/
namespace Go.Proofs
open Go.Shelf
def Try.lays128_ren : Go.Shelf.Ren := ⟨fun | 128 => 104 | n => n, fun | 51 => 176 | 3 => 3 | 4 => 4 | 46 => 166 | 5 => 5 | 9 => 9 | n => n, fun | n => n⟩
theorem Try.lays128 : Go.Proofs.Lays.n128 Try.prog Try.lays128_ren := {
  mixed := by kernel_rfl
  f128 := Try.func104.trans (congrArg some (by kernel_rfl))
  t3 := Try.underlying3
  a3 := Try.isAgg3
  z3 := Try.sizeOf3
  v3 := Try.zeroValue3
  t4 := Try.underlying4
  a4 := Try.isAgg4
  z4 := Try.sizeOf4
  v4 := Try.zeroValue4
  t5 := Try.underlying5
  a5 := Try.isAgg5
  z5 := Try.sizeOf5
  v5 := Try.zeroValue5
  t9 := Try.underlying9
  a9 := Try.isAgg9
  z9 := Try.sizeOf9
  v9 := Try.zeroValue9
  t46 := Try.underlying166
  a46 := Try.isAgg166
  z46 := Try.sizeOf166
  v46 := Try.zeroValue166
  t51 := Try.underlying176
  a51 := Try.isAgg176
  z51 := Try.sizeOf176
  v51 := Try.zeroValue176 }
/-- bits.Len32: "Len32 returns the minimum number of bits required to represent x; the result is 0 for x == 0.": IT RETURNS 'Lib.bitLen x'; the world is as it was. ('h0', 'h1': x is a uint32.) (LAID: no walk: one application.) -/
theorem Try.bits_Len32 (x : Int) (w : World) (h0 : 0 ≤ x) (h1 : x ≤ 4294967295) :
    Calls Try.prog 104 #[.int .u32 x] w fun e w' => e = .returned (.int .i64 (Lib.bitLen x.toNat)) ∧ w' = w := Any.bits_Len32 Try.lays128 x w h0 h1
def Try.lays125_ren : Go.Shelf.Ren := ⟨fun | 125 => 94 | 128 => 104 | 129 => 105 | n => n, fun | 46 => 166 | 3 => 3 | 51 => 176 | 53 => 114 | 4 => 4 | 5 => 5 | 9 => 9 | n => n, fun | n => n⟩
theorem Try.lays125 : Go.Proofs.Lays.n125 Try.prog Try.lays125_ren := {
  mixed := by kernel_rfl
  f125 := Try.func94.trans (congrArg some (by kernel_rfl))
  f128 := Try.func104.trans (congrArg some (by kernel_rfl))
  f129 := Try.func105.trans (congrArg some (by kernel_rfl))
  t3 := Try.underlying3
  a3 := Try.isAgg3
  z3 := Try.sizeOf3
  v3 := Try.zeroValue3
  t4 := Try.underlying4
  a4 := Try.isAgg4
  z4 := Try.sizeOf4
  v4 := Try.zeroValue4
  t5 := Try.underlying5
  a5 := Try.isAgg5
  z5 := Try.sizeOf5
  v5 := Try.zeroValue5
  t9 := Try.underlying9
  a9 := Try.isAgg9
  z9 := Try.sizeOf9
  v9 := Try.zeroValue9
  t46 := Try.underlying166
  a46 := Try.isAgg166
  z46 := Try.sizeOf166
  v46 := Try.zeroValue166
  t51 := Try.underlying176
  a51 := Try.isAgg176
  z51 := Try.sizeOf176
  v51 := Try.zeroValue176
  t53 := Try.underlying114
  a53 := Try.isAgg114
  z53 := Try.sizeOf114
  v53 := Try.zeroValue114 }
/-- bits.Len: "Len returns the minimum number of bits required to represent x; the result is 0 for x == 0.": IT RETURNS 'Lib.bitLen x'; the world is as it was. (A uint has 64 bits in the model.) ITS CALLEE bits.Len64 IS MET BY ITS OWN CONTRACT OFF THE SHELF (lay that first). (LAID: no walk: one application.) -/
theorem Try.bits_Len (x : Int) (w : World) (h0 : 0 ≤ x) (h1 : x ≤ 18446744073709551615) :
    Calls Try.prog 94 #[.int .u64 x] w fun e w' => e = .returned (.int .i64 (Lib.bitLen x.toNat)) ∧ w' = w := Any.bits_Len Try.lays125 x w h0 h1
def Try.lays215_ren : Go.Shelf.Ren := ⟨fun | 215 => 95 | n => n, fun | 3 => 3 | 4 => 4 | n => n, fun | n => n⟩
theorem Try.lays215 : Go.Proofs.Lays.n215 Try.prog Try.lays215_ren := {
  mixed := by kernel_rfl
  f215 := Try.func95.trans (congrArg some (by kernel_rfl))
  t3 := Try.underlying3
  a3 := Try.isAgg3
  z3 := Try.sizeOf3
  v3 := Try.zeroValue3
  t4 := Try.underlying4
  a4 := Try.isAgg4
  z4 := Try.sizeOf4
  v4 := Try.zeroValue4 }
open Go.RowKit in
/-- cmp.isNaN at int: 'x != x': false. (LAID: no walk: one application.) -/
theorem Try.cmp_isNaN_int (x : Int) (w : World) :
    Calls Try.prog 95 #[.int .i64 x] w fun e w' => e = .returned (.bool false) ∧ w' = w := Any.cmp_isNaN_int Try.lays215 x w
def Try.lays122_ren : Go.Shelf.Ren := ⟨fun | 122 => 90 | 215 => 95 | n => n, fun | 3 => 3 | 4 => 4 | n => n, fun | n => n⟩
theorem Try.lays122 : Go.Proofs.Lays.n122 Try.prog Try.lays122_ren := {
  mixed := by kernel_rfl
  f122 := Try.func90.trans (congrArg some (by kernel_rfl))
  f215 := Try.func95.trans (congrArg some (by kernel_rfl))
  t3 := Try.underlying3
  a3 := Try.isAgg3
  z3 := Try.sizeOf3
  v3 := Try.zeroValue3
  t4 := Try.underlying4
  a4 := Try.isAgg4
  z4 := Try.sizeOf4
  v4 := Try.zeroValue4 }
open Go.RowKit in
/-- cmp.Compare at int: "Compare returns -1 if x is less than y, 0 if x equals y, +1 if x is greater than y.": IT RETURNS 'Lib.compareInt x y'; the world is as it was. (LAID: no walk: one application.) -/
theorem Try.cmp_Compare_int (x y : Int) (w : World) :
    Calls Try.prog 90 #[.int .i64 x, .int .i64 y] w fun e w' => e = .returned (.int .i64 (Lib.compareInt x y)) ∧ w' = w := Any.cmp_Compare_int Try.lays122 x y w
def Try.lays129_ren : Go.Shelf.Ren := ⟨fun | 129 => 105 | n => n, fun | 53 => 114 | 3 => 3 | 4 => 4 | 46 => 166 | 5 => 5 | 9 => 9 | n => n, fun | n => n⟩
theorem Try.lays129 : Go.Proofs.Lays.n129 Try.prog Try.lays129_ren := {
  mixed := by kernel_rfl
  f129 := Try.func105.trans (congrArg some (by kernel_rfl))
  t3 := Try.underlying3
  a3 := Try.isAgg3
  z3 := Try.sizeOf3
  v3 := Try.zeroValue3
  t4 := Try.underlying4
  a4 := Try.isAgg4
  z4 := Try.sizeOf4
  v4 := Try.zeroValue4
  t5 := Try.underlying5
  a5 := Try.isAgg5
  z5 := Try.sizeOf5
  v5 := Try.zeroValue5
  t9 := Try.underlying9
  a9 := Try.isAgg9
  z9 := Try.sizeOf9
  v9 := Try.zeroValue9
  t46 := Try.underlying166
  a46 := Try.isAgg166
  z46 := Try.sizeOf166
  v46 := Try.zeroValue166
  t53 := Try.underlying114
  a53 := Try.isAgg114
  z53 := Try.sizeOf114
  v53 := Try.zeroValue114 }
/-- bits.Len64: "Len64 returns the minimum number of bits required to represent x; the result is 0 for x == 0.": IT RETURNS 'Lib.bitLen x'; the world is as it was. ('h0', 'h1': x is a uint64.) (LAID: no walk: one application.) -/
theorem Try.bits_Len64 (x : Int) (w : World) (h0 : 0 ≤ x) (h1 : x ≤ 18446744073709551615) :
    Calls Try.prog 105 #[.int .u64 x] w fun e w' => e = .returned (.int .i64 (Lib.bitLen x.toNat)) ∧ w' = w := Any.bits_Len64 Try.lays129 x w h0 h1
def Try.laysSlH6_f91_ren : Go.Shelf.Ren := ⟨fun | 6 => 91 | n => n, fun | 22 => 42 | 23 => 3 | 25 => 127 | 3 => 3 | 0 => 0 | 4 => 4 | n => n, fun | n => n⟩
theorem Try.laysSlH6_f91 : Go.Proofs.SlLaysH.n6 Try.prog Try.laysSlH6_f91_ren := {
  mixed := by kernel_rfl
  f6 := ⟨Try.f91.name, by decide, Try.func91.trans (congrArg some (by kernel_rfl))⟩
  t0 := Try.underlying0
  a0 := Try.isAgg0
  z0 := Try.sizeOf0
  v0 := Try.zeroValue0
  t3 := Try.underlying3
  a3 := Try.isAgg3
  z3 := Try.sizeOf3
  v3 := Try.zeroValue3
  t4 := Try.underlying4
  a4 := Try.isAgg4
  z4 := Try.sizeOf4
  v4 := Try.zeroValue4
  t22 := Try.underlying42
  a22 := Try.isAgg42
  z22 := Try.sizeOf42
  v22 := Try.zeroValue42
  a23 := Try.isAgg3
  z23 := Try.sizeOf3
  t25 := Try.underlying127
  a25 := Try.isAgg127
  z25 := Try.sizeOf127
  v25 := Try.zeroValue127 }
open Go.RowKit Go.Lib in
/-- slices.IndexFunc: "IndexFunc returns the first index i satisfying f(s[i]), or -1 if none do." (LAID AT THE INSTANCE 'slices.IndexFunc[[]int,int]': no walk: one application.) -/
theorem Try.slices_IndexFunc {α : Type} [Inhabited α] (enc : α → Value) (p : α → Bool) (g : Nat) (lb : Array Value) (eg : ∀ args w, (callFunc g args).run Try.prog w = .ok (.enter g args) w) (b off n c : Nat) (zs : List α) (w : World) (hp : PredAt Try.prog g lb enc p w) (hz : n ≤ zs.length) (hbig : n ≤ 9223372036854775807) (hc : ∀ j, j < zs.length → w.cell? ⟨b, off + j, none⟩ = some (enc zs[j]!)) :
    Calls Try.prog 91 #[.slice (some ⟨b, off, none⟩) n c, .func (.func g) #[] lb] w fun e w' => e = .returned (.int .i64 (Lib.idxBy (fun _ y => p y) (zs.take n) default)) ∧ ∃ q, w' = w.drewN q := AnyE.slices_IndexFunc Try.laysSlH6_f91 enc p g lb eg b off n c zs w hp hz hbig hc
open Go.RowKit Go.Lib in
/-- The same at a slice of length 0, a nil one too: the predicate is not called: nothing is asked of it. (LAID AT THE INSTANCE 'slices.IndexFunc[[]int,int]': no walk: one application.) -/
theorem Try.slices_IndexFunc_empty {α : Type} [Inhabited α] (a : Option Addr) (c : Nat) (fv : Value) (w : World) :
    Calls Try.prog 91 #[.slice a 0 c, fv] w fun e w' => e = .returned (.int .i64 (-1)) ∧ w' = w := AnyE.slices_IndexFunc_empty Try.laysSlH6_f91 a c fv w
def Try.laysSlH10_f76_ren : Go.Shelf.Ren := ⟨fun | 10 => 76 | 6 => 91 | n => n, fun | 22 => 42 | 23 => 3 | 25 => 127 | 3 => 3 | 4 => 4 | 0 => 0 | n => n, fun | n => n⟩
theorem Try.laysSlH10_f76 : Go.Proofs.SlLaysH.n10 Try.prog Try.laysSlH10_f76_ren := {
  mixed := by kernel_rfl
  f6 := ⟨Try.f91.name, by decide, Try.func91.trans (congrArg some (by kernel_rfl))⟩
  f10 := ⟨Try.f76.name, by decide, Try.func76.trans (congrArg some (by kernel_rfl))⟩
  t0 := Try.underlying0
  a0 := Try.isAgg0
  z0 := Try.sizeOf0
  v0 := Try.zeroValue0
  t3 := Try.underlying3
  a3 := Try.isAgg3
  z3 := Try.sizeOf3
  v3 := Try.zeroValue3
  t4 := Try.underlying4
  a4 := Try.isAgg4
  z4 := Try.sizeOf4
  v4 := Try.zeroValue4
  t22 := Try.underlying42
  a22 := Try.isAgg42
  z22 := Try.sizeOf42
  v22 := Try.zeroValue42
  a23 := Try.isAgg3
  z23 := Try.sizeOf3
  t25 := Try.underlying127
  a25 := Try.isAgg127
  z25 := Try.sizeOf127
  v25 := Try.zeroValue127 }
open Go.RowKit Go.Lib Go.Sort in
theorem Try.slices_DeleteFunc {α : Type} [Inhabited α] (enc : α → Value) (hO : OneCell enc) (p : α → Bool) (g : Nat) (lb : Array Value) (eg : ∀ args w, (callFunc g args).run Try.prog w = .ok (.enter g args) w) (zr : α) (v23 : ∀ w, (zeroValue 3).run Try.prog w = .ok (enc zr) w) (blk off cap : Nat) (d : Array α) (w : World) (hp : PredAt Try.prog g lb enc p w) (hpo : PredOver Try.prog g lb enc p blk off d.size w) (hH : Holds enc w blk off d) (hsz : d.size ≤ 9223372036854775807) (hcap : d.size ≤ cap) :
    Calls Try.prog 76 #[.slice (some ⟨blk, off, none⟩) d.size cap, .func (.func g) #[] lb] w fun e w' => e = .returned (.slice (some ⟨blk, off, none⟩) (d.toList.filter fun x => !p x).length cap) ∧ ∃ q, w' = putRow enc (Sort.ahead w q) blk off ((d.toList.filter fun x => !p x) ++ List.replicate (d.size - (d.toList.filter fun x => !p x).length) zr).toArray := AnyE.slices_DeleteFunc Try.laysSlH10_f76 enc hO p g lb eg zr v23 blk off cap d w hp hpo hH hsz hcap
def Try.laysSlF20_f96_ren : Go.Shelf.Ren := ⟨fun | 20 => 96 | n => n, fun | 24 => 3 | 22 => 42 | 3 => 3 | 25 => 150 | 4 => 4 | 0 => 0 | n => n, fun | n => n⟩
theorem Try.laysSlF20_f96 : Go.Proofs.SlLaysF.n20 Try.prog Try.laysSlF20_f96_ren := {
  mixed := by kernel_rfl
  f20 := ⟨Try.f96.name, by decide, Try.func96.trans (congrArg some (by kernel_rfl))⟩
  t0 := Try.underlying0
  a0 := Try.isAgg0
  z0 := Try.sizeOf0
  v0 := Try.zeroValue0
  t3 := Try.underlying3
  a3 := Try.isAgg3
  z3 := Try.sizeOf3
  v3 := Try.zeroValue3
  t4 := Try.underlying4
  a4 := Try.isAgg4
  z4 := Try.sizeOf4
  v4 := Try.zeroValue4
  t22 := Try.underlying42
  a22 := Try.isAgg42
  z22 := Try.sizeOf42
  v22 := Try.zeroValue42
  a24 := Try.isAgg3
  z24 := Try.sizeOf3
  t25 := Try.underlying150
  a25 := Try.isAgg150
  z25 := Try.sizeOf150
  v25 := Try.zeroValue150 }
open Go.RowKit Go.Lib Go.Sort in
theorem Try.insertionSortCmpFunc_one {α : Type} [Inhabited α] (enc : α → Value) (hO : OneCell enc) (cf : α → α → Int) (g : Nat) (cb : Array Value) (blk off cap a b : Nat) (d : Array α) (w : World) (eg : ∀ args w, (callFunc g args).run Try.prog w = .ok (.enter g args) w) (hcmp : CmpReads Try.prog g cb enc cf blk off d.size w) (hH : Holds enc w blk off d) (hab : a ≤ b) (hb : b ≤ d.size) (hsz : d.size < 4611686018427387904) :
    Calls Try.prog 96 #[.slice (some ⟨blk, off, none⟩) d.size cap, .int .i64 a, .int .i64 b, .func (.func g) #[] cb] w fun e w' =>
      e = .returned (.tuple #[]) ∧ ∃ n, w' = (putRow enc w blk off (Sort.insertionSort (ltOf cf) d a b)).drewN n := Any.insertionSortCmpFunc_one Try.laysSlF20_f96 enc hO cf g cb blk off cap a b d w eg hcmp hH hab hb hsz
def Try.laysSlF46_f106_ren : Go.Shelf.Ren := ⟨fun | 46 => 106 | n => n, fun | 24 => 3 | 22 => 42 | 3 => 3 | 25 => 150 | 4 => 4 | 0 => 0 | n => n, fun | n => n⟩
theorem Try.laysSlF46_f106 : Go.Proofs.SlLaysF.n46 Try.prog Try.laysSlF46_f106_ren := {
  mixed := by kernel_rfl
  f46 := ⟨Try.f106.name, by decide, Try.func106.trans (congrArg some (by kernel_rfl))⟩
  t0 := Try.underlying0
  a0 := Try.isAgg0
  z0 := Try.sizeOf0
  v0 := Try.zeroValue0
  t3 := Try.underlying3
  a3 := Try.isAgg3
  z3 := Try.sizeOf3
  v3 := Try.zeroValue3
  t4 := Try.underlying4
  a4 := Try.isAgg4
  z4 := Try.sizeOf4
  v4 := Try.zeroValue4
  t22 := Try.underlying42
  a22 := Try.isAgg42
  z22 := Try.sizeOf42
  v22 := Try.zeroValue42
  a24 := Try.isAgg3
  z24 := Try.sizeOf3
  t25 := Try.underlying150
  a25 := Try.isAgg150
  z25 := Try.sizeOf150
  v25 := Try.zeroValue150 }
open Go.RowKit Go.Lib Go.Sort in
/-- slices.siftDownCmpFunc at elements of one cell: from a world of the sort's to a world of the sort's. (LAID AT THE INSTANCE 'slices.siftDownCmpFunc[int]': no walk: one application.) -/
theorem Try.siftDownCmpFunc {α : Type} [Inhabited α] (enc : α → Value) (cf : α → α → Int) (g : Nat) (cb : Array Value) (blk off cap lo hi first : Nat) (d0 d : Array α) (w0 w : World) (eg : ∀ args w, (callFunc g args).run Try.prog w = .ok (.enter g args) w) (hcmp : CmpLays1 Try.prog g cb enc cf blk off d0.size w0) (R : Row1 enc w0 blk off d0) (hs : d0.size = d.size) (S : SW enc w0 blk off d w) (hlo : lo ≤ hi) (hb : first + hi ≤ d.size) (hsz : d.size < 4611686018427387904) :
    Calls Try.prog 106 #[.slice (some ⟨blk, off, none⟩) d.size cap, .int .i64 lo, .int .i64 hi, .int .i64 first, .func (.func g) #[] cb] w fun e w' =>
      e = .returned (.tuple #[]) ∧ SW enc w0 blk off (siftDown (ltOf cf) hi first lo d) w' := Any.siftDownCmpFunc Try.laysSlF46_f106 enc cf g cb blk off cap lo hi first d0 d w0 w eg hcmp R hs S hlo hb hsz
def Try.laysSlF21_f97_ren : Go.Shelf.Ren := ⟨fun | 21 => 97 | 46 => 106 | n => n, fun | 24 => 3 | 22 => 42 | 3 => 3 | 25 => 150 | 4 => 4 | 0 => 0 | n => n, fun | n => n⟩
theorem Try.laysSlF21_f97 : Go.Proofs.SlLaysF.n21 Try.prog Try.laysSlF21_f97_ren := {
  mixed := by kernel_rfl
  f21 := ⟨Try.f97.name, by decide, Try.func97.trans (congrArg some (by kernel_rfl))⟩
  f46 := ⟨Try.f106.name, by decide, Try.func106.trans (congrArg some (by kernel_rfl))⟩
  t0 := Try.underlying0
  a0 := Try.isAgg0
  z0 := Try.sizeOf0
  v0 := Try.zeroValue0
  t3 := Try.underlying3
  a3 := Try.isAgg3
  z3 := Try.sizeOf3
  v3 := Try.zeroValue3
  t4 := Try.underlying4
  a4 := Try.isAgg4
  z4 := Try.sizeOf4
  v4 := Try.zeroValue4
  t22 := Try.underlying42
  a22 := Try.isAgg42
  z22 := Try.sizeOf42
  v22 := Try.zeroValue42
  a24 := Try.isAgg3
  z24 := Try.sizeOf3
  t25 := Try.underlying150
  a25 := Try.isAgg150
  z25 := Try.sizeOf150
  v25 := Try.zeroValue150 }
open Go.RowKit Go.Lib Go.Sort in
/-- slices.heapSortCmpFunc at elements of one cell. (LAID AT THE INSTANCE 'slices.heapSortCmpFunc[int]': no walk: one application.) -/
theorem Try.heapSortCmpFunc {α : Type} [Inhabited α] (enc : α → Value) (cf : α → α → Int) (g : Nat) (cb : Array Value) (blk off cap a b : Nat) (d0 d : Array α) (w0 w : World) (eg : ∀ args w, (callFunc g args).run Try.prog w = .ok (.enter g args) w) (hcmp : CmpLays1 Try.prog g cb enc cf blk off d0.size w0) (R : Row1 enc w0 blk off d0) (hs : d0.size = d.size) (S : SW enc w0 blk off d w) (hab : a ≤ b) (hb : b ≤ d.size) (hsz : d.size < 4611686018427387904) :
    Calls Try.prog 97 #[.slice (some ⟨blk, off, none⟩) d.size cap, .int .i64 a, .int .i64 b, .func (.func g) #[] cb] w fun e w' =>
      e = .returned (.tuple #[]) ∧ SW enc w0 blk off (heapSort (ltOf cf) d a b) w' := Any.heapSortCmpFunc Try.laysSlF21_f97 enc cf g cb blk off cap a b d0 d w0 w eg hcmp R hs S hab hb hsz
open Go.RowKit Go.Lib Go.Sort in
/-- slices.insertionSortCmpFunc at elements of one cell: from a world of the sort's to a world of the sort's. (LAID AT THE INSTANCE 'slices.insertionSortCmpFunc[int]': no walk: one application.) -/
theorem Try.insertionSortCmpFunc_s {α : Type} [Inhabited α] (enc : α → Value) (cf : α → α → Int) (g : Nat) (cb : Array Value) (blk off cap a b : Nat) (d0 d : Array α) (w0 w : World) (eg : ∀ args w, (callFunc g args).run Try.prog w = .ok (.enter g args) w) (hcmp : CmpLays1 Try.prog g cb enc cf blk off d0.size w0) (R : Row1 enc w0 blk off d0) (hs : d0.size = d.size) (S : SW enc w0 blk off d w) (hab : a ≤ b) (hb : b ≤ d.size) (hsz : d.size < 4611686018427387904) :
    Calls Try.prog 96 #[.slice (some ⟨blk, off, none⟩) d.size cap, .int .i64 a, .int .i64 b, .func (.func g) #[] cb] w fun e w' => e = .returned (.tuple #[]) ∧ SW enc w0 blk off (Sort.insertionSort (ltOf cf) d a b) w' := Any.insertionSortCmpFunc_s Try.laysSlF20_f96 enc cf g cb blk off cap a b d0 d w0 w eg hcmp R hs S hab hb hsz
def Try.laysSlF57_f111_ren : Go.Shelf.Ren := ⟨fun | 57 => 111 | n => n, fun | 24 => 3 | 22 => 42 | 3 => 3 | 70 => 182 | 25 => 150 | 0 => 0 | 4 => 4 | n => n, fun | n => n⟩
theorem Try.laysSlF57_f111 : Go.Proofs.SlLaysF.n57 Try.prog Try.laysSlF57_f111_ren := {
  mixed := by kernel_rfl
  f57 := ⟨Try.f111.name, by decide, Try.func111.trans (congrArg some (by kernel_rfl))⟩
  t0 := Try.underlying0
  a0 := Try.isAgg0
  z0 := Try.sizeOf0
  v0 := Try.zeroValue0
  t3 := Try.underlying3
  a3 := Try.isAgg3
  z3 := Try.sizeOf3
  v3 := Try.zeroValue3
  t4 := Try.underlying4
  a4 := Try.isAgg4
  z4 := Try.sizeOf4
  v4 := Try.zeroValue4
  t22 := Try.underlying42
  a22 := Try.isAgg42
  z22 := Try.sizeOf42
  v22 := Try.zeroValue42
  a24 := Try.isAgg3
  z24 := Try.sizeOf3
  t25 := Try.underlying150
  a25 := Try.isAgg150
  z25 := Try.sizeOf150
  v25 := Try.zeroValue150
  t70 := Try.underlying182
  a70 := Try.isAgg182
  z70 := Try.sizeOf182
  v70 := Try.zeroValue182 }
open Go.RowKit Go.Lib Go.Sort in
/-- slices.order2CmpFunc at elements of one cell. (LAID AT THE INSTANCE 'slices.order2CmpFunc[int]': no walk: one application.) -/
theorem Try.order2CmpFunc {α : Type} [Inhabited α] (enc : α → Value) (cf : α → α → Int) (g : Nat) (cb : Array Value) (blk off cap a b c s : Nat) (d0 d : Array α) (w0 W : World) (eg : ∀ args w, (callFunc g args).run Try.prog w = .ok (.enter g args) w) (hcmp : CmpLays1 Try.prog g cb enc cf blk off d0.size w0) (R : Row1 enc w0 blk off d0) (hs : d0.size = d.size) (C : Cnt1 enc w0 blk off d c s W) (ha : a < d.size) (hb : b < d.size) (hsz : d.size < 4611686018427387904) (hss : s < 4611686018427387904) :
    Calls Try.prog 111 #[.slice (some ⟨blk, off, none⟩) d.size cap, .int .i64 a, .int .i64 b, .pointer (some ⟨c, 0, none⟩), .func (.func g) #[] cb] W fun e w' =>
      e = .returned (.tuple #[.int .i64 (order2 (ltOf cf) d a b s).1, .int .i64 (order2 (ltOf cf) d a b s).2.1]) ∧ Cnt1 enc w0 blk off d c (order2 (ltOf cf) d a b s).2.2 w' := Any.order2CmpFunc Try.laysSlF57_f111 enc cf g cb blk off cap a b c s d0 d w0 W eg hcmp R hs C ha hb hsz hss
def Try.laysSlF50_f110_ren : Go.Shelf.Ren := ⟨fun | 50 => 110 | 57 => 111 | n => n, fun | 24 => 3 | 22 => 42 | 3 => 3 | 70 => 182 | 25 => 150 | 77 => 56 | 0 => 0 | 4 => 4 | n => n, fun | n => n⟩
theorem Try.laysSlF50_f110 : Go.Proofs.SlLaysF.n50 Try.prog Try.laysSlF50_f110_ren := {
  mixed := by kernel_rfl
  f50 := ⟨Try.f110.name, by decide, Try.func110.trans (congrArg some (by kernel_rfl))⟩
  f57 := ⟨Try.f111.name, by decide, Try.func111.trans (congrArg some (by kernel_rfl))⟩
  t0 := Try.underlying0
  a0 := Try.isAgg0
  z0 := Try.sizeOf0
  v0 := Try.zeroValue0
  t3 := Try.underlying3
  a3 := Try.isAgg3
  z3 := Try.sizeOf3
  v3 := Try.zeroValue3
  t4 := Try.underlying4
  a4 := Try.isAgg4
  z4 := Try.sizeOf4
  v4 := Try.zeroValue4
  t22 := Try.underlying42
  a22 := Try.isAgg42
  z22 := Try.sizeOf42
  v22 := Try.zeroValue42
  a24 := Try.isAgg3
  z24 := Try.sizeOf3
  t25 := Try.underlying150
  a25 := Try.isAgg150
  z25 := Try.sizeOf150
  v25 := Try.zeroValue150
  t70 := Try.underlying182
  a70 := Try.isAgg182
  z70 := Try.sizeOf182
  v70 := Try.zeroValue182
  t77 := Try.underlying56
  a77 := Try.isAgg56
  z77 := Try.sizeOf56
  v77 := Try.zeroValue56 }
open Go.RowKit Go.Lib Go.Sort in
/-- slices.medianCmpFunc at elements of one cell. (LAID AT THE INSTANCE 'slices.medianCmpFunc[int]': no walk: one application.) -/
theorem Try.medianCmpFunc {α : Type} [Inhabited α] (enc : α → Value) (cf : α → α → Int) (g : Nat) (cb : Array Value) (blk off cap a b c' c s : Nat) (d0 d : Array α) (w0 W : World) (eg : ∀ args w, (callFunc g args).run Try.prog w = .ok (.enter g args) w) (hcmp : CmpLays1 Try.prog g cb enc cf blk off d0.size w0) (R : Row1 enc w0 blk off d0) (hs : d0.size = d.size) (C : Cnt1 enc w0 blk off d c s W) (ha : a < d.size) (hb : b < d.size) (hc : c' < d.size) (hsz : d.size < 4611686018427387904) (hss : s + 3 < 4611686018427387904) :
    Calls Try.prog 110 #[.slice (some ⟨blk, off, none⟩) d.size cap, .int .i64 a, .int .i64 b, .int .i64 c', .pointer (some ⟨c, 0, none⟩), .func (.func g) #[] cb] W fun e w' =>
      e = .returned (.int .i64 (median (ltOf cf) d a b c' s).1) ∧ Cnt1 enc w0 blk off d c (median (ltOf cf) d a b c' s).2 w' := Any.medianCmpFunc Try.laysSlF50_f110 enc cf g cb blk off cap a b c' c s d0 d w0 W eg hcmp R hs C ha hb hc hsz hss
def Try.laysSlF49_f109_ren : Go.Shelf.Ren := ⟨fun | 49 => 109 | 50 => 110 | 57 => 111 | n => n, fun | 24 => 3 | 22 => 42 | 3 => 3 | 70 => 182 | 25 => 150 | 77 => 56 | 0 => 0 | 4 => 4 | n => n, fun | n => n⟩
theorem Try.laysSlF49_f109 : Go.Proofs.SlLaysF.n49 Try.prog Try.laysSlF49_f109_ren := {
  mixed := by kernel_rfl
  f49 := ⟨Try.f109.name, by decide, Try.func109.trans (congrArg some (by kernel_rfl))⟩
  f50 := ⟨Try.f110.name, by decide, Try.func110.trans (congrArg some (by kernel_rfl))⟩
  f57 := ⟨Try.f111.name, by decide, Try.func111.trans (congrArg some (by kernel_rfl))⟩
  t0 := Try.underlying0
  a0 := Try.isAgg0
  z0 := Try.sizeOf0
  v0 := Try.zeroValue0
  t3 := Try.underlying3
  a3 := Try.isAgg3
  z3 := Try.sizeOf3
  v3 := Try.zeroValue3
  t4 := Try.underlying4
  a4 := Try.isAgg4
  z4 := Try.sizeOf4
  v4 := Try.zeroValue4
  t22 := Try.underlying42
  a22 := Try.isAgg42
  z22 := Try.sizeOf42
  v22 := Try.zeroValue42
  a24 := Try.isAgg3
  z24 := Try.sizeOf3
  t25 := Try.underlying150
  a25 := Try.isAgg150
  z25 := Try.sizeOf150
  v25 := Try.zeroValue150
  t70 := Try.underlying182
  a70 := Try.isAgg182
  z70 := Try.sizeOf182
  v70 := Try.zeroValue182
  t77 := Try.underlying56
  a77 := Try.isAgg56
  z77 := Try.sizeOf56
  v77 := Try.zeroValue56 }
open Go.RowKit Go.Lib Go.Sort in
/-- slices.medianAdjacentCmpFunc at elements of one cell. (LAID AT THE INSTANCE 'slices.medianAdjacentCmpFunc[int]': no walk: one application.) -/
theorem Try.medianAdjacentCmpFunc {α : Type} [Inhabited α] (enc : α → Value) (cf : α → α → Int) (g : Nat) (cb : Array Value) (blk off cap a c s : Nat) (d0 d : Array α) (w0 W : World) (eg : ∀ args w, (callFunc g args).run Try.prog w = .ok (.enter g args) w) (hcmp : CmpLays1 Try.prog g cb enc cf blk off d0.size w0) (R : Row1 enc w0 blk off d0) (hs : d0.size = d.size) (C : Cnt1 enc w0 blk off d c s W) (ha1 : 1 ≤ a) (ha2 : a + 1 < d.size) (hsz : d.size < 4611686018427387904) (hss : s + 3 < 4611686018427387904) :
    Calls Try.prog 109 #[.slice (some ⟨blk, off, none⟩) d.size cap, .int .i64 a, .pointer (some ⟨c, 0, none⟩), .func (.func g) #[] cb] W fun e w' =>
      e = .returned (.int .i64 (medianAdjacent (ltOf cf) d a s).1) ∧ Cnt1 enc w0 blk off d c (medianAdjacent (ltOf cf) d a s).2 w' := Any.medianAdjacentCmpFunc Try.laysSlF49_f109 enc cf g cb blk off cap a c s d0 d w0 W eg hcmp R hs C ha1 ha2 hsz hss
def Try.laysSlF23_f99_ren : Go.Shelf.Ren := ⟨fun | 23 => 99 | 49 => 109 | 50 => 110 | 57 => 111 | n => n, fun | 24 => 3 | 22 => 42 | 3 => 3 | 25 => 150 | 45 => 168 | 0 => 0 | 4 => 4 | 70 => 182 | 77 => 56 | n => n, fun | n => n⟩
theorem Try.laysSlF23_f99 : Go.Proofs.SlLaysF.n23 Try.prog Try.laysSlF23_f99_ren := {
  mixed := by kernel_rfl
  f23 := ⟨Try.f99.name, by decide, Try.func99.trans (congrArg some (by kernel_rfl))⟩
  f49 := ⟨Try.f109.name, by decide, Try.func109.trans (congrArg some (by kernel_rfl))⟩
  f50 := ⟨Try.f110.name, by decide, Try.func110.trans (congrArg some (by kernel_rfl))⟩
  f57 := ⟨Try.f111.name, by decide, Try.func111.trans (congrArg some (by kernel_rfl))⟩
  t0 := Try.underlying0
  a0 := Try.isAgg0
  z0 := Try.sizeOf0
  v0 := Try.zeroValue0
  t3 := Try.underlying3
  a3 := Try.isAgg3
  z3 := Try.sizeOf3
  v3 := Try.zeroValue3
  t4 := Try.underlying4
  a4 := Try.isAgg4
  z4 := Try.sizeOf4
  v4 := Try.zeroValue4
  t22 := Try.underlying42
  a22 := Try.isAgg42
  z22 := Try.sizeOf42
  v22 := Try.zeroValue42
  a24 := Try.isAgg3
  z24 := Try.sizeOf3
  t25 := Try.underlying150
  a25 := Try.isAgg150
  z25 := Try.sizeOf150
  v25 := Try.zeroValue150
  t45 := Try.underlying168
  a45 := Try.isAgg168
  z45 := Try.sizeOf168
  v45 := Try.zeroValue168
  t70 := Try.underlying182
  a70 := Try.isAgg182
  z70 := Try.sizeOf182
  v70 := Try.zeroValue182
  t77 := Try.underlying56
  a77 := Try.isAgg56
  z77 := Try.sizeOf56
  v77 := Try.zeroValue56 }
open Go.RowKit Go.Lib Go.Sort in
/-- slices.choosePivotCmpFunc at elements of one cell: THE LIBRARY's OWN TEXT COMPUTES 'Sort.choosePivot (ltOf cf) d a b'; the row is not turned. (After Derived/Shelf/SlSortFuncK/PivotK.lean, row for row; the counter's world by 'CntK'.) (LAID AT THE INSTANCE 'slices.choosePivotCmpFunc[int]': no walk: one application.) -/
theorem Try.choosePivotCmpFunc {α : Type} [Inhabited α] (enc : α → Value) (cf : α → α → Int) (g : Nat) (cb : Array Value) (blk off cap a b : Nat) (d0 d : Array α) (w0 W : World) (eg : ∀ args w, (callFunc g args).run Try.prog w = .ok (.enter g args) w) (hcmp : CmpLays1 Try.prog g cb enc cf blk off d0.size w0) (R : Row1 enc w0 blk off d0) (hs : d0.size = d.size) (S : SW enc w0 blk off d W) (hab : a < b) (hb : b ≤ d.size) (hsz : d.size < 4611686018427387904) :
    Calls Try.prog 99 #[.slice (some ⟨blk, off, none⟩) d.size cap, .int .i64 a, .int .i64 b, .func (.func g) #[] cb] W fun e w' =>
      e = .returned (.tuple #[.int .i64 (choosePivot (ltOf cf) d a b).1, .int .i64 (hintCode (choosePivot (ltOf cf) d a b).2)]) ∧ SW enc w0 blk off d w' := Any.choosePivotCmpFunc Try.laysSlF23_f99 enc cf g cb blk off cap a b d0 d w0 W eg hcmp R hs S hab hb hsz
def Try.laysSlF24_f100_ren : Go.Shelf.Ren := ⟨fun | 24 => 100 | n => n, fun | 24 => 3 | 22 => 42 | 3 => 3 | 25 => 150 | 4 => 4 | 0 => 0 | n => n, fun | n => n⟩
theorem Try.laysSlF24_f100 : Go.Proofs.SlLaysF.n24 Try.prog Try.laysSlF24_f100_ren := {
  mixed := by kernel_rfl
  f24 := ⟨Try.f100.name, by decide, Try.func100.trans (congrArg some (by kernel_rfl))⟩
  t0 := Try.underlying0
  a0 := Try.isAgg0
  z0 := Try.sizeOf0
  v0 := Try.zeroValue0
  t3 := Try.underlying3
  a3 := Try.isAgg3
  z3 := Try.sizeOf3
  v3 := Try.zeroValue3
  t4 := Try.underlying4
  a4 := Try.isAgg4
  z4 := Try.sizeOf4
  v4 := Try.zeroValue4
  t22 := Try.underlying42
  a22 := Try.isAgg42
  z22 := Try.sizeOf42
  v22 := Try.zeroValue42
  a24 := Try.isAgg3
  z24 := Try.sizeOf3
  t25 := Try.underlying150
  a25 := Try.isAgg150
  z25 := Try.sizeOf150
  v25 := Try.zeroValue150 }
open Go.RowKit Go.Lib Go.Sort in
/-- slices.reverseRangeCmpFunc at elements of one cell: it exchanges and does not compare. (LAID AT THE INSTANCE 'slices.reverseRangeCmpFunc[int]': no walk: one application.) -/
theorem Try.reverseRangeCmpFunc {α : Type} [Inhabited α] (enc : α → Value) (g : Nat) (cb : Array Value) (blk off cap a b : Nat) (d0 d : Array α) (w0 w : World) (R : Row1 enc w0 blk off d0) (hs : d0.size = d.size) (S : SW enc w0 blk off d w) (hab : a ≤ b) (hb : b ≤ d.size) (hsz : d.size < 4611686018427387904) :
    Calls Try.prog 100 #[.slice (some ⟨blk, off, none⟩) d.size cap, .int .i64 a, .int .i64 b, .func (.func g) #[] cb] w fun e w' => e = .returned (.tuple #[]) ∧ SW enc w0 blk off (reverseRange d a b) w' := Any.reverseRangeCmpFunc Try.laysSlF24_f100 enc g cb blk off cap a b d0 d w0 w R hs S hab hb hsz
def Try.laysSlF25_f101_ren : Go.Shelf.Ren := ⟨fun | 25 => 101 | n => n, fun | 24 => 3 | 22 => 42 | 3 => 3 | 25 => 150 | 4 => 4 | 0 => 0 | n => n, fun | n => n⟩
theorem Try.laysSlF25_f101 : Go.Proofs.SlLaysF.n25 Try.prog Try.laysSlF25_f101_ren := {
  mixed := by kernel_rfl
  f25 := ⟨Try.f101.name, by decide, Try.func101.trans (congrArg some (by kernel_rfl))⟩
  t0 := Try.underlying0
  a0 := Try.isAgg0
  z0 := Try.sizeOf0
  v0 := Try.zeroValue0
  t3 := Try.underlying3
  a3 := Try.isAgg3
  z3 := Try.sizeOf3
  v3 := Try.zeroValue3
  t4 := Try.underlying4
  a4 := Try.isAgg4
  z4 := Try.sizeOf4
  v4 := Try.zeroValue4
  t22 := Try.underlying42
  a22 := Try.isAgg42
  z22 := Try.sizeOf42
  v22 := Try.zeroValue42
  a24 := Try.isAgg3
  z24 := Try.sizeOf3
  t25 := Try.underlying150
  a25 := Try.isAgg150
  z25 := Try.sizeOf150
  v25 := Try.zeroValue150 }
open Go.RowKit Go.Lib Go.Sort in
/-- slices.partialInsertionSortCmpFunc at elements of one cell. (LAID AT THE INSTANCE 'slices.partialInsertionSortCmpFunc[int]': no walk: one application.) -/
theorem Try.partialInsertionSortCmpFunc {α : Type} [Inhabited α] (enc : α → Value) (cf : α → α → Int) (g : Nat) (cb : Array Value) (blk off cap a b : Nat) (d0 d : Array α) (w0 w : World) (eg : ∀ args w, (callFunc g args).run Try.prog w = .ok (.enter g args) w) (hcmp : CmpLays1 Try.prog g cb enc cf blk off d0.size w0) (R : Row1 enc w0 blk off d0) (hs : d0.size = d.size) (S : SW enc w0 blk off d w) (hab : a < b) (hb : b ≤ d.size) (hsz : d.size < 4611686018427387904) :
    Calls Try.prog 101 #[.slice (some ⟨blk, off, none⟩) d.size cap, .int .i64 a, .int .i64 b, .func (.func g) #[] cb] w fun e w' =>
      e = .returned (.bool (Sort.partialInsertionSort (ltOf cf) d a b).2) ∧ SW enc w0 blk off (Sort.partialInsertionSort (ltOf cf) d a b).1 w' := Any.partialInsertionSortCmpFunc Try.laysSlF25_f101 enc cf g cb blk off cap a b d0 d w0 w eg hcmp R hs S hab hb hsz
def Try.laysSlF26_f102_ren : Go.Shelf.Ren := ⟨fun | 26 => 102 | n => n, fun | 24 => 3 | 22 => 42 | 3 => 3 | 25 => 150 | 0 => 0 | 4 => 4 | n => n, fun | n => n⟩
theorem Try.laysSlF26_f102 : Go.Proofs.SlLaysF.n26 Try.prog Try.laysSlF26_f102_ren := {
  mixed := by kernel_rfl
  f26 := ⟨Try.f102.name, by decide, Try.func102.trans (congrArg some (by kernel_rfl))⟩
  t0 := Try.underlying0
  a0 := Try.isAgg0
  z0 := Try.sizeOf0
  v0 := Try.zeroValue0
  t3 := Try.underlying3
  a3 := Try.isAgg3
  z3 := Try.sizeOf3
  v3 := Try.zeroValue3
  t4 := Try.underlying4
  a4 := Try.isAgg4
  z4 := Try.sizeOf4
  v4 := Try.zeroValue4
  t22 := Try.underlying42
  a22 := Try.isAgg42
  z22 := Try.sizeOf42
  v22 := Try.zeroValue42
  a24 := Try.isAgg3
  z24 := Try.sizeOf3
  t25 := Try.underlying150
  a25 := Try.isAgg150
  z25 := Try.sizeOf150
  v25 := Try.zeroValue150 }
open Go.RowKit Go.Lib Go.Sort in
/-- slices.partitionEqualCmpFunc at elements of one cell. (After Derived/Shelf/SlSortFuncK/PartitionK.lean, row for row.) (LAID AT THE INSTANCE 'slices.partitionEqualCmpFunc[int]': no walk: one application.) -/
theorem Try.partitionEqualCmpFunc {α : Type} [Inhabited α] (enc : α → Value) (cf : α → α → Int) (g : Nat) (cb : Array Value) (blk off cap a b pivot : Nat) (d0 d : Array α) (w0 w : World) (eg : ∀ args w, (callFunc g args).run Try.prog w = .ok (.enter g args) w) (hcmp : CmpLays1 Try.prog g cb enc cf blk off d0.size w0) (R : Row1 enc w0 blk off d0) (hs : d0.size = d.size) (S : SW enc w0 blk off d w) (hap : a ≤ pivot) (hpb : pivot < b) (hb : b ≤ d.size) (hsz : d.size < 4611686018427387904) :
    Calls Try.prog 102 #[.slice (some ⟨blk, off, none⟩) d.size cap, .int .i64 a, .int .i64 b, .int .i64 pivot, .func (.func g) #[] cb] w fun e w' =>
      e = .returned (.int .i64 (Sort.partitionEqual (ltOf cf) d a b pivot).1) ∧ SW enc w0 blk off (Sort.partitionEqual (ltOf cf) d a b pivot).2 w' := Any.partitionEqualCmpFunc Try.laysSlF26_f102 enc cf g cb blk off cap a b pivot d0 d w0 w eg hcmp R hs S hap hpb hb hsz
def Try.laysSlF27_f103_ren : Go.Shelf.Ren := ⟨fun | 27 => 103 | n => n, fun | 24 => 3 | 22 => 42 | 3 => 3 | 25 => 150 | 4 => 4 | 0 => 0 | n => n, fun | n => n⟩
theorem Try.laysSlF27_f103 : Go.Proofs.SlLaysF.n27 Try.prog Try.laysSlF27_f103_ren := {
  mixed := by kernel_rfl
  f27 := ⟨Try.f103.name, by decide, Try.func103.trans (congrArg some (by kernel_rfl))⟩
  t0 := Try.underlying0
  a0 := Try.isAgg0
  z0 := Try.sizeOf0
  v0 := Try.zeroValue0
  t3 := Try.underlying3
  a3 := Try.isAgg3
  z3 := Try.sizeOf3
  v3 := Try.zeroValue3
  t4 := Try.underlying4
  a4 := Try.isAgg4
  z4 := Try.sizeOf4
  v4 := Try.zeroValue4
  t22 := Try.underlying42
  a22 := Try.isAgg42
  z22 := Try.sizeOf42
  v22 := Try.zeroValue42
  a24 := Try.isAgg3
  z24 := Try.sizeOf3
  t25 := Try.underlying150
  a25 := Try.isAgg150
  z25 := Try.sizeOf150
  v25 := Try.zeroValue150 }
open Go.RowKit Go.Lib Go.Sort in
/-- slices.partitionCmpFunc at elements of one cell. (After Derived/Shelf/SlSortFuncK/PartitionK.lean, row for row.) (LAID AT THE INSTANCE 'slices.partitionCmpFunc[int]': no walk: one application.) -/
theorem Try.partitionCmpFunc {α : Type} [Inhabited α] (enc : α → Value) (cf : α → α → Int) (g : Nat) (cb : Array Value) (blk off cap a b pivot : Nat) (d0 d : Array α) (w0 w : World) (eg : ∀ args w, (callFunc g args).run Try.prog w = .ok (.enter g args) w) (hcmp : CmpLays1 Try.prog g cb enc cf blk off d0.size w0) (R : Row1 enc w0 blk off d0) (hs : d0.size = d.size) (S : SW enc w0 blk off d w) (hap : a ≤ pivot) (hpb : pivot < b) (hb : b ≤ d.size) (hsz : d.size < 4611686018427387904) :
    Calls Try.prog 103 #[.slice (some ⟨blk, off, none⟩) d.size cap, .int .i64 a, .int .i64 b, .int .i64 pivot, .func (.func g) #[] cb] w fun e w' =>
      e = .returned (.tuple #[.int .i64 (Sort.partition (ltOf cf) d a b pivot).1, .bool (Sort.partition (ltOf cf) d a b pivot).2.1]) ∧ SW enc w0 blk off (Sort.partition (ltOf cf) d a b pivot).2.2 w' := Any.partitionCmpFunc Try.laysSlF27_f103 enc cf g cb blk off cap a b pivot d0 d w0 w eg hcmp R hs S hap hpb hb hsz
def Try.laysSlF14_f93_ren : Go.Shelf.Ren := ⟨fun | 14 => 93 | 20 => 96 | 21 => 97 | 22 => 98 | 23 => 99 | 24 => 100 | 25 => 101 | 26 => 102 | 27 => 103 | 46 => 106 | 47 => 107 | 48 => 108 | 49 => 109 | 50 => 110 | 15 => 94 | 57 => 111 | 28 => 104 | 29 => 105 | n => n, fun | 24 => 3 | 22 => 42 | 3 => 3 | 25 => 150 | 4 => 4 | 0 => 0 | 46 => 169 | 45 => 168 | 50 => 173 | 66 => 178 | 39 => 166 | 55 => 114 | 70 => 182 | 76 => 184 | 77 => 56 | 53 => 176 | 5 => 5 | 9 => 9 | n => n, fun | n => n⟩
theorem Try.laysSlF14_f93 : Go.Proofs.SlLaysF.n14 Try.prog Try.laysSlF14_f93_ren := {
  mixed := by kernel_rfl
  f14 := ⟨Try.f93.name, by decide, Try.func93.trans (congrArg some (by kernel_rfl))⟩
  f15 := Try.func94.trans (congrArg some (by kernel_rfl))
  f20 := ⟨Try.f96.name, by decide, Try.func96.trans (congrArg some (by kernel_rfl))⟩
  f21 := ⟨Try.f97.name, by decide, Try.func97.trans (congrArg some (by kernel_rfl))⟩
  f22 := ⟨Try.f98.name, by decide, Try.func98.trans (congrArg some (by kernel_rfl))⟩
  f23 := ⟨Try.f99.name, by decide, Try.func99.trans (congrArg some (by kernel_rfl))⟩
  f24 := ⟨Try.f100.name, by decide, Try.func100.trans (congrArg some (by kernel_rfl))⟩
  f25 := ⟨Try.f101.name, by decide, Try.func101.trans (congrArg some (by kernel_rfl))⟩
  f26 := ⟨Try.f102.name, by decide, Try.func102.trans (congrArg some (by kernel_rfl))⟩
  f27 := ⟨Try.f103.name, by decide, Try.func103.trans (congrArg some (by kernel_rfl))⟩
  f28 := Try.func104.trans (congrArg some (by kernel_rfl))
  f29 := Try.func105.trans (congrArg some (by kernel_rfl))
  f46 := ⟨Try.f106.name, by decide, Try.func106.trans (congrArg some (by kernel_rfl))⟩
  f47 := Try.func107.trans (congrArg some (by kernel_rfl))
  f48 := Try.func108.trans (congrArg some (by kernel_rfl))
  f49 := ⟨Try.f109.name, by decide, Try.func109.trans (congrArg some (by kernel_rfl))⟩
  f50 := ⟨Try.f110.name, by decide, Try.func110.trans (congrArg some (by kernel_rfl))⟩
  f57 := ⟨Try.f111.name, by decide, Try.func111.trans (congrArg some (by kernel_rfl))⟩
  t0 := Try.underlying0
  a0 := Try.isAgg0
  z0 := Try.sizeOf0
  v0 := Try.zeroValue0
  t3 := Try.underlying3
  a3 := Try.isAgg3
  z3 := Try.sizeOf3
  v3 := Try.zeroValue3
  t4 := Try.underlying4
  a4 := Try.isAgg4
  z4 := Try.sizeOf4
  v4 := Try.zeroValue4
  t5 := Try.underlying5
  a5 := Try.isAgg5
  z5 := Try.sizeOf5
  v5 := Try.zeroValue5
  t9 := Try.underlying9
  a9 := Try.isAgg9
  z9 := Try.sizeOf9
  v9 := Try.zeroValue9
  t22 := Try.underlying42
  a22 := Try.isAgg42
  z22 := Try.sizeOf42
  v22 := Try.zeroValue42
  a24 := Try.isAgg3
  z24 := Try.sizeOf3
  t25 := Try.underlying150
  a25 := Try.isAgg150
  z25 := Try.sizeOf150
  v25 := Try.zeroValue150
  t39 := Try.underlying166
  a39 := Try.isAgg166
  z39 := Try.sizeOf166
  v39 := Try.zeroValue166
  t45 := Try.underlying168
  a45 := Try.isAgg168
  z45 := Try.sizeOf168
  v45 := Try.zeroValue168
  t46 := Try.underlying169
  a46 := Try.isAgg169
  z46 := Try.sizeOf169
  v46 := Try.zeroValue169
  t50 := Try.underlying173
  a50 := Try.isAgg173
  z50 := Try.sizeOf173
  v50 := Try.zeroValue173
  t53 := Try.underlying176
  a53 := Try.isAgg176
  z53 := Try.sizeOf176
  v53 := Try.zeroValue176
  t55 := Try.underlying114
  a55 := Try.isAgg114
  z55 := Try.sizeOf114
  v55 := Try.zeroValue114
  t66 := Try.underlying178
  a66 := Try.isAgg178
  z66 := Try.sizeOf178
  v66 := Try.zeroValue178
  t70 := Try.underlying182
  a70 := Try.isAgg182
  z70 := Try.sizeOf182
  v70 := Try.zeroValue182
  t76 := Try.underlying184
  a76 := Try.isAgg184
  z76 := Try.sizeOf184
  v76 := Try.zeroValue184
  t77 := Try.underlying56
  a77 := Try.isAgg56
  z77 := Try.sizeOf56
  v77 := Try.zeroValue56 }
open Go.RowKit Go.Lib Go.Sort in
/-- slices.pdqsortCmpFunc at elements of one cell, WHOLE. (After Derived/Shelf/SlSortFuncK/PdqK.lean, row for row: the slots and the regions' numbers are this body's.) (LAID AT THE INSTANCE 'slices.pdqsortCmpFunc[int]': no walk: one application.) -/
theorem Try.pdqsortCmpFunc_all {α : Type} [Inhabited α] (enc : α → Value) (cf : α → α → Int) (g : Nat) (cb : Array Value) (hO : SWO (ltOf cf)) (blk off cap : Nat) (d0 : Array α) (w0 : World) (eg : ∀ args w, (callFunc g args).run Try.prog w = .ok (.enter g args) w) (hcmp : CmpLays1 Try.prog g cb enc cf blk off d0.size w0) (R : Row1 enc w0 blk off d0) :
    ∀ (N a b limit : Nat) (d : Array α) (w : World), b - a < N → d0.size = d.size → SW enc w0 blk off d w → a ≤ b → b ≤ d.size → d.size < 4611686018427387904 → limit < 4611686018427387904 → Below (ltOf cf) a b d →
    Calls Try.prog 93 #[.slice (some ⟨blk, off, none⟩) d.size cap, .int .i64 a, .int .i64 b, .int .i64 limit, .func (.func g) #[] cb] w fun e w' => e = .returned (.tuple #[]) ∧ SW enc w0 blk off (pdq (ltOf cf) d a b limit true true) w' := Any.pdqsortCmpFunc_all Try.laysSlF14_f93 enc cf g cb hO blk off cap d0 w0 eg hcmp R
def Try.laysSlF6_f87_ren : Go.Shelf.Ren := ⟨fun | 6 => 87 | 15 => 94 | 14 => 93 | 28 => 104 | 29 => 105 | 20 => 96 | 21 => 97 | 22 => 98 | 23 => 99 | 24 => 100 | 25 => 101 | 26 => 102 | 27 => 103 | 46 => 106 | 47 => 107 | 48 => 108 | 49 => 109 | 50 => 110 | 57 => 111 | n => n, fun | 22 => 42 | 24 => 3 | 25 => 150 | 3 => 3 | 39 => 166 | 0 => 0 | 53 => 176 | 55 => 114 | 4 => 4 | 46 => 169 | 45 => 168 | 50 => 173 | 5 => 5 | 9 => 9 | 66 => 178 | 70 => 182 | 76 => 184 | 77 => 56 | n => n, fun | n => n⟩
theorem Try.laysSlF6_f87 : Go.Proofs.SlLaysF.n6 Try.prog Try.laysSlF6_f87_ren := {
  mixed := by kernel_rfl
  f6 := ⟨Try.f87.name, by decide, Try.func87.trans (congrArg some (by kernel_rfl))⟩
  f14 := ⟨Try.f93.name, by decide, Try.func93.trans (congrArg some (by kernel_rfl))⟩
  f15 := Try.func94.trans (congrArg some (by kernel_rfl))
  f20 := ⟨Try.f96.name, by decide, Try.func96.trans (congrArg some (by kernel_rfl))⟩
  f21 := ⟨Try.f97.name, by decide, Try.func97.trans (congrArg some (by kernel_rfl))⟩
  f22 := ⟨Try.f98.name, by decide, Try.func98.trans (congrArg some (by kernel_rfl))⟩
  f23 := ⟨Try.f99.name, by decide, Try.func99.trans (congrArg some (by kernel_rfl))⟩
  f24 := ⟨Try.f100.name, by decide, Try.func100.trans (congrArg some (by kernel_rfl))⟩
  f25 := ⟨Try.f101.name, by decide, Try.func101.trans (congrArg some (by kernel_rfl))⟩
  f26 := ⟨Try.f102.name, by decide, Try.func102.trans (congrArg some (by kernel_rfl))⟩
  f27 := ⟨Try.f103.name, by decide, Try.func103.trans (congrArg some (by kernel_rfl))⟩
  f28 := Try.func104.trans (congrArg some (by kernel_rfl))
  f29 := Try.func105.trans (congrArg some (by kernel_rfl))
  f46 := ⟨Try.f106.name, by decide, Try.func106.trans (congrArg some (by kernel_rfl))⟩
  f47 := Try.func107.trans (congrArg some (by kernel_rfl))
  f48 := Try.func108.trans (congrArg some (by kernel_rfl))
  f49 := ⟨Try.f109.name, by decide, Try.func109.trans (congrArg some (by kernel_rfl))⟩
  f50 := ⟨Try.f110.name, by decide, Try.func110.trans (congrArg some (by kernel_rfl))⟩
  f57 := ⟨Try.f111.name, by decide, Try.func111.trans (congrArg some (by kernel_rfl))⟩
  t0 := Try.underlying0
  a0 := Try.isAgg0
  z0 := Try.sizeOf0
  v0 := Try.zeroValue0
  t3 := Try.underlying3
  a3 := Try.isAgg3
  z3 := Try.sizeOf3
  v3 := Try.zeroValue3
  t4 := Try.underlying4
  a4 := Try.isAgg4
  z4 := Try.sizeOf4
  v4 := Try.zeroValue4
  t5 := Try.underlying5
  a5 := Try.isAgg5
  z5 := Try.sizeOf5
  v5 := Try.zeroValue5
  t9 := Try.underlying9
  a9 := Try.isAgg9
  z9 := Try.sizeOf9
  v9 := Try.zeroValue9
  t22 := Try.underlying42
  a22 := Try.isAgg42
  z22 := Try.sizeOf42
  v22 := Try.zeroValue42
  a24 := Try.isAgg3
  z24 := Try.sizeOf3
  t25 := Try.underlying150
  a25 := Try.isAgg150
  z25 := Try.sizeOf150
  v25 := Try.zeroValue150
  t39 := Try.underlying166
  a39 := Try.isAgg166
  z39 := Try.sizeOf166
  v39 := Try.zeroValue166
  t45 := Try.underlying168
  a45 := Try.isAgg168
  z45 := Try.sizeOf168
  v45 := Try.zeroValue168
  t46 := Try.underlying169
  a46 := Try.isAgg169
  z46 := Try.sizeOf169
  v46 := Try.zeroValue169
  t50 := Try.underlying173
  a50 := Try.isAgg173
  z50 := Try.sizeOf173
  v50 := Try.zeroValue173
  t53 := Try.underlying176
  a53 := Try.isAgg176
  z53 := Try.sizeOf176
  v53 := Try.zeroValue176
  t55 := Try.underlying114
  a55 := Try.isAgg114
  z55 := Try.sizeOf114
  v55 := Try.zeroValue114
  t66 := Try.underlying178
  a66 := Try.isAgg178
  z66 := Try.sizeOf178
  v66 := Try.zeroValue178
  t70 := Try.underlying182
  a70 := Try.isAgg182
  z70 := Try.sizeOf182
  v70 := Try.zeroValue182
  t76 := Try.underlying184
  a76 := Try.isAgg184
  z76 := Try.sizeOf184
  v76 := Try.zeroValue184
  t77 := Try.underlying56
  a77 := Try.isAgg56
  z77 := Try.sizeOf56
  v77 := Try.zeroValue56 }
open Go.RowKit Go.Lib Go.Sort in
/-- **slices.SortFunc: WHAT THE ROW HOLDS, TO THE ELEMENT.** (LAID AT THE INSTANCE 'slices.SortFunc[[]int,int]': no walk: one application.) -/
theorem Try.slices_SortFunc_eq {α : Type} [Inhabited α] (enc : α → Value) (h1 : OneCell enc) (cf : α → α → Int) (hO : SWO (ltOf cf)) (g : Nat) (cb : Array Value) (blk off cap : Nat) (d : Array α) (w : World) (eg : ∀ args w, (callFunc g args).run Try.prog w = .ok (.enter g args) w) (hcmp : CmpLays1 Try.prog g cb enc cf blk off d.size w) (hH : Holds enc w blk off d) (hblk : blk < w.heap.size) (hsz : d.size < 4611686018427387904) :
    Calls Try.prog 87 #[.slice (some ⟨blk, off, none⟩) d.size cap, .func (.func g) #[] cb] w fun e w' =>
      e = .returned (.tuple #[]) ∧ ∃ n os, w' = sortWorld enc w blk off n (pdq (ltOf cf) d 0 d.size (Lib.bitLen d.size) true true) os := Any.slices_SortFunc_eq Try.laysSlF6_f87 enc h1 cf hO g cb blk off cap d w eg hcmp hH hblk hsz
open Go.RowKit Go.Lib Go.Sort in
/-- **slices.SortFunc, IN THE DOCUMENTATION's OWN TERMS: A PERMUTATION OF WHAT THE ROW HELD, SORTED BY 'cmp(a, b) < 0'.** Which of two equals comes first is left open ("The sort is not guaranteed to be stable"). (LAID AT THE INSTANCE 'slices.SortFunc[[]int,int]': no walk: one application.) -/
theorem Try.slices_SortFunc {α : Type} [Inhabited α] (enc : α → Value) (h1 : OneCell enc) (cf : α → α → Int) (hO : SWO (ltOf cf)) (g : Nat) (cb : Array Value) (blk off cap : Nat) (d : Array α) (w : World) (eg : ∀ args w, (callFunc g args).run Try.prog w = .ok (.enter g args) w) (hcmp : CmpLays1 Try.prog g cb enc cf blk off d.size w) (hH : Holds enc w blk off d) (hblk : blk < w.heap.size) (hsz : d.size < 4611686018427387904) :
    Calls Try.prog 87 #[.slice (some ⟨blk, off, none⟩) d.size cap, .func (.func g) #[] cb] w fun e w' =>
      e = .returned (.tuple #[]) ∧ ∃ d' n os, PermIn 0 d.size d d' ∧ SortedIn (ltOf cf) 0 d.size d' ∧ w' = sortWorld enc w blk off n d' os := Any.slices_SortFunc Try.laysSlF6_f87 enc h1 cf hO g cb blk off cap d w eg hcmp hH hblk hsz
def Try.laysSlF020_f96_ren : Go.Shelf.Ren := ⟨fun | 20 => 96 | n => n, fun | 24 => 3 | 22 => 42 | 3 => 3 | 25 => 150 | 4 => 4 | 0 => 0 | n => n, fun | n => n⟩
theorem Try.laysSlF020_f96 : Go.Proofs.SlLaysF0.n20 Try.prog Try.laysSlF020_f96_ren := {
  mixed := by kernel_rfl
  f20 := ⟨Try.f96.name, by decide, Try.func96.trans (congrArg some (by kernel_rfl))⟩
  t0 := Try.underlying0
  a0 := Try.isAgg0
  z0 := Try.sizeOf0
  v0 := Try.zeroValue0
  t3 := Try.underlying3
  a3 := Try.isAgg3
  z3 := Try.sizeOf3
  v3 := Try.zeroValue3
  t4 := Try.underlying4
  a4 := Try.isAgg4
  z4 := Try.sizeOf4
  v4 := Try.zeroValue4
  t22 := Try.underlying42
  a22 := Try.isAgg42
  z22 := Try.sizeOf42
  v22 := Try.zeroValue42
  t25 := Try.underlying150
  a25 := Try.isAgg150
  z25 := Try.sizeOf150
  v25 := Try.zeroValue150 }
open Go.RowKit Go.Lib Go.Sort in
theorem Try.insertionSortCmpFunc_none {α : Type} [Inhabited α] (p : Option Addr) (cap : Nat) (fv : Value) (w : World) :
    Calls Try.prog 96 #[.slice p 0 cap, .int .i64 0, .int .i64 0, fv] w fun e w' => e = .returned (.tuple #[]) ∧ w' = w := AnyF.insertionSortCmpFunc_none Try.laysSlF020_f96 p cap fv w
def Try.laysSlF014_f93_ren : Go.Shelf.Ren := ⟨fun | 14 => 93 | 20 => 96 | 21 => 97 | 22 => 98 | 23 => 99 | 24 => 100 | 25 => 101 | 26 => 102 | 27 => 103 | 46 => 106 | 47 => 107 | 48 => 108 | 49 => 109 | 50 => 110 | 15 => 94 | 57 => 111 | 28 => 104 | 29 => 105 | n => n, fun | 24 => 3 | 22 => 42 | 3 => 3 | 25 => 150 | 4 => 4 | 0 => 0 | 46 => 169 | 45 => 168 | 50 => 173 | 66 => 178 | 39 => 166 | 55 => 114 | 70 => 182 | 76 => 184 | 77 => 56 | 53 => 176 | 5 => 5 | 9 => 9 | n => n, fun | n => n⟩
theorem Try.laysSlF014_f93 : Go.Proofs.SlLaysF0.n14 Try.prog Try.laysSlF014_f93_ren := {
  mixed := by kernel_rfl
  f14 := ⟨Try.f93.name, by decide, Try.func93.trans (congrArg some (by kernel_rfl))⟩
  f15 := Try.func94.trans (congrArg some (by kernel_rfl))
  f20 := ⟨Try.f96.name, by decide, Try.func96.trans (congrArg some (by kernel_rfl))⟩
  f21 := ⟨Try.f97.name, by decide, Try.func97.trans (congrArg some (by kernel_rfl))⟩
  f22 := ⟨Try.f98.name, by decide, Try.func98.trans (congrArg some (by kernel_rfl))⟩
  f23 := ⟨Try.f99.name, by decide, Try.func99.trans (congrArg some (by kernel_rfl))⟩
  f24 := ⟨Try.f100.name, by decide, Try.func100.trans (congrArg some (by kernel_rfl))⟩
  f25 := ⟨Try.f101.name, by decide, Try.func101.trans (congrArg some (by kernel_rfl))⟩
  f26 := ⟨Try.f102.name, by decide, Try.func102.trans (congrArg some (by kernel_rfl))⟩
  f27 := ⟨Try.f103.name, by decide, Try.func103.trans (congrArg some (by kernel_rfl))⟩
  f28 := Try.func104.trans (congrArg some (by kernel_rfl))
  f29 := Try.func105.trans (congrArg some (by kernel_rfl))
  f46 := ⟨Try.f106.name, by decide, Try.func106.trans (congrArg some (by kernel_rfl))⟩
  f47 := Try.func107.trans (congrArg some (by kernel_rfl))
  f48 := Try.func108.trans (congrArg some (by kernel_rfl))
  f49 := ⟨Try.f109.name, by decide, Try.func109.trans (congrArg some (by kernel_rfl))⟩
  f50 := ⟨Try.f110.name, by decide, Try.func110.trans (congrArg some (by kernel_rfl))⟩
  f57 := ⟨Try.f111.name, by decide, Try.func111.trans (congrArg some (by kernel_rfl))⟩
  t0 := Try.underlying0
  a0 := Try.isAgg0
  z0 := Try.sizeOf0
  v0 := Try.zeroValue0
  t3 := Try.underlying3
  a3 := Try.isAgg3
  z3 := Try.sizeOf3
  v3 := Try.zeroValue3
  t4 := Try.underlying4
  a4 := Try.isAgg4
  z4 := Try.sizeOf4
  v4 := Try.zeroValue4
  t5 := Try.underlying5
  a5 := Try.isAgg5
  z5 := Try.sizeOf5
  v5 := Try.zeroValue5
  t9 := Try.underlying9
  a9 := Try.isAgg9
  z9 := Try.sizeOf9
  v9 := Try.zeroValue9
  t22 := Try.underlying42
  a22 := Try.isAgg42
  z22 := Try.sizeOf42
  v22 := Try.zeroValue42
  t25 := Try.underlying150
  a25 := Try.isAgg150
  z25 := Try.sizeOf150
  v25 := Try.zeroValue150
  t39 := Try.underlying166
  a39 := Try.isAgg166
  z39 := Try.sizeOf166
  v39 := Try.zeroValue166
  t45 := Try.underlying168
  a45 := Try.isAgg168
  z45 := Try.sizeOf168
  v45 := Try.zeroValue168
  t46 := Try.underlying169
  a46 := Try.isAgg169
  z46 := Try.sizeOf169
  v46 := Try.zeroValue169
  t50 := Try.underlying173
  a50 := Try.isAgg173
  z50 := Try.sizeOf173
  v50 := Try.zeroValue173
  t53 := Try.underlying176
  a53 := Try.isAgg176
  z53 := Try.sizeOf176
  v53 := Try.zeroValue176
  t55 := Try.underlying114
  a55 := Try.isAgg114
  z55 := Try.sizeOf114
  v55 := Try.zeroValue114
  t66 := Try.underlying178
  a66 := Try.isAgg178
  z66 := Try.sizeOf178
  v66 := Try.zeroValue178
  t70 := Try.underlying182
  a70 := Try.isAgg182
  z70 := Try.sizeOf182
  v70 := Try.zeroValue182
  t76 := Try.underlying184
  a76 := Try.isAgg184
  z76 := Try.sizeOf184
  v76 := Try.zeroValue184
  t77 := Try.underlying56
  a77 := Try.isAgg56
  z77 := Try.sizeOf56
  v77 := Try.zeroValue56 }
open Go.RowKit Go.Lib Go.Sort in
theorem Try.pdqsortCmpFunc_none {α : Type} [Inhabited α] (p : Option Addr) (cap : Nat) (lim : Int) (fv : Value) (w : World) :
    Calls Try.prog 93 #[.slice p 0 cap, .int .i64 0, .int .i64 0, .int .i64 lim, fv] w fun e w' => e = .returned (.tuple #[]) ∧ w' = w := AnyF.pdqsortCmpFunc_none Try.laysSlF014_f93 p cap lim fv w
def Try.laysSlF06_f87_ren : Go.Shelf.Ren := ⟨fun | 6 => 87 | 15 => 94 | 14 => 93 | 28 => 104 | 29 => 105 | 20 => 96 | 21 => 97 | 22 => 98 | 23 => 99 | 24 => 100 | 25 => 101 | 26 => 102 | 27 => 103 | 46 => 106 | 47 => 107 | 48 => 108 | 49 => 109 | 50 => 110 | 57 => 111 | n => n, fun | 22 => 42 | 24 => 3 | 25 => 150 | 3 => 3 | 39 => 166 | 0 => 0 | 53 => 176 | 55 => 114 | 4 => 4 | 46 => 169 | 45 => 168 | 50 => 173 | 5 => 5 | 9 => 9 | 66 => 178 | 70 => 182 | 76 => 184 | 77 => 56 | n => n, fun | n => n⟩
theorem Try.laysSlF06_f87 : Go.Proofs.SlLaysF0.n6 Try.prog Try.laysSlF06_f87_ren := {
  mixed := by kernel_rfl
  f6 := ⟨Try.f87.name, by decide, Try.func87.trans (congrArg some (by kernel_rfl))⟩
  f14 := ⟨Try.f93.name, by decide, Try.func93.trans (congrArg some (by kernel_rfl))⟩
  f15 := Try.func94.trans (congrArg some (by kernel_rfl))
  f20 := ⟨Try.f96.name, by decide, Try.func96.trans (congrArg some (by kernel_rfl))⟩
  f21 := ⟨Try.f97.name, by decide, Try.func97.trans (congrArg some (by kernel_rfl))⟩
  f22 := ⟨Try.f98.name, by decide, Try.func98.trans (congrArg some (by kernel_rfl))⟩
  f23 := ⟨Try.f99.name, by decide, Try.func99.trans (congrArg some (by kernel_rfl))⟩
  f24 := ⟨Try.f100.name, by decide, Try.func100.trans (congrArg some (by kernel_rfl))⟩
  f25 := ⟨Try.f101.name, by decide, Try.func101.trans (congrArg some (by kernel_rfl))⟩
  f26 := ⟨Try.f102.name, by decide, Try.func102.trans (congrArg some (by kernel_rfl))⟩
  f27 := ⟨Try.f103.name, by decide, Try.func103.trans (congrArg some (by kernel_rfl))⟩
  f28 := Try.func104.trans (congrArg some (by kernel_rfl))
  f29 := Try.func105.trans (congrArg some (by kernel_rfl))
  f46 := ⟨Try.f106.name, by decide, Try.func106.trans (congrArg some (by kernel_rfl))⟩
  f47 := Try.func107.trans (congrArg some (by kernel_rfl))
  f48 := Try.func108.trans (congrArg some (by kernel_rfl))
  f49 := ⟨Try.f109.name, by decide, Try.func109.trans (congrArg some (by kernel_rfl))⟩
  f50 := ⟨Try.f110.name, by decide, Try.func110.trans (congrArg some (by kernel_rfl))⟩
  f57 := ⟨Try.f111.name, by decide, Try.func111.trans (congrArg some (by kernel_rfl))⟩
  t0 := Try.underlying0
  a0 := Try.isAgg0
  z0 := Try.sizeOf0
  v0 := Try.zeroValue0
  t3 := Try.underlying3
  a3 := Try.isAgg3
  z3 := Try.sizeOf3
  v3 := Try.zeroValue3
  t4 := Try.underlying4
  a4 := Try.isAgg4
  z4 := Try.sizeOf4
  v4 := Try.zeroValue4
  t5 := Try.underlying5
  a5 := Try.isAgg5
  z5 := Try.sizeOf5
  v5 := Try.zeroValue5
  t9 := Try.underlying9
  a9 := Try.isAgg9
  z9 := Try.sizeOf9
  v9 := Try.zeroValue9
  t22 := Try.underlying42
  a22 := Try.isAgg42
  z22 := Try.sizeOf42
  v22 := Try.zeroValue42
  t25 := Try.underlying150
  a25 := Try.isAgg150
  z25 := Try.sizeOf150
  v25 := Try.zeroValue150
  t39 := Try.underlying166
  a39 := Try.isAgg166
  z39 := Try.sizeOf166
  v39 := Try.zeroValue166
  t45 := Try.underlying168
  a45 := Try.isAgg168
  z45 := Try.sizeOf168
  v45 := Try.zeroValue168
  t46 := Try.underlying169
  a46 := Try.isAgg169
  z46 := Try.sizeOf169
  v46 := Try.zeroValue169
  t50 := Try.underlying173
  a50 := Try.isAgg173
  z50 := Try.sizeOf173
  v50 := Try.zeroValue173
  t53 := Try.underlying176
  a53 := Try.isAgg176
  z53 := Try.sizeOf176
  v53 := Try.zeroValue176
  t55 := Try.underlying114
  a55 := Try.isAgg114
  z55 := Try.sizeOf114
  v55 := Try.zeroValue114
  t66 := Try.underlying178
  a66 := Try.isAgg178
  z66 := Try.sizeOf178
  v66 := Try.zeroValue178
  t70 := Try.underlying182
  a70 := Try.isAgg182
  z70 := Try.sizeOf182
  v70 := Try.zeroValue182
  t76 := Try.underlying184
  a76 := Try.isAgg184
  z76 := Try.sizeOf184
  v76 := Try.zeroValue184
  t77 := Try.underlying56
  a77 := Try.isAgg56
  z77 := Try.sizeOf56
  v77 := Try.zeroValue56 }
open Go.RowKit Go.Lib Go.Sort in
/-- **slices.SortFunc AT NO ELEMENT, A nil SLICE TOO: nothing turns.** (LAID AT THE INSTANCE 'slices.SortFunc[[]int,int]': no walk: one application.) -/
theorem Try.slices_SortFunc_none {α : Type} [Inhabited α] (p : Option Addr) (cap : Nat) (fv : Value) (w : World) :
    Calls Try.prog 87 #[.slice p 0 cap, fv] w fun e w' => e = .returned (.tuple #[]) ∧ w' = w := AnyF.slices_SortFunc_none Try.laysSlF06_f87 p cap fv w
open Go.RowKit Go.Lib Go.Sort in
/-- **slices.SortFunc AT ONE CELL, UNDER A 'cmp' THAT PARTS WHATEVER TWO THAT ARE NOT ONE: THE ROW HOLDS core's 'mergeSort'.** (LAID AT THE INSTANCE 'slices.SortFunc[[]int,int]': no walk: one application.) -/
theorem Try.slices_SortFunc_total {α : Type} [Inhabited α] (enc : α → Value) (h1 : OneCell enc) (cf : α → α → Int) (hO : SWO (ltOf cf)) (g : Nat) (cb : Array Value) (blk off cap : Nat) (d : Array α) (w : World) (eg : ∀ args w, (callFunc g args).run Try.prog w = .ok (.enter g args) w) (hcmp : CmpLays1 Try.prog g cb enc cf blk off d.size w) (hH : Holds enc w blk off d) (hblk : blk < w.heap.size) (hsz : d.size < 4611686018427387904) (hT : ∀ x y, (ltOf cf) x y = false → (ltOf cf) y x = false → x = y) :
    Calls Try.prog 87 #[.slice (some ⟨blk, off, none⟩) d.size cap, .func (.func g) #[] cb] w fun e w' =>
      e = .returned (.tuple #[]) ∧ ∃ n os, w' = sortWorld enc w blk off n (d.toList.mergeSort fun x y => !(ltOf cf) y x).toArray os := Any.slices_SortFunc_total Try.laysSlF6_f87 enc h1 cf hO g cb blk off cap d w eg hcmp hH hblk hsz hT
end Go.Proofs

/- place.order: the nodes in their order; cmp.Or, the closure, slices.SortFunc by the shelf. -/
namespace Go.Proofs.Ytigkcbnlbdiimaa
open Go.RowKit Go.Maps Go.Sort
def orI (p q : Int) : Int := if p = 0 then q else p
set_option maxRecDepth 100000 in
set_option maxHeartbeats 1000000 in
theorem or2_any (b : Nat) (p q : Int) (w : World) (h0 : w.cell? ⟨b, 0, none⟩ = some (.int .i64 p)) (h1 : w.cell? ⟨b, 1, none⟩ = some (.int .i64 q)) :
    Calls Try.prog 89 #[.slice (some ⟨b, 0, none⟩) 2 2] w fun e w' => e = .returned (.int .i64 (orI p q)) ∧ w = w' := by
  by_cases hp : p = 0
  · have hp' : (p != 0) = false := by simpa using hp
    by_cases hq : q = 0
    · have hq' : (q != 0) = false := by simpa using hq
      have HR := Lib.hid (show orI p q = 0 by rw [orI, if_pos hp, hq])
      clear hp hq
      go_enter Try.func89, Try.ntmps89
      go_wp2
      refine wp_loop_rounds 3 ?_
      rw [rounds_succ]
      go_wp2
      rw [rounds_succ]
      go_wp2
      rw [rounds_succ]
      go_wp2
      go_ret
      exact ⟨by rw [HR.out]; rfl, rfl⟩
    · have hq' : (q != 0) = true := by simpa using hq
      have HR := Lib.hid (show orI p q = q by rw [orI, if_pos hp])
      clear hp hq
      go_enter Try.func89, Try.ntmps89
      go_wp2
      refine wp_loop_rounds 3 ?_
      rw [rounds_succ]
      go_wp2
      rw [rounds_succ]
      go_wp2
      go_ret
      exact ⟨by rw [HR.out]; rfl, rfl⟩
  · have hp' : (p != 0) = true := by simpa using hp
    have HR := Lib.hid (show orI p q = p by rw [orI, if_neg hp])
    clear hp
    go_enter Try.func89, Try.ntmps89
    go_wp2
    refine wp_loop_rounds 3 ?_
    rw [rounds_succ]
    go_wp2
    go_ret
    exact ⟨by rw [HR.out]; rfl, rfl⟩
/-- A node as a number below 256. -/
def encN (i : Fin 256) : Value := .int .i64 (i.val : Int)
def cfP (f : Int → Int) (x y : Fin 256) : Int := orI (Lib.compareInt (f x.val) (f y.val)) (Lib.compareInt (x.val : Int) (y.val : Int))
def ltP (f : Int → Int) (a b : Int) : Bool := decide (f a < f b) || (f a == f b && decide (a < b))
theorem ltOf_cfP (f : Int → Int) (x y : Fin 256) : ltOf (cfP f) x y = ltP f x.val y.val := by
  unfold ltOf cfP orI ltP Lib.compareInt
  by_cases h1 : f x.val < f y.val
  · simp [h1]
  · by_cases h2 : f y.val < f x.val
    · have h3 : f x.val ≠ f y.val := by omega
      simp [h1, h2, h3]
    · have h3 : f x.val = f y.val := by omega
      by_cases h4 : x.val < y.val
      · simp [h3, h4]
      · by_cases h5 : y.val < x.val <;> simp [h3, h4, h5]
theorem swoP (f : Int → Int) : SWO (ltOf (cfP f)) where
  irrefl x := by rw [ltOf_cfP]; simp [ltP]
  trans x y z h1 h2 := by rw [ltOf_cfP] at *; simp [ltP] at *; omega
  ntrans x y z h1 h2 := by rw [ltOf_cfP] at *; simp [ltP] at *; omega
theorem totP (f : Int → Int) (x y : Fin 256) (h1 : ltOf (cfP f) x y = false) (h2 : ltOf (cfP f) y x = false) : x = y := by
  rw [ltOf_cfP] at *
  simp [ltP] at *
  apply Fin.ext
  omega
theorem MapIs.of_block {w w' : World} {b n : Nat} {f : Int → Int} (h : MapIs w b n f) (hb : w'.heap[b]? = w.heap[b]?) : MapIs w' b n f := by
  obtain ⟨D, ⟨es, clock, h1, h2⟩, h3⟩ := h
  exact ⟨D, ⟨es, clock, hb.trans h1, h2⟩, h3⟩
theorem sortWorld_block {α : Type} [Inhabited α] (enc : α → Value) (w : World) (blk off m k : Nat) (dk : Array α) (os : Array Obj) (hk : k < w.heap.size) (hne : k ≠ blk) : (Go.Proofs.sortWorld enc w blk off m dk os).heap[k]? = w.heap[k]? := by
  show ((w.heap.modify blk _) ++ os)[k]? = _
  rw [Array.getElem?_append_left (by simpa using hk), Array.getElem?_modify]
  simp [Ne.symm hne]
set_option maxRecDepth 100000 in
set_option maxHeartbeats 2000000 in
theorem cmp_any (f : Int → Int) (mb n bx : Nat) (x y : Fin 256) (w : World) (hm : MapIs w mb n f) (hb : w.cell? ⟨bx, 0, none⟩ = some (.map (some mb))) :
    Calls Try.prog 88 #[.int .i64 (x.val : Int), .int .i64 (y.val : Int), .pointer (some ⟨bx, 0, none⟩)] w
      fun e w' => e = .returned (.int .i64 (cfP f x y)) ∧ ∃ o, w' = w.alloc o := by
  have HM := Lib.hid hm
  clear hm
  have W0 := Lib.hid (wf_i64 (n := (x.val : Int)) (by have := x.isLt; omega) (by have := x.isLt; omega))
  have W1 := Lib.hid (wf_i64 (n := (y.val : Int)) (by have := y.isLt; omega) (by have := y.isLt; omega))
  have hx0 : (0 : Int) ≤ (x.val : Int) := by omega
  have HC := Lib.hid (show cfP f x y = orI (Lib.compareInt (f x.val) (f y.val)) (Lib.compareInt (x.val : Int) (y.val : Int)) from rfl)
  obtain ⟨xv, hxv⟩ : ∃ xv : Int, xv = (x.val : Int) := ⟨_, rfl⟩
  obtain ⟨yv, hyv⟩ : ∃ yv : Int, yv = (y.val : Int) := ⟨_, rfl⟩
  rw [← hxv] at W0 HC ⊢
  rw [← hyv] at W1 HC ⊢
  clear hxv hyv hx0
  go_enter Try.func88, Try.ntmps88
  go_wp2_with (first
    | (at_lookup; refine wpList_look _ rfl (.tmp 6) _ rfl mb n f rfl HM.out xv rfl W0.out ?_)
    | (at_lookup; refine wpList_look _ rfl (.tmp 9) _ rfl mb n f rfl HM.out yv rfl W1.out ?_)
    | (go_at_call 90; refine (Try.cmp_Compare_int _ _ _).mono ?_; rintro e w' ⟨rfl, rfl⟩)
    | (go_at_call 89; refine (or2_any _ (Lib.compareInt (f xv) (f yv)) (Lib.compareInt xv yv) _ (by go_simp) (by go_simp)).mono ?_; rintro e w'' ⟨rfl, rfl⟩))
  go_ret
  exact ⟨by rw [HC.out]; rfl, _, rfl⟩
theorem cmpLays (f : Int → Int) (mb n bx blk off size : Nat) (w : World) (hm : MapIs w mb n f) (hb : w.cell? ⟨bx, 0, none⟩ = some (.map (some mb))) (h1 : mb ≠ blk) (h2 : bx ≠ blk) (hbx : bx < w.heap.size) :
    CmpLays1 Try.prog 88 #[.pointer (some ⟨bx, 0, none⟩)] encN (cfP f) blk off size w := by
  intro m os dk hdk x y
  refine (cmp_any f mb n bx x y _ (hm.of_block (sortWorld_block _ w blk off m mb dk os hm.lt h1)) ?_).mono ?_
  · rw [World.cell?_of_block (a := ⟨bx, 0, none⟩) (sortWorld_block _ w blk off m bx dk os hbx h2)]
    exact hb
  · rintro e w' ⟨he, o, rfl⟩
    exact ⟨he, 0, #[o], by rw [alloc_eq_grow]; rfl⟩
end Go.Proofs.Ytigkcbnlbdiimaa
