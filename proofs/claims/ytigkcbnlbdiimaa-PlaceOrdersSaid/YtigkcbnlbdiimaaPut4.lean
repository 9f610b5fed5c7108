/- Package pack: Put at each size. (Written by wip/genput.py.) -/
import Derived.Test.YtigkcbnlbdiimaaPack2
namespace Go.Proofs.Ytigkcbnlbdiimaa
open Go.RowKit Go.Shelf
attribute [local go_sem] Oper.semAt_some
theorem byte_info : (Try.prog.info? 5).map (fun i => (i.zero, i.size, i.bytes)) = some (some (.int .u8 0), 1, 1) := by kernel_rfl
set_option maxRecDepth 100000 in
set_option maxHeartbeats 8000000 in
theorem put_4 (v : Value) (bs : List UInt8) (n : Nat) (w : World) (h : Reads w 1 v bs.length (bs.map bv)) (hlen : bs.length ≤ 70368744177664) (hn : n < 18446744073709551616) (hfit : n < 256 ^ 4) :
    Calls Try.prog 60 #[v, .int .u64 n, .int .i64 4] w fun e w' => ∃ v', e = .returned (.tuple #[v', .nilIface]) ∧ w'.ownsRow w.heap.size 5 1 v' (bs ++ (List.range 4).map (nthByte n)).length ((bs ++ (List.range 4).map (nthByte n)).map bv) ∧ Below w.heap.size w w' := by
  have hfit' : decide (n < 256 ^ 4) = true := by simpa using hfit
  have HF := Lib.hid hfit'
  have HR := Lib.hid h
  clear hfit' hfit h
  obtain ⟨i0, hi, hz0, hz1, hz2⟩ := info_parts byte_info
  have HI := Lib.hid hi
  have HZ0 := Lib.hid hz0
  have HZ1 := Lib.hid hz1
  have HZ2 := Lib.hid hz2
  clear hi hz0 hz1 hz2
  refine (callsIn_wide (n := 4)).1 ?_
  refine callsIn_of_wp_marks Try.func60 rfl trivial ?_ rfl
  simp only [Try.ntmps60, List.size_toArray, List.length_cons, List.length_nil, Nat.reduceAdd, Nat.reduceSub, Array.replicate_succ, Array.replicate_zero, List.push_toArray, List.append_toArray, List.nil_append, List.cons_append]
  refine wpIn_wide.2 ?_
  go_wp2_with fail
  refine (sized_any 4 _).mono ?_
  rintro e w1 ⟨rfl, rfl⟩
  go_wp2_with fail
  refine (fits_any n 4 hn (by omega) _).mono ?_
  rintro e w1 ⟨rfl, rfl⟩
  rw [HF.out]
  go_wp2_with fail
  refine (clone_Byte v bs.length (bs.map bv) _ (HR.out.below (by repeat (first | (with_reducible exact Below.refl _ _) | (with_reducible refine Below.setCell ?_ ?_ _) | (with_reducible refine Below.alloc ?_ ?_ _) | (with_reducible refine Below.drewN ?_ _) | (with_reducible refine Below.drew ?_) | (with_reducible exact Nat.le_refl _) | (focus (simp only [World.size_alloc, World.size_setCell, World.size_drew, World.size_drewN]; omega)) | omega | exact Nat.le_refl _ | (focus (simp; done)) | (focus (simp; omega))))) (bv_one bs) (by omega)).mono ?_
  rintro e w1 ⟨v1, rfl, ho1, _, hb1⟩
  have hz1 := hb1.size
  simp only [World.size_alloc] at hz1
  have kn : w1.cell? ⟨w.heap.size, 0, none⟩ = some (.int .u64 n) := by rw [hb1.cell (by simp)]; simp
  have kb : w1.heap[w.heap.size]? = some (.cells #[.int .u64 n] 114 (0, 0)) := (hb1.block _ (by simp)).trans (heap_alloc_new _ _)
  have hz1' : w.heap.size < w1.heap.size := by omega
  have HB1 := Lib.hid (Below.trans (B := w.heap.size) (a := w) (by repeat (first | (with_reducible exact Below.refl _ _) | (with_reducible refine Below.setCell ?_ ?_ _) | (with_reducible refine Below.alloc ?_ ?_ _) | (with_reducible refine Below.drewN ?_ _) | (with_reducible refine Below.drew ?_) | (with_reducible exact Nat.le_refl _) | (focus (simp only [World.size_alloc, World.size_setCell, World.size_drew, World.size_drewN]; omega)) | omega | exact Nat.le_refl _ | (focus (simp; done)) | (focus (simp; omega)))) (hb1.mono (by simp)))
  simp only [World.size_alloc] at ho1
  obtain ⟨a1, c1, rfl⟩ := ownsRow_len ho1
  have KB := Lib.hid kb
  have HO1 := Lib.hid ho1
  clear ho1 hb1 hz1 kb
  go_wp2_with fail
  refine Calls.mono (part_any n 0 (by omega) w.heap.size _ hn ?_) ?_
  focus (go_simp)
  rintro e w2 ⟨rfl, rfl⟩
  go_wp2_with fail
  have hst := PutSt.start w w1 n a1 bs.length c1 bs rfl (nthByte n 0) HB1.out KB.out HO1.out hz1'
  obtain ⟨W0, hW⟩ : ∃ W0, (((w1.alloc (.cells #[.slice a1 bs.length c1] 44)).alloc (.cells #[.int .u8 ((nthByte n 0).toNat : Int)] 5)).alloc (.cells #[.slice (some ⟨w1.heap.size + 1, 0, none⟩) 1 1] 44)) = W0 := ⟨_, rfl⟩
  rw [hW] at hst ⊢
  clear hW kn hz1' HO1 KB HB1
  generalize w1.heap.size + 1 + 1 = Br at *
  generalize w1.heap.size + 1 = Bq0 at *
  generalize w1.heap.size = Bo at *
  have HST := Lib.hid hst
  clear hst
  obtain ⟨kn, ko, kr, fo, fr⟩ := HST.out.cells
  obtain ⟨ln, lo, lr⟩ := HST.out.lt
  have hlow := HST.out.bel.size
  obtain ⟨SS, HSD⟩ : ∃ SS : World → Prop, Hid (SS = fun w' => w'.cell? ⟨Br, 0, none⟩ = some (.slice (some ⟨Bq0, 0, none⟩) 1 1)) := ⟨_, Lib.hid rfl⟩
  refine wp_region_order0 SS [0] [(0, 2), (1, 0), (3, 0), (2, 1), (4, 1), (5, 1), (6, 1), (7, 1)] (by kernel_rfl) (by kernel_rfl) rfl (by kernel_rfl) ?_ ?_
  focus (rw [HSD.out]; exact kr)
  refine stepE2 rfl rfl ?_ (fun w1 hS => ?_) (fun K hK => ?_)
  rotate_left
  focus (rw [HSD.out] at hS; have s0 : w1.cell? _ = some _ := hS; go_simp; rfl)
  go_simp
  refine hK _ ?_
  clear hK K
  refine stepE0 rfl rfl (fun K hK => ?_)
  go_simp
  refine hK _ ?_
  clear hK K
  refine stepE0 rfl rfl (fun K hK => ?_)
  go_simp
  refine hK _ ?_
  clear hK K
  refine stepE1S rfl rfl (fun K hK => ?_)
  (go_wp2_with fail; refine Calls.mono (part_any n 3 (by omega) w.heap.size _ hn ?_) ?_; (focus (exact kn)); rintro e w2 ⟨rfl, rfl⟩; go_wp2)
  refine ⟨by rw [HSD.out]; exact (by show World.cell? _ _ = some _; go_simp), ?_⟩
  refine stepE1S rfl rfl (fun K hK => ?_)
  (go_wp2_with fail; refine Calls.mono (part_any n 2 (by omega) w.heap.size _ hn ?_) ?_; (focus (exact kn)); rintro e w2 ⟨rfl, rfl⟩; go_wp2)
  refine ⟨by rw [HSD.out]; exact (by show World.cell? _ _ = some _; go_simp), ?_⟩
  refine stepE1S rfl rfl (fun K hK => ?_)
  go_wp2
  refine ⟨by rw [HSD.out]; exact (by show World.cell? _ _ = some _; go_simp), ?_⟩
  refine stepE1 rfl rfl (by kernel_rfl) (fun K hK => ?_)
  (refine wp_append_lies _ _ _ 44 rfl w.heap.size 5 i0 (.int .u8 0) 1 1 Try.underlying44 HI.out HZ0.out HZ1.out HZ2.out rfl (by decide) (.slice (some ⟨Bq0, 0, none⟩) 1 1) 1 ([nthByte n 0].map bv) rfl ((HST.out.rr.alloc _).drew) ⟨W0.heap.size, 0, none⟩ 2 2 [.int .u8 ((nthByte n 3).toNat : Int), .int .u8 ((nthByte n 2).toNat : Int)] rfl rfl (World.news_of_block (heap_alloc_new W0 _)) (by simp [Value.oneCell']) (by omega) (by unfold maxLen; omega) (by omega) (by simp; omega) _ rfl ?_; intro g cp w2 hown2 hgrow hat hlt2; have HP := Lib.hid (PutSt.onRest (ns := [nthByte n 3, nthByte n 2]) (HST.out.drew.keep ((Below.refl _ _).alloc (Nat.le_refl _) _)) hgrow hown2 rfl (by simpa using hat)); have hkb := World.cell?_of_block (a := ⟨Br, 0, none⟩) (hgrow.block Br (by simp; omega) (fun e => HST.out.nr.2.2 e.symm)); have hkf := World.frozen?_of_block (a := ⟨Br, 0, none⟩) (hgrow.block Br (by simp; omega) (fun e => HST.out.nr.2.2 e.symm)); clear hgrow hown2 hat; go_wp2)
  refine stepE1 rfl rfl (by kernel_rfl) (fun K hK => ?_)
  go_wp2
  try refine stepEnil0 ?_
  clear HSD SS
  have hst : PutSt w (w2.setCell ⟨Br, 0, none⟩ (.slice (some ⟨g, 0, none⟩) 3 cp)) w.heap.size Bo Br n (.slice a1 bs.length c1) bs (.slice (some ⟨g, 0, none⟩) 3 cp) [nthByte n 0, nthByte n 3, nthByte n 2] := HP.out
  clear HP HST kn ko kr fo fr ln lo lr hlow hkb hkf hlt2
  generalize w2.setCell ⟨Br, 0, none⟩ (.slice (some ⟨g, 0, none⟩) 3 cp) = W1 at *
  clear w2
  generalize g = Bq1 at *
  generalize cp = cq1 at *
  go_wp2_with fail
  have HST := Lib.hid hst
  clear hst
  obtain ⟨kn, ko, kr, fo, fr⟩ := HST.out.cells
  obtain ⟨ln, lo, lr⟩ := HST.out.lt
  have hlow := HST.out.bel.size
  obtain ⟨SS, HSD⟩ : ∃ SS : World → Prop, Hid (SS = fun w' => w'.cell? ⟨Br, 0, none⟩ = some (.slice (some ⟨Bq1, 0, none⟩) 3 cq1)) := ⟨_, Lib.hid rfl⟩
  refine wp_region_order0 SS [0] [(0, 2), (1, 0), (2, 1), (3, 1), (4, 1), (5, 1)] (by kernel_rfl) (by kernel_rfl) rfl (by kernel_rfl) ?_ ?_
  focus (rw [HSD.out]; exact kr)
  refine stepE2 rfl rfl ?_ (fun w1 hS => ?_) (fun K hK => ?_)
  rotate_left
  focus (rw [HSD.out] at hS; have s0 : w1.cell? _ = some _ := hS; go_simp; rfl)
  go_simp
  refine hK _ ?_
  clear hK K
  refine stepE0 rfl rfl (fun K hK => ?_)
  go_simp
  refine hK _ ?_
  clear hK K
  refine stepE1S rfl rfl (fun K hK => ?_)
  (go_wp2_with fail; refine Calls.mono (part_any n 1 (by omega) w.heap.size _ hn ?_) ?_; (focus (exact kn)); rintro e w2 ⟨rfl, rfl⟩; go_wp2)
  refine ⟨by rw [HSD.out]; exact (by show World.cell? _ _ = some _; go_simp), ?_⟩
  refine stepE1S rfl rfl (fun K hK => ?_)
  go_wp2
  refine ⟨by rw [HSD.out]; exact (by show World.cell? _ _ = some _; go_simp), ?_⟩
  refine stepE1 rfl rfl (by kernel_rfl) (fun K hK => ?_)
  (refine wp_append_lies _ _ _ 44 rfl w.heap.size 5 i0 (.int .u8 0) 1 1 Try.underlying44 HI.out HZ0.out HZ1.out HZ2.out rfl (by decide) (.slice (some ⟨Bq1, 0, none⟩) 3 cq1) 3 ([nthByte n 0, nthByte n 3, nthByte n 2].map bv) rfl ((HST.out.rr.alloc _).drew) ⟨W1.heap.size, 0, none⟩ 1 1 [.int .u8 ((nthByte n 1).toNat : Int)] rfl rfl (World.news_of_block (heap_alloc_new W1 _)) (by simp [Value.oneCell']) (by omega) (by unfold maxLen; omega) (by omega) (by simp; omega) _ rfl ?_; intro g cp w2 hown2 hgrow hat hlt2; have HP := Lib.hid (PutSt.onRest (ns := [nthByte n 1]) (HST.out.drew.keep ((Below.refl _ _).alloc (Nat.le_refl _) _)) hgrow hown2 rfl (by simpa using hat)); have hkb := World.cell?_of_block (a := ⟨Br, 0, none⟩) (hgrow.block Br (by simp; omega) (fun e => HST.out.nr.2.2 e.symm)); have hkf := World.frozen?_of_block (a := ⟨Br, 0, none⟩) (hgrow.block Br (by simp; omega) (fun e => HST.out.nr.2.2 e.symm)); clear hgrow hown2 hat; go_wp2)
  refine stepE1 rfl rfl (by kernel_rfl) (fun K hK => ?_)
  go_wp2
  try refine stepEnil0 ?_
  clear HSD SS
  have hst : PutSt w (w2.setCell ⟨Br, 0, none⟩ (.slice (some ⟨g, 0, none⟩) 4 cp)) w.heap.size Bo Br n (.slice a1 bs.length c1) bs (.slice (some ⟨g, 0, none⟩) 4 cp) [nthByte n 0, nthByte n 3, nthByte n 2, nthByte n 1] := HP.out
  clear HP HST kn ko kr fo fr ln lo lr hlow hkb hkf hlt2
  generalize w2.setCell ⟨Br, 0, none⟩ (.slice (some ⟨g, 0, none⟩) 4 cp) = W2 at *
  clear w2
  generalize g = Bq2 at *
  generalize cp = cq2 at *
  go_wp2_with fail
  have HST := Lib.hid hst
  clear hst
  obtain ⟨kn, ko, kr, fo, fr⟩ := HST.out.cells
  obtain ⟨ln, lo, lr⟩ := HST.out.lt
  have hlow := HST.out.bel.size
  have kq : W2.cell? ⟨Bq2, 0, none⟩ = some (.int .u8 ((nthByte n 0).toNat : Int)) := HST.out.rr.cellAt 0 (by decide)
  have lq := (HST.out.rr.lt _ rfl).2
  obtain ⟨hq1, hq2⟩ := owns_cap HST.out.rr
  change 4 ≤ cq2 at hq1
  obtain ⟨SS, HSD⟩ : ∃ SS : World → Prop, Hid (SS = fun w' => w'.cell? ⟨Bo, 0, none⟩ = some (.slice a1 bs.length c1) ∧ w'.cell? ⟨Br, 0, none⟩ = some (.slice (some ⟨Bq2, 0, none⟩) 4 cq2) ∧ w'.cell? ⟨Bq2, 0, none⟩ = some (.int .u8 ((nthByte n 0).toNat : Int))) := ⟨_, Lib.hid rfl⟩
  refine wp_region_order0 SS [0, 1, 3] [(0, 2), (1, 2), (2, 0), (3, 2), (4, 1), (5, 1), (6, 1)] (by kernel_rfl) (by kernel_rfl) rfl (by kernel_rfl) ?_ ?_
  focus (rw [HSD.out]; exact ⟨ko, kr, kq⟩)
  refine stepE2 rfl rfl ?_ (fun w1 hS => ?_) (fun K hK => ?_)
  rotate_left
  focus (rw [HSD.out] at hS; obtain ⟨s0, s1, s2⟩ := hS; go_simp; rfl)
  go_simp
  refine hK _ ?_
  clear hK K
  refine stepE2 rfl rfl ?_ (fun w1 hS => ?_) (fun K hK => ?_)
  rotate_left
  focus (rw [HSD.out] at hS; obtain ⟨s0, s1, s2⟩ := hS; go_simp; rfl)
  go_simp
  refine hK _ ?_
  clear hK K
  refine stepE0 rfl rfl (fun K hK => ?_)
  go_simp
  refine hK _ ?_
  clear hK K
  refine stepE2 rfl rfl ?_ (fun w1 hS => ?_) (fun K hK => ?_)
  rotate_left
  focus (rw [HSD.out] at hS; obtain ⟨s0, s1, s2⟩ := hS; go_simp; rfl)
  go_simp
  refine hK _ ?_
  clear hK K
  refine stepE1S rfl rfl (fun K hK => ?_)
  go_wp2
  refine ⟨by rw [HSD.out]; exact (by refine ⟨?_, ?_, ?_⟩ <;> go_simp), ?_⟩
  refine stepE1 rfl rfl (by kernel_rfl) (fun K hK => ?_)
  (refine wp_append_lies _ _ _ 44 rfl w.heap.size 5 i0 (.int .u8 0) 1 1 Try.underlying44 HI.out HZ0.out HZ1.out HZ2.out rfl (by decide) (.slice a1 bs.length c1) bs.length (bs.map bv) rfl ((HST.out.ro.alloc _).drew) ⟨W2.heap.size, 0, none⟩ 1 1 [.int .u8 ((nthByte n 0).toNat : Int)] rfl rfl (World.news_of_block (heap_alloc_new W2 _)) (by simp [Value.oneCell']) (by omega) (by unfold maxLen; omega) (by omega) (by simp; omega) _ rfl ?_; intro g cp w2 hown2 hgrow hat hlt2; have HP := Lib.hid (PutSt.onOut (ns := [nthByte n 0]) (HST.out.drew.keep ((Below.refl _ _).alloc (Nat.le_refl _) _)) hgrow (by rw [List.map_append]; exact hown2) (by simp) (by simpa using hat)); have hkb := World.cell?_of_block (a := ⟨Bo, 0, none⟩) (hgrow.block Bo (by simp; omega) (fun e => HST.out.no.2.1 e.symm)); have hkf := World.frozen?_of_block (a := ⟨Bo, 0, none⟩) (hgrow.block Bo (by simp; omega) (fun e => HST.out.no.2.1 e.symm)); clear hgrow hown2 hat; go_wp2)
  refine stepE1 rfl rfl (by kernel_rfl) (fun K hK => ?_)
  go_wp2
  try refine stepEnil0 ?_
  clear HSD SS
  have hst : PutSt w (w2.setCell ⟨Bo, 0, none⟩ (.slice (some ⟨g, 0, none⟩) (bs.length + 1) cp)) w.heap.size Bo Br n (.slice (some ⟨g, 0, none⟩) (bs.length + 1) cp) (bs ++ [nthByte n 0]) (.slice (some ⟨Bq2, 0, none⟩) 4 cq2) [nthByte n 0, nthByte n 3, nthByte n 2, nthByte n 1] := HP.out
  clear HP HST kn ko kr fo fr ln lo lr hlow hkb hkf hlt2 kq lq
  generalize w2.setCell ⟨Bo, 0, none⟩ (.slice (some ⟨g, 0, none⟩) (bs.length + 1) cp) = W at *
  clear w2
  generalize g = Bp at *
  generalize cp = cq at *
  have HST := Lib.hid hst
  clear hst
  obtain ⟨kn, ko, kr, fo, fr⟩ := HST.out.cells
  obtain ⟨ln, lo, lr⟩ := HST.out.lt
  have hlow := HST.out.bel.size
  go_wp2_with fail
  refine (back_any _ _ _ _).mono ?_
  rintro e w2 ⟨rfl, rfl⟩
  go_wp2_with fail
  have lq : Bq2 < W.heap.size := (HST.out.rr.lt _ rfl).2
  have hBq := Lib.hid (show ∀ i x, [nthByte n 0, nthByte n 3, nthByte n 2, nthByte n 1][i]? = some x → W.cell? ⟨Bq2, i, none⟩ = some (.int .u8 (x.toNat : Int)) from fun i x hx => by
    have h1 := HST.out.rr.cellAt i (by have := (List.getElem?_eq_some_iff.1 hx).1; simp at this ⊢; omega)
    rw [h1, List.getElem?_map, hx]; rfl)
  refine (wpIn_wide (n := 4)).1 ?_
  refine wpIn_rangeFunc_one (α := Fin [nthByte n 3, nthByte n 2, nthByte n 1].length) rfl (by omega) (gf := 92) (lb := #[.pointer (some ⟨W.heap.size, 0, none⟩)]) rfl trivial (enters_of Try.func92 (by kernel_rfl) rfl)
    (back_stops Fence.wide 3 trivial rfl (by omega) W.heap.size Bq2 1 (cq2 - 1) [nthByte n 3, nthByte n 2, nthByte n 1] (by simp [maxLen]) _ (by simp) (by simp; omega) (by simp) (fun j hj => cell_later ((Below.refl _ _).alloc (Nat.le_refl _) _) (hBq.out (1 + j) _ (by rw [Nat.add_comm]; exact List.getElem?_eq_getElem hj))))
    (fun h k => h.trans k) (kept_put (by simp; omega) (by simp)) (Below.refl _ _) (fun _ => rfl)
    (fun pre W' => ∃ vo, PutSt w W' w.heap.size Bo Br n vo ((bs ++ [nthByte n 0]) ++ pre.map (fun (i : Fin [nthByte n 3, nthByte n 2, nthByte n 1].length) => [nthByte n 3, nthByte n 2, nthByte n 1][i.val])) (.slice (some ⟨Bq2, 0, none⟩) 4 cq2) [nthByte n 0, nthByte n 3, nthByte n 2, nthByte n 1] ∧ vo.ownBlock ≠ some W.heap.size ∧ W.heap.size < W'.heap.size)
    (fun _ _ _ => False) ?own (fun _ _ _ _ _ hs _ _ => hs) ⟨_, by simpa using HST.out.keep ((Below.refl _ _).alloc (Nat.le_refl _) _), fun e => by have := (HST.out.ro.lt _ e).2; omega, by simp⟩
    ?body ?done ?stop
  case own =>
    rintro s A B row ⟨vo, hs, hv, hz⟩ hg hr
    exact ⟨vo, hs.grown hg (by have := HST.out.bel.size; simp; omega) hr, hv, by have := hg.size; omega⟩
  case stop =>
    rintro D c pre A _ _ h _
    exact h.elim
  case done =>
    rintro D ys A hD rfl ⟨vo, hs, _, _⟩ hK
    obtain ⟨ao, mo, co, rfl, HM⟩ := owns_len hs.ro
    have HS := Lib.hid hs
    have HK := Lib.hid hK
    clear hs hK
    obtain ⟨sn, so, sr, sfo, sfr⟩ := HS.out.cells
    go_wp2
    refine ⟨by simp, .inl ⟨_, _, rfl, run_takeDeferred HK.out, ?_⟩⟩
    have hfin : (bs ++ [nthByte n 0]) ++ (backL [nthByte n 3, nthByte n 2, nthByte n 1].length 0).map (fun (i : Fin [nthByte n 3, nthByte n 2, nthByte n 1].length) => [nthByte n 3, nthByte n 2, nthByte n 1][i.val]) = bs ++ (List.range 4).map (nthByte n) := by
      rw [List.append_assoc]
      rfl
    have hr := HS.out.ro
    rw [hfin] at hr
    have hm := HM.out
    rw [hfin] at hm
    subst hm
    exact ⟨_, results_tmp2 rfl _ _ _, _, rfl, ownsRow_putObj hr _ HK.out rfl, HS.out.bel.trans (belowK_b (w := w) (Nat.le_refl _) A D _ _ (by have := HST.out.bel.size; simp at hD; omega) HK.out rfl rfl)⟩
  case body =>
    rintro l pre x A ⟨vo, hs, hvb, hza⟩ hlen2
    obtain ⟨ao, mo, co, rfl, HM⟩ := owns_len hs.ro
    have HS := Lib.hid hs
    clear hs
    obtain ⟨sn, so, sr, sfo, sfr⟩ := HS.out.cells
    obtain ⟨ln2, lo2, lr2⟩ := HS.out.lt
    have hlow2 := HS.out.bel.size
    obtain ⟨xi, hxi⟩ := x
    have hxi' : xi < 3 := hxi
    obtain ⟨y, hy⟩ : ∃ y, [nthByte n 3, nthByte n 2, nthByte n 1][xi]'hxi = y := ⟨_, rfl⟩
    have HY := Lib.hid hy
    have hq : A.cell? ⟨Bq2, xi + 1, none⟩ = some (.int .u8 (y.toNat : Int)) := by
      have h1 := HS.out.rr.cellAt (xi + 1) (by simp; omega)
      rw [h1, List.getElem?_map, List.getElem?_cons_succ, List.getElem?_eq_getElem hxi, hy]; rfl
    have lq2 : Bq2 < A.heap.size := (HS.out.rr.lt _ rfl).2
    have hmo : mo ≤ 80368744177664 := by
      have h1 := HM.out
      have h2 : pre.length < 3 := hlen2
      simp at h1
      omega
    simp only [assignAct, backEnc, hy]
    clear hy
    have hw1 : IntKind.i64.wrap ((xi : Int) + 1) = (xi : Int) + 1 := IntWalk.i64_in _ (by omega)
    have hw2 : (0 : Int) ≤ (xi : Int) + 1 := by omega
    have hw3 : (xi : Int) + 1 < 4 := by omega
    have hw4 : ((xi : Int) + 1).toNat = xi + 1 := by omega
    gi_wp2
    obtain ⟨SS, HSD⟩ : ∃ SS : World → Prop, Hid (SS = fun w' => w'.cell? ⟨Bo, 0, none⟩ = some (.slice ao mo co) ∧ w'.cell? ⟨Br, 0, none⟩ = some (.slice (some ⟨Bq2, 0, none⟩) 4 cq2) ∧ w'.cell? ⟨Bq2, xi + 1, none⟩ = some (.int .u8 (y.toNat : Int))) := ⟨_, Lib.hid rfl⟩
    refine wpIn_region_order0 SS [0, 1, 5] [(0, 2), (1, 2), (2, 0), (3, 0), (4, 0), (5, 2), (6, 1), (7, 1), (8, 1)] (by kernel_rfl) (by kernel_rfl) (by kernel_rfl) rfl (by kernel_rfl) ?_ ?_
    focus (rw [HSD.out]; exact ⟨so, sr, hq⟩)
    refine stepI2 rfl rfl (fun _ => rfl) ?_ (fun w1 hS => ?_) (fun K hK => ?_)
    rotate_left
    focus (rw [HSD.out] at hS; obtain ⟨s0, s1, s2⟩ := hS; go_simp; rfl)
    go_simp
    refine hK _ ?_
    clear hK K
    refine stepI2 rfl rfl (fun _ => rfl) ?_ (fun w1 hS => ?_) (fun K hK => ?_)
    rotate_left
    focus (rw [HSD.out] at hS; obtain ⟨s0, s1, s2⟩ := hS; go_simp; rfl)
    go_simp
    refine hK _ ?_
    clear hK K
    refine stepI0 rfl rfl (fun _ => rfl) (fun K hK => ?_)
    go_simp
    refine hK _ ?_
    clear hK K
    refine stepI0 rfl rfl (fun _ => rfl) (fun K hK => ?_)
    go_simp
    refine hK _ ?_
    clear hK K
    refine stepI0 rfl rfl (fun _ => rfl) (fun K hK => ?_)
    go_simp
    refine hK _ ?_
    clear hK K
    refine stepI2 rfl rfl (fun _ => rfl) ?_ (fun w1 hS => ?_) (fun K hK => ?_)
    rotate_left
    focus (rw [HSD.out] at hS; obtain ⟨s0, s1, s2⟩ := hS; go_simp; rfl)
    go_simp
    refine hK _ ?_
    clear hK K
    refine stepI1S rfl rfl (fun K hK => ?_)
    gi_wp2
    refine ⟨by rw [HSD.out]; exact (by refine ⟨?_, ?_, ?_⟩ <;> go_simp), ?_⟩
    refine stepI1 rfl rfl (by kernel_rfl) (fun K hK => ?_)
    (refine wpIn_append_lies _ _ _ 44 rfl w.heap.size 5 i0 (.int .u8 0) 1 1 Try.underlying44 HI.out HZ0.out HZ1.out HZ2.out rfl (by decide) (.slice ao mo co) mo (((bs ++ [nthByte n 0]) ++ pre.map (fun (i : Fin [nthByte n 3, nthByte n 2, nthByte n 1].length) => [nthByte n 3, nthByte n 2, nthByte n 1][i.val])).map bv) rfl (by have h1 := (HS.out.ro.alloc (.cells #[.int .u8 (y.toNat : Int)] 5)).drew; have h2 := HM.out; rw [← h2] at h1; exact h1) ⟨A.heap.size, 0, none⟩ 1 1 [.int .u8 (y.toNat : Int)] rfl rfl (World.news_of_block (heap_alloc_new A _)) (by simp [Value.oneCell']) (by omega) (by unfold maxLen; omega) (by omega) (by simp; omega) _ rfl ?_; intro g cp w2 hown2 hgrow hat hlt2; have HP := Lib.hid (PutSt.onOut (ns := [y]) (HS.out.drew.keep ((Below.refl _ _).alloc (Nat.le_refl _) _)) hgrow (by rw [List.map_append]; exact hown2) (by have := HM.out; simp at this ⊢; omega) (by simpa using hat)); have hkb := World.cell?_of_block (a := ⟨Bo, 0, none⟩) (hgrow.block Bo (by simp; omega) (fun e => HS.out.no.2.1 e.symm)); have hkf := World.frozen?_of_block (a := ⟨Bo, 0, none⟩) (hgrow.block Bo (by simp; omega) (fun e => HS.out.no.2.1 e.symm)); have HG := Lib.hid hgrow; have hat' : (Value.slice ao mo co).ownBlock = some g ∨ g = A.heap.size + 1 := (by simpa using hat); have hat2 := Lib.hid hat'; clear hgrow hown2 hat hat'; gi_wp2)
    refine stepI1 rfl rfl (by kernel_rfl) (fun K hK => ?_)
    gi_wp2
    try refine stepInil0 ?_
    clear HSD SS
    have hca : ∀ (j : Nat) (o : Obj), (Value.slice ao mo co).ownBlock = some j → A.heap[j]? = some o → o.isCells = true := fun j o hj ho => by
      obtain ⟨cs, t, f, hc⟩ := owns_cells HS.out.ro j hj
      rw [hc] at ho
      cases ho
      rfl
    have hblk : ∀ k, k < A.heap.size → k ≠ Bo → (Value.slice ao mo co).ownBlock ≠ some k → (w2.setCell ⟨Bo, 0, none⟩ (.slice (some ⟨g, 0, none⟩) (mo + 1) cp)).heap[k]? = A.heap[k]? := fun k hk hne hnb => by
      rw [heap_setCell_other _ _ _ _ hne, HG.out.block k (by simp; omega) (fun e => hnb e.symm)]
      exact Below.heap_alloc _ _ _ hk
    refine ⟨?_, ⟨hblk _ lq2 (fun e => HS.out.nr.2.1 (by rw [← e]; rfl)) (fun e => HS.out.apart _ e rfl), hblk _ hza (fun e => by have := HST.out.lt.2.1; omega) hvb⟩, .slice (some ⟨g, 0, none⟩) (mo + 1) cp, ?_, ?_, ?_⟩
    · refine KeepsOthers.from (KeepsOthers.trans (KeepsOthers.trans (KeepsOthers.trans (KeepsOthers.alloc A _) (KeepsOthers.drew _)) (KeepsOthers.of_grownBy HG.out fun j o hj ho => ?_)) (KeepsOthers.setCell _ _ _)) _
      refine hca j o hj ?_
      have hjl := (HS.out.ro.lt j hj).2
      rw [← ho]
      exact (Below.heap_alloc _ _ _ hjl).symm
    · have h1 := HP.out
      rw [List.append_assoc] at h1
      rw [List.map_append]
      simp only [List.map_cons, List.map_nil, HY.out]
      exact h1
    · intro e
      have e' : g = W.heap.size := by simpa [Value.ownBlock] using e
      rcases hat2.out with h | h
      · exact hvb (by rw [← e']; exact h)
      · omega
    · have := HG.out.size
      simp at this ⊢
      omega
end Go.Proofs.Ytigkcbnlbdiimaa
