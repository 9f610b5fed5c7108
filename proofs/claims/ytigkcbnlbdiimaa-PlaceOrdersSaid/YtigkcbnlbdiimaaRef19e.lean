/- corncribref19.Do: a new volume. (Draft: not built.) -/
import Derived.Test.YtigkcbnlbdiimaaRef19d
import Derived.Test.YtigkcbnlbdiimaaOrderT
namespace Go.Proofs.Ytigkcbnlbdiimaa
open Go.RowKit
theorem heap_last {w : World} {k : Nat} (o : Obj) (hk : w.heap.size = k) : (w.alloc o).heap[k]? = some o := by
  subst hk
  exact heap_alloc_new w o
theorem heap_prev {w : World} {k : Nat} (o o2 : Obj) (hk : w.heap.size = k) : ((w.alloc o).alloc o2).heap[k]? = some o := by
  subst hk
  exact (Below.heap_alloc _ _ _ (by simp)).trans (heap_alloc_new w o)
set_option maxRecDepth 100000 in
set_option maxHeartbeats 4000000 in
theorem ref_new (base : Nat) (v : Value) (es : List Ent) (c : Cmd) (w : World) (h : w.ownsRow base 128 6 v es.length (es.flatMap Ent.row)) (hk : c.kind = 1) (ht : threeB c.n0 c.n1 c.n2 = true) (hl : es.length < 4096) (hbase : base ≤ w.heap.size) :
    Calls Try.prog 39 #[v, .agg #[.int .i64 c.kind, .int .i64 c.vol, .int .i64 c.epoch, .int .i64 c.spot, .int .i64 c.node, .int .i64 c.n0, .int .i64 c.n1, .int .i64 c.n2]] w
      (RefOut w base (es ++ [⟨(es.length : Int) + 1, 1, c.n0, c.n1, c.n2, false⟩]) ((es.length : Int) + 1) 0) := by
  obtain ⟨i0, hi, hz0, hz1, hz2⟩ := info_parts entry19_info
  have HI := Lib.hid hi
  have HZ0 := Lib.hid hz0
  have HZ1 := Lib.hid hz1
  have HZ2 := Lib.hid hz2
  clear hi hz0 hz1 hz2
  have H := Lib.hid h
  obtain ⟨a, cap, rfl⟩ := ownsRow_len h
  clear h
  obtain ⟨k, cv, ce, cs, cn, c0, c1, c2⟩ := c
  have hk' : k = 1 := hk
  subst hk'
  clear hk
  obtain ⟨ha, hb, hc, h1, h2, h3⟩ := three_yes ht
  clear ht
  simp only at ha hb hc h1 h2 h3
  have hl' : (es.length : Int) < 4096 := by omega
  have hsum : IntKind.i64.wrap ((es.length : Int) + 1) = (es.length : Int) + 1 := IntWalk.i64_in _ (by omega)
  go_enter Try.func39, Try.ntmps39
  go_wp2_with fail
  refine wp_region_now0 [2, 5, 8] [(0, 0), (1, 0), (2, 2), (3, 0), (4, 0), (5, 2), (6, 0), (7, 0), (8, 2), (9, 0), (10, 0), (11, 0)] (by kernel_rfl) (by kernel_rfl) rfl (by kernel_rfl) ?_
  refine stepE0 rfl rfl (fun K hK => ?_)
  go_simp
  refine hK _ ?_
  clear hK K
  refine stepE0 rfl rfl (fun K hK => ?_)
  go_simp
  refine hK _ ?_
  clear hK K
  refine stepE2 rfl rfl ?_ (fun w1 hS => ?_) (fun K hK => ?_)
  rotate_left
  focus (obtain rfl : w1 = _ := hS; go_simp; rfl)
  go_simp
  refine hK _ ?_
  clear hK K
  refine stepE0 rfl rfl (fun K hK => ?_)
  go_simp
  refine hK _ ?_
  clear hK K
  refine stepE0 rfl rfl (fun K hK => ?_)
  go_simp
  refine hK _ ?_
  clear hK K
  refine stepE2 rfl rfl ?_ (fun w1 hS => ?_) (fun K hK => ?_)
  rotate_left
  focus (obtain rfl : w1 = _ := hS; go_simp; rfl)
  go_simp
  refine hK _ ?_
  clear hK K
  refine stepE0 rfl rfl (fun K hK => ?_)
  go_simp
  refine hK _ ?_
  clear hK K
  refine stepE0 rfl rfl (fun K hK => ?_)
  go_simp
  refine hK _ ?_
  clear hK K
  refine stepE2 rfl rfl ?_ (fun w1 hS => ?_) (fun K hK => ?_)
  rotate_left
  focus (obtain rfl : w1 = _ := hS; go_simp; rfl)
  go_simp
  refine hK _ ?_
  clear hK K
  refine stepE0 rfl rfl (fun K hK => ?_)
  go_simp
  refine hK _ ?_
  clear hK K
  refine stepE0 rfl rfl (fun K hK => ?_)
  go_simp
  refine hK _ ?_
  clear hK K
  refine stepE0 rfl rfl (fun K hK => ?_)
  go_simp
  refine hK _ ?_
  clear hK K
  try refine stepEnil0 ?_
  go_wp2_with (go_at_call 69; refine (near_any _ _).mono ?_; rintro e w' ⟨rfl, rfl⟩; simp only [ha, hb, hc])
  obtain ⟨SS, HSD⟩ : ∃ SS : World → Prop, Hid (SS = fun w' => w'.cell? ⟨w.heap.size, 5, none⟩ = some (.int .i64 c0) ∧ w'.cell? ⟨w.heap.size, 6, none⟩ = some (.int .i64 c1) ∧ w'.cell? ⟨w.heap.size, 7, none⟩ = some (.int .i64 c2)) := ⟨_, Lib.hid rfl⟩
  refine wp_region_plan0 SS [7] (.op 1 0 (.op 3 0 (.op 4 0 (.op 5 0 (.op 6 0 (.op 7 2 (.op 8 0 (.op 11 0 (.op 12 0 (.op 13 0 (.two 0 (.two 2 (.op 9 1 (.op 10 1 (.op 14 0 (.op 15 0 (.op 16 0 .nil))))) 9 (.op 2 1 (.op 10 1 (.op 14 0 (.op 15 0 (.op 16 0 .nil)))))) 9 (.op 0 1 (.op 2 1 (.op 10 1 (.op 14 0 (.op 15 0 (.op 16 0 .nil))))))))))))))))) (by kernel_rfl) (by kernel_rfl) rfl (by kernel_rfl) ?_ ?_
  focus (rw [HSD.out]; refine ⟨?_, ?_, ?_⟩ <;> go_simp)
  refine stepT0 rfl rfl (fun K hK => ?_)
  go_simp
  refine hK _ ?_
  clear hK K
  refine stepT0 rfl rfl (fun K hK => ?_)
  go_simp
  refine hK _ ?_
  clear hK K
  refine stepT0 rfl rfl (fun K hK => ?_)
  go_simp
  refine hK _ ?_
  clear hK K
  refine stepT0 rfl rfl (fun K hK => ?_)
  go_simp
  refine hK _ ?_
  clear hK K
  refine stepT0 rfl rfl (fun K hK => ?_)
  go_simp
  refine hK _ ?_
  clear hK K
  refine stepT2 rfl rfl ?_ (fun w1 hS => ?_) (fun K hK => ?_)
  rotate_left
  focus (rw [HSD.out] at hS; obtain ⟨s0, s1, s2⟩ := hS; go_simp; rfl)
  go_simp
  refine hK _ ?_
  clear hK K
  refine stepT0 rfl rfl (fun K hK => ?_)
  go_simp
  refine hK _ ?_
  clear hK K
  refine stepT0 rfl rfl (fun K hK => ?_)
  go_simp
  refine hK _ ?_
  clear hK K
  refine stepT0 rfl rfl (fun K hK => ?_)
  go_simp
  refine hK _ ?_
  clear hK K
  refine stepT0 rfl rfl (fun K hK => ?_)
  go_simp
  refine hK _ ?_
  clear hK K
  refine stepTtwo ?_ ?_ (by kernel_rfl) (by kernel_rfl)
  ·
    refine stepT1S rfl rfl (fun K hK => ?_)
    go_wp2
    refine ⟨by rw [HSD.out]; exact (by refine ⟨?_, ?_, ?_⟩ <;> go_simp), ?_⟩
    refine stepTtwo ?_ ?_ (by kernel_rfl) (by kernel_rfl)
    ·
      refine stepT1S rfl rfl (fun K hK => ?_)
      (refine wp_append_reads _ _ _ 72 rfl w.heap.size 128 i0 (.agg #[.int .i64 0, .int .i64 0, .int .i64 0, .int .i64 0, .int .i64 0, .bool false]) 6 48 Try.underlying72 HI.out HZ0.out HZ1.out HZ2.out rfl (by decide) (.slice (some ⟨w.heap.size + 1, 0, none⟩) 0 0) 0 [] rfl (lit_at (by simp) (by omega)) (.slice a es.length cap) es.length (es.flatMap Ent.row) rfl (reads_of_owns (ownsRow_below H.out (by repeat (first | (with_reducible exact Below.refl _ _) | (with_reducible refine Below.setCell ?_ ?_ _) | (with_reducible refine Below.alloc ?_ ?_ _) | (with_reducible refine Below.drewN ?_ _) | (with_reducible refine Below.drew ?_) | (with_reducible exact Nat.le_refl _) | (focus (simp only [World.size_alloc, World.size_setCell, World.size_drew, World.size_drewN]; omega)) | omega | exact Nat.le_refl _ | (focus (simp; done)) | (focus (simp; omega)))))) (Ent.one es) (by unfold maxLen; omega) (by omega) (by first | (simp; done) | (simp; omega)) ?_; intro v1 w1 hown1 hgrow1 hat1; have kc := fun (o : Nat) => grown_cell (b := w.heap.size) (o := o) hgrow1 (by first | (simp; done) | (simp; omega)) (by simp [Value.ownBlock]); have hz1 := hgrow1.size; simp only [World.size_alloc, World.size_drew] at hz1;  have HO1 := Lib.hid hown1; have HG1 := Lib.hid hgrow1; have HA1 := Lib.hid hat1; clear hown1 hgrow1 hat1; go_wp2)
      refine ⟨by rw [HSD.out]; exact (by refine ⟨(kc 5).trans ?_, (kc 6).trans ?_, (kc 7).trans ?_⟩ <;> go_simp), ?_⟩
      refine stepT1 rfl rfl (by kernel_rfl) (fun K hK => ?_)
      go_wp2
      refine stepT1 rfl rfl (by kernel_rfl) (fun K hK => ?_)
      (refine wp_append_lies _ _ _ 72 rfl w.heap.size 128 i0 (.agg #[.int .i64 0, .int .i64 0, .int .i64 0, .int .i64 0, .int .i64 0, .bool false]) 6 48 Try.underlying72 HI.out HZ0.out HZ1.out HZ2.out rfl (by decide) v1 (0 + es.length) ([] ++ es.flatMap Ent.row) rfl (HO1.out.alloc _) ⟨w1.heap.size, 0, none⟩ 1 1 [.int .i64 ((es.length : Int) + 1), .int .i64 1, .int .i64 c0, .int .i64 c1, .int .i64 c2, .bool false] rfl rfl (World.news_of_block (cs := #[.int .i64 ((es.length : Int) + 1), .int .i64 1, .int .i64 c0, .int .i64 c1, .int .i64 c2, .bool false]) (t := 128) (fr := (0, 0)) (heap_alloc_new w1 _)) (by simp [Value.oneCell']) (by omega) (by unfold maxLen; omega) (by omega) (by first | omega | (simp; done) | (simp; omega)) _ rfl ?_; intro gg cap2 w2 hown2 hgrow2 hat2 hlt2; go_wp2)
      refine stepT0 rfl rfl (fun K hK => ?_)
      go_simp
      refine hK _ ?_
      clear hK K
      refine stepT0 rfl rfl (fun K hK => ?_)
      go_simp
      refine hK _ ?_
      clear hK K
      refine stepT0 rfl rfl (fun K hK => ?_)
      go_simp
      refine hK _ ?_
      clear hK K
      try refine stepTnil0 ?_
      clear HSD SS
      (have hrow : ∀ k, v1.ownBlock = some k → w.heap.size ≤ k := (fun k hk => (HO1.out.lt k hk).1); go_wp2; go_ret3; refine ⟨_, rfl, (by simpa [Ent.row] using ownsRow_mono hown2 hbase), ?_⟩; refine Below.grown ?_ hgrow2 (by first | omega | (simp; done) | (simp; omega)) hrow; first | exact Below.grown (by repeat (first | (with_reducible exact Below.refl _ _) | (with_reducible refine Below.setCell ?_ ?_ _) | (with_reducible refine Below.alloc ?_ ?_ _) | (with_reducible refine Below.drewN ?_ _) | (with_reducible refine Below.drew ?_) | (with_reducible exact Nat.le_refl _) | (focus (simp only [World.size_alloc, World.size_setCell, World.size_drew, World.size_drewN]; omega)) | omega | exact Nat.le_refl _ | (focus (simp; done)) | (focus (simp; omega)))) HG1.out (by first | omega | (simp; done) | (simp; omega)) (by simp [Value.ownBlock]) | exact (Below.grown (by repeat (first | (with_reducible exact Below.refl _ _) | (with_reducible refine Below.setCell ?_ ?_ _) | (with_reducible refine Below.alloc ?_ ?_ _) | (with_reducible refine Below.drewN ?_ _) | (with_reducible refine Below.drew ?_) | (with_reducible exact Nat.le_refl _) | (focus (simp only [World.size_alloc, World.size_setCell, World.size_drew, World.size_drewN]; omega)) | omega | exact Nat.le_refl _ | (focus (simp; done)) | (focus (simp; omega)))) HG1.out (by first | omega | (simp; done) | (simp; omega)) (by simp [Value.ownBlock])).alloc (by omega) _)
    ·
      refine stepT1 rfl rfl (by kernel_rfl) (fun K hK => ?_)
      go_wp2
      refine stepT1S rfl rfl (fun K hK => ?_)
      (refine wp_append_reads _ _ _ 72 rfl w.heap.size 128 i0 (.agg #[.int .i64 0, .int .i64 0, .int .i64 0, .int .i64 0, .int .i64 0, .bool false]) 6 48 Try.underlying72 HI.out HZ0.out HZ1.out HZ2.out rfl (by decide) (.slice (some ⟨w.heap.size + 1, 0, none⟩) 0 0) 0 [] rfl (((lit_at (w := w.alloc (.cells #[.int .i64 1, .int .i64 cv, .int .i64 ce, .int .i64 cs, .int .i64 cn, .int .i64 c0, .int .i64 c1, .int .i64 c2] 35)) (k := w.heap.size + 1) (by simp) (by omega)).alloc (.cells #[.int .i64 ((es.length : Int) + 1), .int .i64 1, .int .i64 c0, .int .i64 c1, .int .i64 c2, .bool false] 128))) (.slice a es.length cap) es.length (es.flatMap Ent.row) rfl (reads_of_owns (ownsRow_below H.out (by repeat (first | (with_reducible exact Below.refl _ _) | (with_reducible refine Below.setCell ?_ ?_ _) | (with_reducible refine Below.alloc ?_ ?_ _) | (with_reducible refine Below.drewN ?_ _) | (with_reducible refine Below.drew ?_) | (with_reducible exact Nat.le_refl _) | (focus (simp only [World.size_alloc, World.size_setCell, World.size_drew, World.size_drewN]; omega)) | omega | exact Nat.le_refl _ | (focus (simp; done)) | (focus (simp; omega)))))) (Ent.one es) (by unfold maxLen; omega) (by omega) (by first | (simp; done) | (simp; omega)) ?_; intro v1 w1 hown1 hgrow1 hat1; have kc := fun (o : Nat) => grown_cell (b := w.heap.size) (o := o) hgrow1 (by first | (simp; done) | (simp; omega)) (by simp [Value.ownBlock]); have hz1 := hgrow1.size; simp only [World.size_alloc, World.size_drew] at hz1; have HB1 := Lib.hid (hgrow1.block (w.heap.size + 2) (by first | (simp; done) | (simp; omega)) (by simp [Value.ownBlock])); have HO1 := Lib.hid hown1; have HG1 := Lib.hid hgrow1; have HA1 := Lib.hid hat1; clear hown1 hgrow1 hat1; go_wp2)
      refine ⟨by rw [HSD.out]; exact (by refine ⟨(kc 5).trans ?_, (kc 6).trans ?_, (kc 7).trans ?_⟩ <;> go_simp), ?_⟩
      refine stepT1 rfl rfl (by kernel_rfl) (fun K hK => ?_)
      (refine wp_append_lies _ _ _ 72 rfl w.heap.size 128 i0 (.agg #[.int .i64 0, .int .i64 0, .int .i64 0, .int .i64 0, .int .i64 0, .bool false]) 6 48 Try.underlying72 HI.out HZ0.out HZ1.out HZ2.out rfl (by decide) v1 (0 + es.length) ([] ++ es.flatMap Ent.row) rfl (HO1.out) ⟨w.heap.size + 2, 0, none⟩ 1 1 [.int .i64 ((es.length : Int) + 1), .int .i64 1, .int .i64 c0, .int .i64 c1, .int .i64 c2, .bool false] rfl rfl (World.news_of_block (cs := #[.int .i64 ((es.length : Int) + 1), .int .i64 1, .int .i64 c0, .int .i64 c1, .int .i64 c2, .bool false]) (t := 128) (fr := (0, 0)) (HB1.out.trans (heap_last (w := (w.alloc (.cells #[.int .i64 1, .int .i64 cv, .int .i64 ce, .int .i64 cs, .int .i64 cn, .int .i64 c0, .int .i64 c1, .int .i64 c2] 35)).alloc (.cells #[] 128)) (.cells #[.int .i64 ((es.length : Int) + 1), .int .i64 1, .int .i64 c0, .int .i64 c1, .int .i64 c2, .bool false] 128) (by simp)))) (by simp [Value.oneCell']) (by omega) (by unfold maxLen; omega) (by omega) (by first | omega | (simp; done) | (simp; omega)) _ rfl ?_; intro gg cap2 w2 hown2 hgrow2 hat2 hlt2; go_wp2)
      refine stepT0 rfl rfl (fun K hK => ?_)
      go_simp
      refine hK _ ?_
      clear hK K
      refine stepT0 rfl rfl (fun K hK => ?_)
      go_simp
      refine hK _ ?_
      clear hK K
      refine stepT0 rfl rfl (fun K hK => ?_)
      go_simp
      refine hK _ ?_
      clear hK K
      try refine stepTnil0 ?_
      clear HSD SS
      (have hrow : ∀ k, v1.ownBlock = some k → w.heap.size ≤ k := (fun k hk => (HO1.out.lt k hk).1); go_wp2; go_ret3; refine ⟨_, rfl, (by simpa [Ent.row] using ownsRow_mono hown2 hbase), ?_⟩; refine Below.grown ?_ hgrow2 (by first | omega | (simp; done) | (simp; omega)) hrow; first | exact Below.grown (by repeat (first | (with_reducible exact Below.refl _ _) | (with_reducible refine Below.setCell ?_ ?_ _) | (with_reducible refine Below.alloc ?_ ?_ _) | (with_reducible refine Below.drewN ?_ _) | (with_reducible refine Below.drew ?_) | (with_reducible exact Nat.le_refl _) | (focus (simp only [World.size_alloc, World.size_setCell, World.size_drew, World.size_drewN]; omega)) | omega | exact Nat.le_refl _ | (focus (simp; done)) | (focus (simp; omega)))) HG1.out (by first | omega | (simp; done) | (simp; omega)) (by simp [Value.ownBlock]) | exact (Below.grown (by repeat (first | (with_reducible exact Below.refl _ _) | (with_reducible refine Below.setCell ?_ ?_ _) | (with_reducible refine Below.alloc ?_ ?_ _) | (with_reducible refine Below.drewN ?_ _) | (with_reducible refine Below.drew ?_) | (with_reducible exact Nat.le_refl _) | (focus (simp only [World.size_alloc, World.size_setCell, World.size_drew, World.size_drewN]; omega)) | omega | exact Nat.le_refl _ | (focus (simp; done)) | (focus (simp; omega)))) HG1.out (by first | omega | (simp; done) | (simp; omega)) (by simp [Value.ownBlock])).alloc (by omega) _)
  ·
    refine stepT1 rfl rfl (by kernel_rfl) (fun K hK => ?_)
    go_wp2
    refine stepT1S rfl rfl (fun K hK => ?_)
    go_wp2
    refine ⟨by rw [HSD.out]; exact (by refine ⟨?_, ?_, ?_⟩ <;> go_simp), ?_⟩
    refine stepT1S rfl rfl (fun K hK => ?_)
    (refine wp_append_reads _ _ _ 72 rfl w.heap.size 128 i0 (.agg #[.int .i64 0, .int .i64 0, .int .i64 0, .int .i64 0, .int .i64 0, .bool false]) 6 48 Try.underlying72 HI.out HZ0.out HZ1.out HZ2.out rfl (by decide) (.slice (some ⟨w.heap.size + 2, 0, none⟩) 0 0) 0 [] rfl (lit_at (by simp) (by omega)) (.slice a es.length cap) es.length (es.flatMap Ent.row) rfl (reads_of_owns (ownsRow_below H.out (by repeat (first | (with_reducible exact Below.refl _ _) | (with_reducible refine Below.setCell ?_ ?_ _) | (with_reducible refine Below.alloc ?_ ?_ _) | (with_reducible refine Below.drewN ?_ _) | (with_reducible refine Below.drew ?_) | (with_reducible exact Nat.le_refl _) | (focus (simp only [World.size_alloc, World.size_setCell, World.size_drew, World.size_drewN]; omega)) | omega | exact Nat.le_refl _ | (focus (simp; done)) | (focus (simp; omega)))))) (Ent.one es) (by unfold maxLen; omega) (by omega) (by first | (simp; done) | (simp; omega)) ?_; intro v1 w1 hown1 hgrow1 hat1; have kc := fun (o : Nat) => grown_cell (b := w.heap.size) (o := o) hgrow1 (by first | (simp; done) | (simp; omega)) (by simp [Value.ownBlock]); have hz1 := hgrow1.size; simp only [World.size_alloc, World.size_drew] at hz1; have HB1 := Lib.hid (hgrow1.block (w.heap.size + 1) (by first | (simp; done) | (simp; omega)) (by simp [Value.ownBlock])); have HO1 := Lib.hid hown1; have HG1 := Lib.hid hgrow1; have HA1 := Lib.hid hat1; clear hown1 hgrow1 hat1; go_wp2)
    refine ⟨by rw [HSD.out]; exact (by refine ⟨(kc 5).trans ?_, (kc 6).trans ?_, (kc 7).trans ?_⟩ <;> go_simp), ?_⟩
    refine stepT1 rfl rfl (by kernel_rfl) (fun K hK => ?_)
    (refine wp_append_lies _ _ _ 72 rfl w.heap.size 128 i0 (.agg #[.int .i64 0, .int .i64 0, .int .i64 0, .int .i64 0, .int .i64 0, .bool false]) 6 48 Try.underlying72 HI.out HZ0.out HZ1.out HZ2.out rfl (by decide) v1 (0 + es.length) ([] ++ es.flatMap Ent.row) rfl (HO1.out) ⟨w.heap.size + 1, 0, none⟩ 1 1 [.int .i64 ((es.length : Int) + 1), .int .i64 1, .int .i64 c0, .int .i64 c1, .int .i64 c2, .bool false] rfl rfl (World.news_of_block (cs := #[.int .i64 ((es.length : Int) + 1), .int .i64 1, .int .i64 c0, .int .i64 c1, .int .i64 c2, .bool false]) (t := 128) (fr := (0, 0)) (HB1.out.trans (heap_prev (w := w.alloc (.cells #[.int .i64 1, .int .i64 cv, .int .i64 ce, .int .i64 cs, .int .i64 cn, .int .i64 c0, .int .i64 c1, .int .i64 c2] 35)) (.cells #[.int .i64 ((es.length : Int) + 1), .int .i64 1, .int .i64 c0, .int .i64 c1, .int .i64 c2, .bool false] 128) (.cells #[] 128) (by simp)))) (by simp [Value.oneCell']) (by omega) (by unfold maxLen; omega) (by omega) (by first | omega | (simp; done) | (simp; omega)) _ rfl ?_; intro gg cap2 w2 hown2 hgrow2 hat2 hlt2; go_wp2)
    refine stepT0 rfl rfl (fun K hK => ?_)
    go_simp
    refine hK _ ?_
    clear hK K
    refine stepT0 rfl rfl (fun K hK => ?_)
    go_simp
    refine hK _ ?_
    clear hK K
    refine stepT0 rfl rfl (fun K hK => ?_)
    go_simp
    refine hK _ ?_
    clear hK K
    try refine stepTnil0 ?_
    clear HSD SS
    (have hrow : ∀ k, v1.ownBlock = some k → w.heap.size ≤ k := (fun k hk => (HO1.out.lt k hk).1); go_wp2; go_ret3; refine ⟨_, rfl, (by simpa [Ent.row] using ownsRow_mono hown2 hbase), ?_⟩; refine Below.grown ?_ hgrow2 (by first | omega | (simp; done) | (simp; omega)) hrow; first | exact Below.grown (by repeat (first | (with_reducible exact Below.refl _ _) | (with_reducible refine Below.setCell ?_ ?_ _) | (with_reducible refine Below.alloc ?_ ?_ _) | (with_reducible refine Below.drewN ?_ _) | (with_reducible refine Below.drew ?_) | (with_reducible exact Nat.le_refl _) | (focus (simp only [World.size_alloc, World.size_setCell, World.size_drew, World.size_drewN]; omega)) | omega | exact Nat.le_refl _ | (focus (simp; done)) | (focus (simp; omega)))) HG1.out (by first | omega | (simp; done) | (simp; omega)) (by simp [Value.ownBlock]) | exact (Below.grown (by repeat (first | (with_reducible exact Below.refl _ _) | (with_reducible refine Below.setCell ?_ ?_ _) | (with_reducible refine Below.alloc ?_ ?_ _) | (with_reducible refine Below.drewN ?_ _) | (with_reducible refine Below.drew ?_) | (with_reducible exact Nat.le_refl _) | (focus (simp only [World.size_alloc, World.size_setCell, World.size_drew, World.size_drewN]; omega)) | omega | exact Nat.le_refl _ | (focus (simp; done)) | (focus (simp; omega)))) HG1.out (by first | omega | (simp; done) | (simp; omega)) (by simp [Value.ownBlock])).alloc (by omega) _)
end Go.Proofs.Ytigkcbnlbdiimaa
