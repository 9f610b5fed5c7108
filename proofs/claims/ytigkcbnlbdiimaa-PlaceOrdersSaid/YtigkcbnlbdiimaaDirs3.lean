/- The directory's command: Do. -/
import Derived.Test.YtigkcbnlbdiimaaDirs2
import Derived.Test.YtigkcbnlbdiimaaBase2
import Derived.Test.YtigkcbnlbdiimaaOrder
import Derived.Deep.AppendLies
namespace Go.Proofs.Ytigkcbnlbdiimaa
open Go.RowKit
/-- What a command leaves: the entries, the number, the error's code. -/
def doEs (es : List Ent) (c : Cmd) : List Ent :=
  if c.kind = 1 then
    if threeB c.n0 c.n1 c.n2 && decide (es.length < 4096) then es ++ [⟨(es.length : Int) + 1, 1, c.n0, c.n1, c.n2, false⟩] else es
  else if c.kind = 2 ∨ c.kind = 3 ∨ c.kind = 4 then
    if 1 ≤ c.vol ∧ c.vol ≤ es.length then
      match es[(c.vol - 1).toNat]? with
      | some x => if x.epoch = c.epoch ∧ turnE x c = 0 then es.set (c.vol - 1).toNat (turnX x c) else es
      | none => es
    else es
  else es
def doN (es : List Ent) (c : Cmd) : Int :=
  if c.kind = 1 then
    if threeB c.n0 c.n1 c.n2 && decide (es.length < 4096) then (es.length : Int) + 1 else 0
  else if c.kind = 2 ∨ c.kind = 3 ∨ c.kind = 4 then
    if 1 ≤ c.vol ∧ c.vol ≤ es.length then
      match es[(c.vol - 1).toNat]? with
      | some x => if x.epoch = c.epoch ∧ turnE x c = 0 then (turnX x c).epoch else 0
      | none => 0
    else 0
  else 0
def doK (es : List Ent) (c : Cmd) : Nat :=
  if c.kind = 1 then
    if threeB c.n0 c.n1 c.n2 then (if es.length < 4096 then 0 else 11) else 1
  else if c.kind = 2 ∨ c.kind = 3 ∨ c.kind = 4 then
    if 1 ≤ c.vol ∧ c.vol ≤ es.length then
      match es[(c.vol - 1).toNat]? with
      | some x => if x.epoch = c.epoch then turnE x c else 13
      | none => 6
    else 6
  else 1
/-- The outcome of Do, whatever its answer. -/
def DoOut (w : World) (base bm : Nat) (v : Value) (es' : List Ent) (n k : Int) (e : Ending) (w' : World) : Prop :=
  e = .returned (.tuple #[.int .i64 n, errV k]) ∧ ∃ v', MapAt w' base bm v' es' ∧ (∀ g, v'.ownBlock = some g → v.ownBlock = some g ∨ w.heap.size ≤ g) ∧ Keeps (fun b => b = bm ∨ v.ownBlock = some b) w w'
theorem DoOut.same {w w' : World} {base bm : Nat} {v : Value} {es : List Ent} {n k : Int} {e : Ending} (h : MapAt w base bm v es) (he : e = .returned (.tuple #[.int .i64 n, errV k])) (hb : Below w.heap.size w w') :
    DoOut w base bm v es n k e w' :=
  ⟨he, v, h.below hb, fun g hg => .inl hg, Keeps.of_below hb fun b hb' _ => hb'⟩
theorem MapAt.of_store {w : World} {base bm : Nat} {v0 v : Value} {es : List Ent} (hb : w.heap[bm]? = some (.cells #[v0] 105 (0, 0))) (hr : w.ownsRow base 37 6 v es.length (es.flatMap Ent.row))
    (hl : base ≤ bm) (hne : v.ownBlock ≠ some bm) (hf : es.length ≤ 4096) : MapAt (w.setCell ⟨bm, 0, none⟩ v) base bm v es :=
  ⟨heap_setCell_same w bm 0 _ _ _ hb, ownsRow_at hr (fun k hk => heap_setCell_other w _ k _ (fun e => hne (by rw [hk, e]))), hl, hne, hf⟩
theorem ent_info : (Try.prog.info? 37).map (fun i => (i.zero, i.size, i.bytes)) = some (some (.agg #[.int .i64 0, .int .i64 0, .int .i64 0, .int .i64 0, .int .i64 0, .bool false]), 6, 48) := by kernel_rfl

set_option maxRecDepth 100000 in
set_option maxHeartbeats 1000000 in
theorem do_bad (base bm : Nat) (v : Value) (es : List Ent) (c : Cmd) (w : World) (h : MapAt w base bm v es) (h1 : c.kind ≠ 1) (h2 : c.kind ≠ 2) (h3 : c.kind ≠ 3) (h4 : c.kind ≠ 4) :
    Calls Try.prog 16 #[.pointer (some ⟨bm, 0, none⟩), .agg #[.int .i64 c.kind, .int .i64 c.vol, .int .i64 c.epoch, .int .i64 c.spot, .int .i64 c.node, .int .i64 c.n0, .int .i64 c.n1, .int .i64 c.n2]] w
      (DoOut w base bm v es 0 1) := by
  have H := Lib.hid h
  clear h
  obtain ⟨k, cv, ce, cs, cn, c0, c1, c2⟩ := c
  have b1 : (k == 1) = false := by simpa using h1
  have b2 : (k == 2) = false := by simpa using h2
  have b3 : (k == 3) = false := by simpa using h3
  have b4 : (k == 4) = false := by simpa using h4
  clear h1 h2 h3 h4
  go_enter Try.func16, Try.ntmps16
  go_wp2
  go_ret2
  exact DoOut.same H.out rfl (by repeat (first | (with_reducible exact Below.refl _ _) | (with_reducible refine Below.setCell ?_ ?_ _) | (with_reducible refine Below.alloc ?_ ?_ _) | (with_reducible refine Below.drewN ?_ _) | (with_reducible refine Below.drew ?_) | (with_reducible exact Nat.le_refl _) | (focus (simp only [World.size_alloc, World.size_setCell, World.size_drew, World.size_drewN]; omega)) | omega | exact Nat.le_refl _ | (focus (simp; done)) | (focus (simp; omega))))
set_option maxRecDepth 100000 in
set_option maxHeartbeats 3000000 in
theorem do_new (base bm : Nat) (v : Value) (es : List Ent) (c : Cmd) (w : World) (h : MapAt w base bm v es) (h1 : c.kind = 1) (h2 : threeB c.n0 c.n1 c.n2 = true) (h3 : es.length < 4096) :
    Calls Try.prog 16 #[.pointer (some ⟨bm, 0, none⟩), .agg #[.int .i64 c.kind, .int .i64 c.vol, .int .i64 c.epoch, .int .i64 c.spot, .int .i64 c.node, .int .i64 c.n0, .int .i64 c.n1, .int .i64 c.n2]] w
      (DoOut w base bm v (es ++ [⟨(es.length : Int) + 1, 1, c.n0, c.n1, c.n2, false⟩]) ((es.length : Int) + 1) 0) := by
  obtain ⟨k, cv, ce, cs, cn, c0, c1, c2⟩ := c
  have h1' : k = 1 := h1
  subst h1'
  clear h1
  have HT := Lib.hid h2
  clear h2
  obtain ⟨a, cap, hv⟩ := ownsRow_len h.row
  have hc := h.cell
  have hf := h.free
  have hlt := h.lt
  have hH := h
  have hn3 : (es.length : Int) < 4096 := by omega
  subst hv
  have H := Lib.hid h
  clear h hH
  have hthree : ∀ wx : World, Calls Try.prog 55 #[.agg #[.int .i64 c0, .int .i64 c1, .int .i64 c2]] wx fun e w' => e = .returned (.bool true) ∧ Below wx.heap.size wx w' := fun wx => by
    have := three_any c0 c1 c2 wx
    rwa [HT.out] at this
  have HTH := Lib.hid hthree
  clear hthree
  generalize hn : es.length = n at *
  have HN := Lib.hid hn
  clear hn
  go_enter Try.func16, Try.ntmps16
  go_wp2_with (
    go_at_call 55
    refine (HTH.out _).mono ?_
    rintro e w1 ⟨rfl, hb⟩
    have hm1 : MapAt w1 base bm _ es := (H.out.below (by repeat (first | (with_reducible exact Below.refl _ _) | (with_reducible refine Below.setCell ?_ ?_ _) | (with_reducible refine Below.alloc ?_ ?_ _) | (with_reducible refine Below.drewN ?_ _) | (with_reducible refine Below.drew ?_) | (with_reducible exact Nat.le_refl _) | (focus (simp only [World.size_alloc, World.size_setCell, World.size_drew, World.size_drewN]; omega)) | omega | exact Nat.le_refl _ | (focus (simp; done)) | (focus (simp; omega))))).below hb
    have hk1 : Below w.heap.size w w1 := Below.trans (by repeat (first | (with_reducible exact Below.refl _ _) | (with_reducible refine Below.setCell ?_ ?_ _) | (with_reducible refine Below.alloc ?_ ?_ _) | (with_reducible refine Below.drewN ?_ _) | (with_reducible refine Below.drew ?_) | (with_reducible exact Nat.le_refl _) | (focus (simp only [World.size_alloc, World.size_setCell, World.size_drew, World.size_drewN]; omega)) | omega | exact Nat.le_refl _ | (focus (simp; done)) | (focus (simp; omega)))) (hb.mono (by simp))
    have hz1' := hb.size
    simp only [World.size_alloc] at hz1'
    have hz1 : w.heap.size < w1.heap.size := by omega
    have kb0 : w1.cell? ⟨w.heap.size, 5, none⟩ = some (.int .i64 c0) := by rw [hb.cell (by simp)]; simp
    have kb1 : w1.cell? ⟨w.heap.size, 6, none⟩ = some (.int .i64 c1) := by rw [hb.cell (by simp)]; simp
    have kb2 : w1.cell? ⟨w.heap.size, 7, none⟩ = some (.int .i64 c2) := by rw [hb.cell (by simp)]; simp
    have kc := hm1.cell
    have kf := hm1.free
    have klt := hm1.lt
    have hr1 := hm1.row
    rw [HN.out] at hr1
    have HR := Lib.hid hr1
    clear hr1
    have HM := Lib.hid hm1
    have HK := Lib.hid hk1
    clear hm1 hk1 hb)
  obtain ⟨i0, hi, hz0, hz1', hz2⟩ := info_parts ent_info
  have HI := Lib.hid hi
  have HZ0 := Lib.hid hz0
  have HZ1 := Lib.hid hz1'
  have HZ2 := Lib.hid hz2
  clear hi hz0 hz1' hz2
  have hxb : some w.heap.size ≠ (Value.slice a n cap).ownBlock := fun e => by have := H.out.row.lt _ e.symm; omega
  have hsum : IntKind.i64.wrap ((n : Int) + 1) = (n : Int) + 1 := IntWalk.i64_in _ (by omega)
  have hbase : base ≤ w1.heap.size := by have := HM.out.lt; have := HM.out.low; omega
  refine wp_region_order (fun w' => w'.cell? ⟨bm, 0, none⟩ = some (.slice a n cap) ∧ w'.cell? ⟨w.heap.size, 5, none⟩ = some (.int .i64 c0) ∧ w'.cell? ⟨w.heap.size, 6, none⟩ = some (.int .i64 c1) ∧ w'.cell? ⟨w.heap.size, 7, none⟩ = some (.int .i64 c2)) [4, 8, 12] [(0, 0), (1, 0), (2, 0), (3, 0), (4, 2), (5, 0), (6, 0), (7, 0), (8, 2), (9, 0), (10, 0), (11, 0), (12, 2), (13, 0), (14, 1), (15, 1), (16, 0), (17, 0), (18, 1)] (by kernel_rfl) (by kernel_rfl) rfl (by kernel_rfl) (fun c a d v w h => by cases d <;> exact h) ?_ ?_
  focus (exact ⟨kc, kb0, kb1, kb2⟩)
  refine stepE0 rfl rfl (fun K hK => ?_)
  go_simp
  refine hK _ ?_
  clear hK K
  refine stepE0 rfl rfl (fun K hK => ?_)
  go_simp
  refine hK _ ?_
  clear hK K
  refine stepE0 rfl rfl (fun K hK => ?_)
  go_simp
  refine hK _ ?_
  clear hK K
  refine stepE0 rfl rfl (fun K hK => ?_)
  go_simp
  refine hK _ ?_
  clear hK K
  refine stepE2 rfl rfl ?_ (fun w1 hS => ?_) (fun K hK => ?_)
  rotate_left
  focus (obtain ⟨s0, s1, s2, s3⟩ := hS; go_simp; rfl)
  go_simp
  refine hK _ ?_
  clear hK K
  refine stepE0 rfl rfl (fun K hK => ?_)
  go_simp
  refine hK _ ?_
  clear hK K
  refine stepE0 rfl rfl (fun K hK => ?_)
  go_simp
  refine hK _ ?_
  clear hK K
  refine stepE0 rfl rfl (fun K hK => ?_)
  go_simp
  refine hK _ ?_
  clear hK K
  refine stepE2 rfl rfl ?_ (fun w1 hS => ?_) (fun K hK => ?_)
  rotate_left
  focus (obtain ⟨s0, s1, s2, s3⟩ := hS; go_simp; rfl)
  go_simp
  refine hK _ ?_
  clear hK K
  refine stepE0 rfl rfl (fun K hK => ?_)
  go_simp
  refine hK _ ?_
  clear hK K
  refine stepE0 rfl rfl (fun K hK => ?_)
  go_simp
  refine hK _ ?_
  clear hK K
  refine stepE0 rfl rfl (fun K hK => ?_)
  go_simp
  refine hK _ ?_
  clear hK K
  refine stepE2 rfl rfl ?_ (fun w1 hS => ?_) (fun K hK => ?_)
  rotate_left
  focus (obtain ⟨s0, s1, s2, s3⟩ := hS; go_simp; rfl)
  go_simp
  refine hK _ ?_
  clear hK K
  refine stepE0 rfl rfl (fun K hK => ?_)
  go_simp
  refine hK _ ?_
  clear hK K
  refine stepE1S rfl rfl (fun K hK => ?_)
  go_wp2
  refine ⟨by refine ⟨?_, ?_, ?_, ?_⟩ <;> go_simp, ?_⟩
  refine stepE1 rfl rfl (by kernel_rfl) (fun K hK => ?_)
  (refine wp_append_lies _ _ _ 33 rfl base 37 i0 (.agg #[.int .i64 0, .int .i64 0, .int .i64 0, .int .i64 0, .int .i64 0, .bool false]) 6 48 Try.underlying33 HI.out HZ0.out HZ1.out HZ2.out rfl (by decide) (.slice a n cap) n (es.flatMap Ent.row) rfl ((HR.out.alloc _).drew) ⟨w1.heap.size, 0, none⟩ 1 1 [.int .i64 (n + 1), .int .i64 1, .int .i64 c0, .int .i64 c1, .int .i64 c2, .bool false] rfl rfl (World.news_of_block (cs := #[.int .i64 (n + 1), .int .i64 1, .int .i64 c0, .int .i64 c1, .int .i64 c2, .bool false]) (t := 37) (fr := (0, 0)) (heap_alloc_new w1 _)) (by simp [Value.oneCell']) (by omega) (by unfold maxLen; omega) (by omega) (by simp; omega) _ rfl ?_; intro gg cap2 w2 hown2 hgrow hat hlt2; have kc2 : w2.cell? ⟨bm, 0, none⟩ = some (.slice a n cap) := (grown_cell hgrow (by simp; omega) HM.out.ne).trans (by go_simp); have kf2 : w2.frozen? ⟨bm, 0, none⟩ = false := (grown_frozen hgrow (by simp; omega) HM.out.ne).trans (by go_simp); go_wp2)
  refine stepE0 rfl rfl (fun K hK => ?_)
  go_simp
  refine hK _ ?_
  clear hK K
  refine stepE0 rfl rfl (fun K hK => ?_)
  go_simp
  refine hK _ ?_
  clear hK K
  refine stepE1 rfl rfl (by kernel_rfl) (fun K hK => ?_)
  go_wp2
  try refine stepEnil ?_
  go_wp2
  go_ret2
  have hb2 : w2.heap[bm]? = some (.cells #[.slice a n cap] 105 (0, 0)) := by
    rw [hgrow.block bm (by simp; omega) (fun e => HM.out.ne e.symm)]
    exact (Below.heap_alloc _ _ _ klt).trans HM.out.blk
  have hne : (Value.slice (some ⟨gg, 0, none⟩) (n + 1) cap2).ownBlock ≠ some bm := by
    intro e
    simp only [Value.ownBlock, Option.some.injEq] at e
    subst e
    rcases hat with h | h
    · exact HM.out.ne h
    · simp at h; omega
  refine ⟨rfl, _, MapAt.of_store hb2 (by simpa [HN.out, Ent.row] using hown2) HM.out.low hne (by simp [HN.out]; omega), ?_, ?_⟩
  · intro g hg
    simp only [Value.ownBlock, Option.some.injEq] at hg
    subst hg
    rcases hat with h | h
    · exact .inl h
    · simp at h; exact .inr (by omega)
  · exact ((((Keeps.of_below HK.out (fun b hb _ => hb)).alloc _).drew).grown hgrow (fun k hk _ => .inr hk)).setCell ⟨bm, 0, none⟩ _ (fun _ => .inl rfl)

set_option maxRecDepth 100000 in
set_option maxHeartbeats 1000000 in
theorem do_arg (base bm : Nat) (v : Value) (es : List Ent) (c : Cmd) (w : World) (h : MapAt w base bm v es) (h1 : c.kind = 1) (h2 : threeB c.n0 c.n1 c.n2 = false) :
    Calls Try.prog 16 #[.pointer (some ⟨bm, 0, none⟩), .agg #[.int .i64 c.kind, .int .i64 c.vol, .int .i64 c.epoch, .int .i64 c.spot, .int .i64 c.node, .int .i64 c.n0, .int .i64 c.n1, .int .i64 c.n2]] w
      (DoOut w base bm v es 0 1) := by
  obtain ⟨k, cv, ce, cs, cn, c0, c1, c2⟩ := c
  have h1' : k = 1 := h1
  subst h1'
  clear h1
  have HT := Lib.hid h2
  clear h2
  have H := Lib.hid h
  clear h
  have hthree : ∀ wx : World, Calls Try.prog 55 #[.agg #[.int .i64 c0, .int .i64 c1, .int .i64 c2]] wx fun e w' => e = .returned (.bool false) ∧ Below wx.heap.size wx w' := fun wx => by
    have := three_any c0 c1 c2 wx
    rwa [HT.out] at this
  have HTH := Lib.hid hthree
  clear hthree
  go_enter Try.func16, Try.ntmps16
  go_wp2_with (
    go_at_call 55
    refine (HTH.out _).mono ?_
    rintro e w1 ⟨rfl, hb⟩
    have HK := Lib.hid (Below.trans (B := w.heap.size) (a := w) (by repeat (first | (with_reducible exact Below.refl _ _) | (with_reducible refine Below.setCell ?_ ?_ _) | (with_reducible refine Below.alloc ?_ ?_ _) | (with_reducible refine Below.drewN ?_ _) | (with_reducible refine Below.drew ?_) | (with_reducible exact Nat.le_refl _) | (focus (simp only [World.size_alloc, World.size_setCell, World.size_drew, World.size_drewN]; omega)) | omega | exact Nat.le_refl _ | (focus (simp; done)) | (focus (simp; omega)))) (hb.mono (by simp)))
    clear hb)
  go_ret2
  exact DoOut.same H.out rfl HK.out
set_option maxRecDepth 100000 in
set_option maxHeartbeats 1000000 in
theorem do_full (base bm : Nat) (v : Value) (es : List Ent) (c : Cmd) (w : World) (h : MapAt w base bm v es) (h1 : c.kind = 1) (h2 : threeB c.n0 c.n1 c.n2 = true) (h3 : 4096 ≤ es.length) :
    Calls Try.prog 16 #[.pointer (some ⟨bm, 0, none⟩), .agg #[.int .i64 c.kind, .int .i64 c.vol, .int .i64 c.epoch, .int .i64 c.spot, .int .i64 c.node, .int .i64 c.n0, .int .i64 c.n1, .int .i64 c.n2]] w
      (DoOut w base bm v es 0 11) := by
  obtain ⟨k, cv, ce, cs, cn, c0, c1, c2⟩ := c
  have h1' : k = 1 := h1
  subst h1'
  clear h1
  have HT := Lib.hid h2
  clear h2
  obtain ⟨a, cap, hv⟩ := ownsRow_len h.row
  have hlt := h.lt
  have hn3 : ¬ (es.length : Int) < 4096 := by omega
  subst hv
  have H := Lib.hid h
  clear h
  have hthree : ∀ wx : World, Calls Try.prog 55 #[.agg #[.int .i64 c0, .int .i64 c1, .int .i64 c2]] wx fun e w' => e = .returned (.bool true) ∧ Below wx.heap.size wx w' := fun wx => by
    have := three_any c0 c1 c2 wx
    rwa [HT.out] at this
  have HTH := Lib.hid hthree
  clear hthree
  generalize hn : es.length = n at *
  have HN := Lib.hid hn
  clear hn
  go_enter Try.func16, Try.ntmps16
  go_wp2_with (
    go_at_call 55
    refine (HTH.out _).mono ?_
    rintro e w1 ⟨rfl, hb⟩
    have kc := ((H.out.below (by repeat (first | (with_reducible exact Below.refl _ _) | (with_reducible refine Below.setCell ?_ ?_ _) | (with_reducible refine Below.alloc ?_ ?_ _) | (with_reducible refine Below.drewN ?_ _) | (with_reducible refine Below.drew ?_) | (with_reducible exact Nat.le_refl _) | (focus (simp only [World.size_alloc, World.size_setCell, World.size_drew, World.size_drewN]; omega)) | omega | exact Nat.le_refl _ | (focus (simp; done)) | (focus (simp; omega))))).below hb).cell
    have HK := Lib.hid (Below.trans (B := w.heap.size) (a := w) (by repeat (first | (with_reducible exact Below.refl _ _) | (with_reducible refine Below.setCell ?_ ?_ _) | (with_reducible refine Below.alloc ?_ ?_ _) | (with_reducible refine Below.drewN ?_ _) | (with_reducible refine Below.drew ?_) | (with_reducible exact Nat.le_refl _) | (focus (simp only [World.size_alloc, World.size_setCell, World.size_drew, World.size_drewN]; omega)) | omega | exact Nat.le_refl _ | (focus (simp; done)) | (focus (simp; omega)))) (hb.mono (by simp)))
    clear hb)
  go_ret2
  exact DoOut.same H.out rfl HK.out
set_option maxRecDepth 100000 in
set_option maxHeartbeats 2000000 in
theorem do_none (base bm : Nat) (v : Value) (es : List Ent) (c : Cmd) (w : World) (h : MapAt w base bm v es) (h1 : c.kind = 2 ∨ c.kind = 3 ∨ c.kind = 4) (h2 : c.vol < 1 ∨ es.length < c.vol) :
    Calls Try.prog 16 #[.pointer (some ⟨bm, 0, none⟩), .agg #[.int .i64 c.kind, .int .i64 c.vol, .int .i64 c.epoch, .int .i64 c.spot, .int .i64 c.node, .int .i64 c.n0, .int .i64 c.n1, .int .i64 c.n2]] w
      (DoOut w base bm v es 0 6) := by
  obtain ⟨k, cv, ce, cs, cn, c0, c1, c2⟩ := c
  have H := Lib.hid h
  clear h
  have HV := Lib.hid h2
  clear h2
  have h1' : k = 2 ∨ k = 3 ∨ k = 4 := h1
  clear h1
  rcases h1' with rfl | rfl | rfl
  all_goals
    go_enter Try.func16, Try.ntmps16
    go_wp2_with (
      go_at_call 19
      refine (find_no base bm v es cv _ (H.out.below (by repeat (first | (with_reducible exact Below.refl _ _) | (with_reducible refine Below.setCell ?_ ?_ _) | (with_reducible refine Below.alloc ?_ ?_ _) | (with_reducible refine Below.drewN ?_ _) | (with_reducible refine Below.drew ?_) | (with_reducible exact Nat.le_refl _) | (focus (simp only [World.size_alloc, World.size_setCell, World.size_drew, World.size_drewN]; omega)) | omega | exact Nat.le_refl _ | (focus (simp; done)) | (focus (simp; omega))))) HV.out).mono ?_
      rintro e w1 ⟨rfl, hb⟩
      have HK := Lib.hid (Below.trans (B := w.heap.size) (a := w) (by repeat (first | (with_reducible exact Below.refl _ _) | (with_reducible refine Below.setCell ?_ ?_ _) | (with_reducible refine Below.alloc ?_ ?_ _) | (with_reducible refine Below.drewN ?_ _) | (with_reducible refine Below.drew ?_) | (with_reducible exact Nat.le_refl _) | (focus (simp only [World.size_alloc, World.size_setCell, World.size_drew, World.size_drewN]; omega)) | omega | exact Nat.le_refl _ | (focus (simp; done)) | (focus (simp; omega)))) (hb.mono (by simp)))
      clear hb)
    go_ret2
    have hzz := HK.out.size
    exact DoOut.same H.out rfl (HK.out.trans (by repeat (first | (with_reducible exact Below.refl _ _) | (with_reducible refine Below.setCell ?_ ?_ _) | (with_reducible refine Below.alloc ?_ ?_ _) | (with_reducible refine Below.drewN ?_ _) | (with_reducible refine Below.drew ?_) | (with_reducible exact Nat.le_refl _) | (focus (simp only [World.size_alloc, World.size_setCell, World.size_drew, World.size_drewN]; omega)) | omega | exact Nat.le_refl _ | (focus (simp; done)) | (focus (simp; omega)))))
set_option maxRecDepth 100000 in
set_option maxHeartbeats 2000000 in
theorem do_stale (base bm : Nat) (v : Value) (es : List Ent) (c : Cmd) (j : Nat) (x : Ent) (w : World) (h : MapAt w base bm v es) (h1 : c.kind = 2 ∨ c.kind = 3 ∨ c.kind = 4) (h2 : c.vol = (j : Int) + 1) (hx : es[j]? = some x) (he : x.epoch ≠ c.epoch) :
    Calls Try.prog 16 #[.pointer (some ⟨bm, 0, none⟩), .agg #[.int .i64 c.kind, .int .i64 c.vol, .int .i64 c.epoch, .int .i64 c.spot, .int .i64 c.node, .int .i64 c.n0, .int .i64 c.n1, .int .i64 c.n2]] w
      (DoOut w base bm v es 0 13) := by
  obtain ⟨k, cv, ce, cs, cn, c0, c1, c2⟩ := c
  have h2' : cv = (j : Int) + 1 := h2
  subst h2'
  clear h2
  have hq : (x.epoch == ce) = false := by simpa using he
  have hq' : (x.epoch != ce) = true := by simpa using he
  clear he
  have H := Lib.hid h
  clear h
  have HX := Lib.hid hx
  clear hx
  have h1' : k = 2 ∨ k = 3 ∨ k = 4 := h1
  clear h1
  rcases h1' with rfl | rfl | rfl
  all_goals
    go_enter Try.func16, Try.ntmps16
    go_wp2_with (
      go_at_call 19
      refine (find_yes base bm v es j x _ (H.out.below (by repeat (first | (with_reducible exact Below.refl _ _) | (with_reducible refine Below.setCell ?_ ?_ _) | (with_reducible refine Below.alloc ?_ ?_ _) | (with_reducible refine Below.drewN ?_ _) | (with_reducible refine Below.drew ?_) | (with_reducible exact Nat.le_refl _) | (focus (simp only [World.size_alloc, World.size_setCell, World.size_drew, World.size_drewN]; omega)) | omega | exact Nat.le_refl _ | (focus (simp; done)) | (focus (simp; omega))))) HX.out).mono ?_
      rintro e w1 ⟨rfl, hb⟩
      have hz1 := hb.size
      simp only [World.size_alloc] at hz1
      have hz2 : w.heap.size < w1.heap.size := by omega
      have kb : w1.cell? ⟨w.heap.size, 2, none⟩ = some (.int .i64 ce) := by rw [hb.cell (by simp)]; simp
      have HK := Lib.hid (Below.trans (B := w.heap.size) (a := w) (by repeat (first | (with_reducible exact Below.refl _ _) | (with_reducible refine Below.setCell ?_ ?_ _) | (with_reducible refine Below.alloc ?_ ?_ _) | (with_reducible refine Below.drewN ?_ _) | (with_reducible refine Below.drew ?_) | (with_reducible exact Nat.le_refl _) | (focus (simp only [World.size_alloc, World.size_setCell, World.size_drew, World.size_drewN]; omega)) | omega | exact Nat.le_refl _ | (focus (simp; done)) | (focus (simp; omega)))) (hb.mono (by simp)))
      clear hb hz1)
    go_ret2
    have hzz := HK.out.size
    exact DoOut.same H.out rfl (HK.out.trans (by repeat (first | (with_reducible exact Below.refl _ _) | (with_reducible refine Below.setCell ?_ ?_ _) | (with_reducible refine Below.alloc ?_ ?_ _) | (with_reducible refine Below.drewN ?_ _) | (with_reducible refine Below.drew ?_) | (with_reducible exact Nat.le_refl _) | (focus (simp only [World.size_alloc, World.size_setCell, World.size_drew, World.size_drewN]; omega)) | omega | exact Nat.le_refl _ | (focus (simp; done)) | (focus (simp; omega)))))
end Go.Proofs.Ytigkcbnlbdiimaa
