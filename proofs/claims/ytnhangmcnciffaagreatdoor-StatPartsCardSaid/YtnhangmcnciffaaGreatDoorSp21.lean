/- Joined texts: Stat2, Stat4. -/
import Derived.Test.YtnhangmcnciffaaGreatDoorSp19
import Derived.Test.YtnhangmcnciffaaGreatDoorSp4
/- stat.Of; reference 26.Of. -/
namespace Go.Proofs.YtnhangmcnciffaaGreatDoor
set_option maxRecDepth 100000
set_option maxHeartbeats 8000000
open Go.RowKit
def oneV (v : Vl) : Value := .agg #[.int .i64 v.num, .int .i64 v.size, .int .i64 (leastN v.idx), .int .i64 ((v.size : Int) - (leastN v.idx : Int)), .int .i64 (shareI ((v.size : Int) - (leastN v.idx : Int)) v.size)]
theorem stof_nil (w : World) : Calls Tryz.prog 12 #[.pointer none] w fun e w' => e = .returned (.tuple #[.agg #[.int .i64 0, .int .i64 0, .int .i64 0, .int .i64 0, .int .i64 0], errV 15]) ∧ Below w.heap.size w w' := by
  go_enter Tryz.func12, Tryz.ntmps12
  go_wp2_with fail
  refine bodyPost_ret (v := ?_) ?_ rfl ?_
  rotate_left; (focus (simp [results, Tryz.results12, go_sem]; exact rfl))
  exact ⟨rfl, (by repeat (first | (with_reducible first | exact .refl _ _ | refine .setCell ?_ ?_ _ | refine .alloc ?_ ?_ _ | refine .drewN ?_ _ | refine .drew ?_ | exact Nat.le_refl _) | (focus (simp only [World.size_alloc, World.size_setCell, World.size_drew, World.size_drewN]; omega)) | omega | exact Nat.le_refl _ | (focus (simp; done)) | (focus (simp; omega))))⟩
theorem free5 {w : World} {b : Nat} {c0 c1 c2 c3 c4 : Value} {t : TypeId} (h : w.heap[b]? = some (.cells #[c0, c1, c2, c3, c4] t (0, 0))) :
    w.frozen? ⟨b, 0, none⟩ = false ∧ w.frozen? ⟨b, 1, none⟩ = false ∧ w.frozen? ⟨b, 2, none⟩ = false ∧ w.frozen? ⟨b, 3, none⟩ = false ∧ w.frozen? ⟨b, 4, none⟩ = false :=
  ⟨frozen_of_row w b 0 _ _ h, frozen_of_row w b 1 _ _ h, frozen_of_row w b 2 _ _ h, frozen_of_row w b 3 _ _ h, frozen_of_row w b 4 _ _ h⟩
theorem stof_any {w : World} {vp dp ix : Nat} {vx : Value} {v : Vl} (h : VolAt w vp dp ix vx v) (hp : ∀ p ∈ v.idx, p.len ≤ 4096) (hs : 1 ≤ v.size ∧ v.size ≤ 100000000) (hl : leastN v.idx ≤ 100000000) :
    Calls Tryz.prog 12 #[(.pointer (some ⟨vp, 0, none⟩))] w fun e w' => e = .returned (.tuple #[oneV v, .nilIface]) ∧ Below w.heap.size w w' := by
  have HIF := Lib.hid (fun (w0 : World) (hb : Below w.heap.size w w0) => show Calls Tryz.prog 15 #[(.pointer (some ⟨vp, 0, none⟩))] w0 fun e w' => e = .returned (infoV v) ∧ Below w0.heap.size w0 w' from info_any (h.below hb))
  have HLS := Lib.hid (fun (w0 : World) (hb : Below w.heap.size w w0) => least_any (h.below hb) hp)
  have HSH := Lib.hid (fun w0 : World => share_any ((v.size : Int) - (leastN v.idx : Int)) v.size (by omega) (by omega) w0)
  have hlt := h.lt
  unfold infoV at HIF
  unfold oneV
  obtain ⟨L, hL⟩ : ∃ L, L = leastN v.idx := ⟨_, rfl⟩
  rw [← hL] at HLS HSH hl ⊢
  obtain ⟨num, gen, epoch, shut, most, size, idx⟩ := v
  simp only at HIF HLS HSH hs ⊢
  obtain ⟨lv, hlv⟩ : ∃ lv, lv = idx.length - goneN idx := ⟨_, rfl⟩
  obtain ⟨gn, hgn⟩ : ∃ gn, gn = goneN idx := ⟨_, rfl⟩
  rw [← hlv, ← hgn] at HIF
  clear h hp hL hlv hgn
  go_enter Tryz.func12, Tryz.ntmps12
  go_wp2_with fail
  obtain ⟨w0, hw0⟩ : ∃ w0 : World, w0 = w.alloc (.cells #[.int .i64 0, .int .i64 0, .int .i64 0, .int .i64 0, .int .i64 0] 34) := ⟨_, rfl⟩
  have HB0 := Lib.hid (show Below w.heap.size w w0 by rw [hw0]; exact (by repeat (first | (with_reducible first | exact .refl _ _ | refine .setCell ?_ ?_ _ | refine .alloc ?_ ?_ _ | refine .drewN ?_ _ | refine .drew ?_ | exact Nat.le_refl _) | (focus (simp only [World.size_alloc, World.size_setCell, World.size_drew, World.size_drewN]; omega)) | omega | exact Nat.le_refl _ | (focus (simp; done)) | (focus (simp; omega)))))
  have KR0 := Lib.hid (show w0.heap[w.heap.size]? = some (.cells #[.int .i64 0, .int .i64 0, .int .i64 0, .int .i64 0, .int .i64 0] 34 (0, 0)) by rw [hw0]; exact heap_new w _)
  rw [← hw0]
  clear hw0
  refine (HIF.out w0 HB0.out).mono ?_
  rintro e w1 ⟨rfl, hb⟩
  have KR1 := Lib.hid (blk_below' KR0.out hb)
  have HB1 := Lib.hid (HB0.out.trans (hb.mono HB0.out.size))
  clear hb
  go_wp2_with fail
  refine (HLS.out w1 HB1.out).mono ?_
  rintro e w2 ⟨rfl, hb⟩
  have KR2 := Lib.hid (blk_below' KR1.out hb)
  have HB2 := Lib.hid (HB1.out.trans (hb.mono HB1.out.size))
  clear hb
  go_wp2_with fail
  obtain ⟨w3, hw3⟩ : ∃ w3 : World, w3 = w2.alloc (.cells #[.int .i64 num, .int .i64 gen, .int .i64 epoch, .int .i64 size, .int .i64 lv, .int .i64 gn, .bool shut] 46) := ⟨_, rfl⟩
  have hb3 : Below w2.heap.size w2 w3 := by rw [hw3]; exact (by repeat (first | (with_reducible first | exact .refl _ _ | refine .setCell ?_ ?_ _ | refine .alloc ?_ ?_ _ | refine .drewN ?_ _ | refine .drew ?_ | exact Nat.le_refl _) | (focus (simp only [World.size_alloc, World.size_setCell, World.size_drew, World.size_drewN]; omega)) | omega | exact Nat.le_refl _ | (focus (simp; done)) | (focus (simp; omega))))
  have KI3 := Lib.hid (show w3.heap[w2.heap.size]? = some (.cells #[.int .i64 num, .int .i64 gen, .int .i64 epoch, .int .i64 size, .int .i64 lv, .int .i64 gn, .bool shut] 46 (0, 0)) by rw [hw3]; exact heap_new w2 _)
  have KR3 := Lib.hid (blk_below' KR2.out hb3)
  have HB3 := Lib.hid (HB2.out.trans (hb3.mono HB2.out.size))
  rw [← hw3]
  clear hw3 hb3
  obtain ⟨IB, hIB⟩ : ∃ IB, IB = w2.heap.size := ⟨_, rfl⟩
  rw [← hIB] at KI3 ⊢
  clear hIB
  obtain ⟨q0, q1, q2, q3, q4⟩ := cells5t KR3.out
  obtain ⟨f0, f1, f2, f3, f4⟩ := free5 KR3.out
  have hlr := blk_lt KR3.out
  obtain ⟨SS, HSD⟩ : ∃ SS : World → Prop, Hid (SS = fun w' => w' = w3.drew ∧ True) := ⟨_, Lib.hid rfl⟩
  refine wp_region_mask0 SS [1, 3, 8] [0, 1, 0, 4, 0, 0, 0, 0, 128, 448, 1023, 2047, 4095] (.op 0 0 (.op 1 2 (.op 2 0 (.op 3 2 (.op 4 0 (.op 5 0 (.op 6 0 (.op 7 0 (.op 8 2 (.op 9 1 (.op 10 0 (.op 11 1 (.op 12 0 .nil))))))))))))) (by kernel_rfl) (by kernel_rfl) rfl (by kernel_rfl) (by kernel_rfl) ?_ ?_
  (focus (rw [HSD.out]; exact ⟨rfl, trivial⟩)); refine stepM0 rfl rfl fun K hK => ?_; go_simp; refine hK _ ?_; clear hK K; refine stepM2 rfl rfl ?_ (fun w1 hS => ?_) fun K hK => ?_; rotate_left; (focus (rw [HSD.out] at hS; obtain ⟨rfl, -⟩ := hS; obtain ⟨i0, i1, i2, i3, i4, i5, i6⟩ := cells7' KI3.out; have hli := blk_lt KI3.out; go_simp; rfl)); go_simp; refine hK _ ?_; clear hK K; refine stepM0 rfl rfl fun K hK => ?_; go_simp; refine hK _ ?_; clear hK K; refine stepM2 rfl rfl ?_ (fun w1 hS => ?_) fun K hK => ?_; rotate_left; (focus (rw [HSD.out] at hS; obtain ⟨rfl, -⟩ := hS; obtain ⟨i0, i1, i2, i3, i4, i5, i6⟩ := cells7' KI3.out; have hli := blk_lt KI3.out; go_simp; rfl)); go_simp; refine hK _ ?_; clear hK K; refine stepM0 rfl rfl fun K hK => ?_; go_simp; refine hK _ ?_; clear hK K; refine stepM0 rfl rfl fun K hK => ?_; go_simp; refine hK _ ?_; clear hK K; refine stepM0 rfl rfl fun K hK => ?_; go_simp; refine hK _ ?_; clear hK K; refine stepM0 rfl rfl fun K hK => ?_; go_simp; refine hK _ ?_; clear hK K; refine stepM2 rfl rfl ?_ (fun w1 hS => ?_) fun K hK => ?_; rotate_left; (focus (rw [HSD.out] at hS; obtain ⟨rfl, -⟩ := hS; obtain ⟨i0, i1, i2, i3, i4, i5, i6⟩ := cells7' KI3.out; have hli := blk_lt KI3.out; go_simp; rfl)); go_simp; refine hK _ ?_; clear hK K; refine stepM1S rfl rfl fun K hK => ?_
  (go_wp2_with fail; refine (HSH.out _).mono ?_; rintro e wx ⟨rfl, rfl⟩; go_wp2)
  refine ⟨by rw [HSD.out]; exact (⟨rfl, trivial⟩), ?_⟩
  refine stepM0 rfl rfl fun K hK => ?_; go_simp; refine hK _ ?_; clear hK K; refine stepM1 rfl rfl (by kernel_rfl) fun K hK => ?_; go_wp2; refine stepM0 rfl rfl fun K hK => ?_; go_simp; refine hK _ ?_; clear hK K
  try refine stepMnil0 ?_
  clear HSD SS
  go_wp2_with fail
  obtain ⟨wx, hwx⟩ : ∃ wx, wx = set5 w3 w.heap.size (.int .i64 num) (.int .i64 size) (.int .i64 L) (.int .i64 ((size : Int) - (L : Int))) (.int .i64 (shareI ((size : Int) - (L : Int)) size)) := ⟨_, rfl⟩
  have HBX := Lib.hid (show Below w.heap.size w wx by rw [hwx]; exact HB3.out.trans (set5_below (Nat.le_refl _) _ _ _ _ _))
  have kbx := store5 (KR3.out) (.int .i64 num) (.int .i64 size) (.int .i64 L) (.int .i64 ((size : Int) - (L : Int))) (.int .i64 (shareI ((size : Int) - (L : Int)) size))
  rw [← hwx] at kbx
  unfold set5 at hwx
  rw [← hwx]
  clear hwx
  obtain ⟨s0, s1, s2, s3, s4⟩ := cells5t (blk_drew kbx)
  refine bodyPost_ret (v := ?_) ?_ rfl ?_
  rotate_left; (focus (simp [results, Tryz.results12, go_sem, s0, s1, s2, s3, s4]; exact rfl))
  exact ⟨rfl, HBX.out.drew⟩
end Go.Proofs.YtnhangmcnciffaaGreatDoor

/- stat.Together. -/
namespace Go.Proofs.YtnhangmcnciffaaGreatDoor
set_option maxRecDepth 100000
set_option maxHeartbeats 8000000
open Go.RowKit
structure Sm where
  vols : Int
  size : Int
  least : Int
  waste : Int
  live : Int
  gone : Int
def Sm.add (s : Sm) (v : Vl) : Sm := ⟨s.vols + 1, s.size + v.size, s.least + leastN v.idx, s.waste + ((v.size : Int) - leastN v.idx), s.live + ((v.idx.length - goneN v.idx : Nat) : Int), s.gone + goneN v.idx⟩
def Sm.put (s : Sm) : Option (Nat × Vl) → Sm
  | none => s
  | some p => s.add p.2
def sumL (l : List (Option (Nat × Vl))) : Sm := l.foldl Sm.put ⟨0, 0, 0, 0, 0, 0⟩
def ptrO : Option (Nat × Vl) → Value
  | none => .pointer none
  | some p => (.pointer (some ⟨p.1, 0, none⟩))
def Sm.val (s : Sm) (sh : Int) : Value := .agg #[.int .i64 s.vols, .int .i64 s.size, .int .i64 s.least, .int .i64 s.waste, .int .i64 sh, .int .i64 s.live, .int .i64 s.gone]
def StAt (w : World) (p : Nat × Vl) : Prop := (∃ dp ix vx, VolAt w p.1 dp ix vx p.2) ∧ (∀ q ∈ p.2.idx, q.len ≤ 4096) ∧ (1 ≤ p.2.size ∧ p.2.size ≤ 100000000) ∧ leastN p.2.idx ≤ 100000000 ∧ p.2.idx.length ≤ 4096
theorem StAt.below {w w' : World} {p : Nat × Vl} (h : StAt w p) (hb : Below w.heap.size w w') : StAt w' p := by
  obtain ⟨⟨dp, ix, vx, h1⟩, h2⟩ := h
  exact ⟨⟨dp, ix, vx, h1.below hb⟩, h2⟩
def Sm.Bd (s : Sm) (k : Nat) : Prop := (0 ≤ s.vols ∧ s.vols ≤ k) ∧ (0 ≤ s.size ∧ s.size ≤ 100000000 * k) ∧ (0 ≤ s.least ∧ s.least ≤ 100000000 * k) ∧ (-100000000 * k ≤ s.waste ∧ s.waste ≤ 100000000 * k) ∧ (0 ≤ s.live ∧ s.live ≤ 100000000 * k) ∧ (0 ≤ s.gone ∧ s.gone ≤ 100000000 * k)
theorem Sm.Bd.put {w : World} {s : Sm} {k : Nat} (h : s.Bd k) {o : Option (Nat × Vl)} (ho : ∀ p, o = some p → StAt w p) : (s.put o).Bd (k + 1) := by
  obtain ⟨h1, h2, h3, h4, h5, h6⟩ := h
  cases o with
  | none => refine ⟨?_, ?_, ?_, ?_, ?_, ?_⟩ <;> (simp only [Sm.put]; push_cast; omega)
  | some p =>
    obtain ⟨-, -, g1, g2, g3⟩ := ho p rfl
    have g4 : goneN p.2.idx ≤ p.2.idx.length := List.countP_le_length
    refine ⟨?_, ?_, ?_, ?_, ?_, ?_⟩ <;> (simp only [Sm.put, Sm.add]; push_cast; omega)
theorem sumL_take {l : List (Option (Nat × Vl))} {k : Nat} {o : Option (Nat × Vl)} (h : l[k]? = some o) : sumL (l.take (k + 1)) = (sumL (l.take k)).put o := by
  unfold sumL
  rw [List.take_add_one, h, List.foldl_append]
  rfl
def setSm (w : World) (b : Nat) (u0 u1 u2 u3 u5 u6 : Value) : World := (((((w.setCell ⟨b, 0, none⟩ u0).setCell ⟨b, 1, none⟩ u1).setCell ⟨b, 2, none⟩ u2).setCell ⟨b, 3, none⟩ u3).setCell ⟨b, 5, none⟩ u5).setCell ⟨b, 6, none⟩ u6
theorem storeSm {w : World} {b : Nat} {v0 v1 v2 v3 v4 v5 v6 : Value} {t : TypeId} (h : w.heap[b]? = some (.cells #[v0, v1, v2, v3, v4, v5, v6] t (0, 0))) (u0 u1 u2 u3 u5 u6 : Value) : (setSm w b u0 u1 u2 u3 u5 u6).heap[b]? = some (.cells #[u0, u1, u2, u3, v4, u5, u6] t (0, 0)) := by
  have h0 : (w.setCell ⟨b, 0, none⟩ u0).heap[b]? = some (.cells #[u0, v1, v2, v3, v4, v5, v6] t (0, 0)) := by simpa using heap_setCell_same w b 0 _ t u0 h
  have h1 : ((w.setCell ⟨b, 0, none⟩ u0).setCell ⟨b, 1, none⟩ u1).heap[b]? = some (.cells #[u0, u1, v2, v3, v4, v5, v6] t (0, 0)) := by simpa using heap_setCell_same _ b 1 _ t u1 h0
  have h2 : (((w.setCell ⟨b, 0, none⟩ u0).setCell ⟨b, 1, none⟩ u1).setCell ⟨b, 2, none⟩ u2).heap[b]? = some (.cells #[u0, u1, u2, v3, v4, v5, v6] t (0, 0)) := by simpa using heap_setCell_same _ b 2 _ t u2 h1
  have h3 : ((((w.setCell ⟨b, 0, none⟩ u0).setCell ⟨b, 1, none⟩ u1).setCell ⟨b, 2, none⟩ u2).setCell ⟨b, 3, none⟩ u3).heap[b]? = some (.cells #[u0, u1, u2, u3, v4, v5, v6] t (0, 0)) := by simpa using heap_setCell_same _ b 3 _ t u3 h2
  have h5 : (((((w.setCell ⟨b, 0, none⟩ u0).setCell ⟨b, 1, none⟩ u1).setCell ⟨b, 2, none⟩ u2).setCell ⟨b, 3, none⟩ u3).setCell ⟨b, 5, none⟩ u5).heap[b]? = some (.cells #[u0, u1, u2, u3, v4, u5, v6] t (0, 0)) := by simpa using heap_setCell_same _ b 5 _ t u5 h3
  simpa [setSm] using heap_setCell_same _ b 6 _ t u6 h5
theorem setSm_below {B b : Nat} {w : World} (h : B ≤ b) (u0 u1 u2 u3 u5 u6 : Value) : Below B w (setSm w b u0 u1 u2 u3 u5 u6) := by
  unfold setSm
  exact (by repeat (first | (with_reducible first | exact .refl _ _ | refine .setCell ?_ ?_ _ | refine .alloc ?_ ?_ _ | refine .drewN ?_ _ | refine .drew ?_ | exact Nat.le_refl _) | (focus (simp only [World.size_alloc, World.size_setCell, World.size_drew, World.size_drewN]; omega)) | omega | exact Nat.le_refl _ | (focus (simp; done)) | (focus (simp; omega))))
theorem tog_any (a : Option Addr) (n c : Nat) (l : List (Option (Nat × Vl))) (w : World) (hn : l.length = n) (h8 : n ≤ 8) (hr : Reads w 1 (.slice a n c) n (l.map ptrO)) (ho : ∀ p, some p ∈ l → StAt w p) :
    Calls Tryz.prog 14 #[.slice a n c] w fun e w' => e = .returned ((sumL l).val (shareI (sumL l).waste (sumL l).size)) ∧ Below w.heap.size w w' := by
  have HN := Lib.hid hn
  have HR := Lib.hid hr
  have HO := Lib.hid ho
  have HBD := Lib.hid (show ∀ k, k ≤ n → (sumL (l.take k)).Bd k from fun k => by
    induction k with
    | zero => intro _; simp [sumL, Sm.Bd]
    | succ k ih =>
      intro hk
      obtain ⟨o, hx⟩ : ∃ o, l[k]? = some o := ⟨_, List.getElem?_eq_getElem (by omega)⟩
      rw [sumL_take hx]
      exact (ih (by omega)).put (w := w) (fun p e => ho p (e ▸ List.mem_of_getElem? hx)))
  clear hn hr ho
  go_enter Tryz.func14, Tryz.ntmps14
  go_upto_region 2 with fail
  obtain ⟨w0, hw0⟩ : ∃ w0 : World, w0 = (w.alloc (.cells #[.int .i64 0, .int .i64 0, .int .i64 0, .int .i64 0, .int .i64 0, .int .i64 0, .int .i64 0] 42)).alloc (.cells #[.int .i64 0, .int .i64 0, .int .i64 0, .int .i64 0, .int .i64 0, .int .i64 0, .int .i64 0] 42) := ⟨_, rfl⟩
  have HB0 := Lib.hid (show Below w.heap.size w w0 by rw [hw0]; exact (by repeat (first | (with_reducible first | exact .refl _ _ | refine .setCell ?_ ?_ _ | refine .alloc ?_ ?_ _ | refine .drewN ?_ _ | refine .drew ?_ | exact Nat.le_refl _) | (focus (simp only [World.size_alloc, World.size_setCell, World.size_drew, World.size_drewN]; omega)) | omega | exact Nat.le_refl _ | (focus (simp; done)) | (focus (simp; omega)))))
  have KR0 := Lib.hid (show w0.heap[w.heap.size]? = some (.cells #[.int .i64 0, .int .i64 0, .int .i64 0, .int .i64 0, .int .i64 0, .int .i64 0, .int .i64 0] 42 (0, 0)) by rw [hw0]; exact (by repeat (first | (with_reducible refine blk_drew ?_) | (with_reducible refine blk_drewN _ ?_) | ((with_reducible refine blk_new _ ?_); (focus (simp; done))) | (with_reducible refine blk_alloc ?_ _))))
  have KS0 := Lib.hid (show w0.heap[w.heap.size + 1]? = some (.cells #[.int .i64 0, .int .i64 0, .int .i64 0, .int .i64 0, .int .i64 0, .int .i64 0, .int .i64 0] 42 (0, 0)) by rw [hw0]; exact (by repeat (first | (with_reducible refine blk_drew ?_) | (with_reducible refine blk_drewN _ ?_) | ((with_reducible refine blk_new _ ?_); (focus (simp; done))) | (with_reducible refine blk_alloc ?_ _))))
  rw [← hw0]
  clear hw0
  obtain ⟨RB, hRB⟩ : ∃ RB, RB = w.heap.size := ⟨_, rfl⟩
  have hRl : w.heap.size ≤ RB := by omega
  have hSl : w.heap.size ≤ RB + 1 := by omega
  rw [← hRB] at KR0 KS0 ⊢
  clear hRB
  go_wp2_with fail
  go_loopw [11] (fun i wr => ∃ k : Nat, k ≤ n ∧ i = .int .i64 k ∧ Below w.heap.size w wr ∧ wr.heap[RB]? = some (.cells #[.int .i64 0, .int .i64 0, .int .i64 0, .int .i64 0, .int .i64 0, .int .i64 0, .int .i64 0] 42 (0, 0)) ∧ wr.heap[RB + 1]? = some (.cells #[.int .i64 (sumL (l.take k)).vols, .int .i64 (sumL (l.take k)).size, .int .i64 (sumL (l.take k)).least, .int .i64 (sumL (l.take k)).waste, .int .i64 0, .int .i64 (sumL (l.take k)).live, .int .i64 (sumL (l.take k)).gone] 42 (0, 0))) (fun i _ => n - (intOf i).toNat)
  case atStart => exact ⟨0, Nat.zero_le _, rfl, HB0.out, KR0.out, KS0.out⟩
  case round =>
    obtain ⟨k, hk, rfl, hbr, hrr, hsr⟩ := hrel
    have HB := Lib.hid hbr
    have hzr := hbr.size
    have KR := Lib.hid hrr
    have hbd := HBD.out k hk
    obtain ⟨S, hS⟩ : ∃ S, S = sumL (l.take k) := ⟨_, rfl⟩
    rw [← hS] at hsr hbd
    have HS := Lib.hid hS
    obtain ⟨t0, t1, t2, t3, t5, t6⟩ := S
    obtain ⟨b0, b1, b2, b3, b5, b6⟩ := hbd
    simp only at hsr b0 b1 b2 b3 b5 b6
    have KS := Lib.hid hsr
    clear hbr hrr hsr hS
    by_cases hlt : k < n
    · obtain ⟨o, hx⟩ : ∃ o, l[k]? = some o := ⟨_, List.getElem?_eq_getElem (by rw [HN.out]; exact hlt)⟩
      have HX := Lib.hid hx
      obtain ⟨b2', o2, c2, e2, hblt2, _, hcell⟩ := reads_at (HR.out.below HB.out) (by omega) (by omega)
      obtain ⟨rfl, -, rfl⟩ := sl_inj e2
      have rb := hcell k (ptrO o) (by rw [List.getElem?_map, hx]; rfl)
      have hj0 : (0 : Int) ≤ (k : Int) := by omega
      have hj1 : (k : Int) < (n : Int) := by omega
      clear hx e2 hcell
      cases o with
      | none =>
        simp only [ptrO] at rb
        go_wp2_with fail
        refine (stof_nil _).mono ?_
        rintro e wx ⟨rfl, hb⟩
        rw [errV_ne (show (15 : Int) ≠ 0 by decide)]
        have HBX := Lib.hid (HB.out.trans (hb.mono hzr))
        have KRX := Lib.hid (blk_below' KR.out hb)
        have KSX := Lib.hid (blk_below' KS.out hb)
        clear hb rb
        go_wp2_with fail
        go_roundw
        case rel =>
          refine ⟨k + 1, by omega, by go_num, HBX.out.alloc HBX.out.size _, blk_alloc KRX.out _, ?_⟩
          rw [sumL_take HX.out, ← HS.out]
          exact blk_alloc KSX.out _
        case measure => simp [intOf]; omega
      | some p =>
        obtain ⟨vp, v⟩ := p
        have HST := Lib.hid (HO.out (vp, v) (List.mem_of_getElem? HX.out))
        have HOF := Lib.hid (fun (w0 : World) (h0 : Below w.heap.size w w0) => show Calls Tryz.prog 12 #[(.pointer (some ⟨vp, 0, none⟩))] w0 fun e w' => e = .returned (.tuple #[oneV v, .nilIface]) ∧ Below w0.heap.size w0 w' by
          obtain ⟨⟨dp, ix, vx, g1⟩, g2, g3, g4, -⟩ := HST.out
          exact stof_any (g1.below h0) g2 g3 g4)
        have HIF := Lib.hid (fun (w0 : World) (h0 : Below w.heap.size w w0) => show Calls Tryz.prog 15 #[(.pointer (some ⟨vp, 0, none⟩))] w0 fun e w' => e = .returned (infoV v) ∧ Below w0.heap.size w0 w' by
          obtain ⟨⟨dp, ix, vx, g1⟩, -⟩ := HST.out
          exact info_any (g1.below h0))
        have HPUT := Lib.hid (show (Sm.put ⟨t0, t1, t2, t3, t5, t6⟩ (some (vp, v))) = ⟨t0 + 1, t1 + v.size, t2 + leastN v.idx, t3 + ((v.size : Int) - leastN v.idx), t5 + ((v.idx.length - goneN v.idx : Nat) : Int), t6 + goneN v.idx⟩ from rfl)
        have g3 := HST.out.2.2.1
        have g4 := HST.out.2.2.2.1
        have g5 := HST.out.2.2.2.2
        have g6 : goneN v.idx ≤ v.idx.length := List.countP_le_length
        simp only [ptrO] at rb
        unfold oneV at HOF
        unfold infoV at HIF
        simp only at g3 g4 g5
        obtain ⟨L, hL⟩ : ∃ L, L = leastN v.idx := ⟨_, rfl⟩
        obtain ⟨G, hG⟩ : ∃ G, G = goneN v.idx := ⟨_, rfl⟩
        obtain ⟨M, hM⟩ : ∃ M, M = v.idx.length - G := ⟨_, rfl⟩
        rw [← hG] at HIF HPUT g6
        rw [← hM] at HIF HPUT
        rw [← hL] at HOF HPUT g4
        have g7 : M ≤ 4096 := by omega
        have g8 : G ≤ 4096 := by omega
        clear HST hL hG hM g5 g6
        obtain ⟨num, gen, epoch, shut, most, size, idx⟩ := v
        simp only at HOF HIF HPUT g3
        obtain ⟨SH, hSH⟩ : ∃ SH, SH = shareI ((size : Int) - (L : Int)) size := ⟨_, rfl⟩
        rw [← hSH] at HOF
        clear hSH
        go_wp2_with fail
        refine (HOF.out wr HB.out).mono ?_
        rintro e wx ⟨rfl, hb⟩
        have HBX := Lib.hid (HB.out.trans (hb.mono hzr))
        have KRX := Lib.hid (blk_below' KR.out hb)
        have KSX := Lib.hid (blk_below' KS.out hb)
        clear hb rb
        go_upto_region 6 with fail
        obtain ⟨w2, hw2⟩ : ∃ w2 : World, w2 = wx.alloc (.cells #[.int .i64 num, .int .i64 size, .int .i64 L, .int .i64 ((size : Int) - (L : Int)), .int .i64 SH] 34) := ⟨_, rfl⟩
        have hb2 : Below wx.heap.size wx w2 := by rw [hw2]; exact (by repeat (first | (with_reducible first | exact .refl _ _ | refine .setCell ?_ ?_ _ | refine .alloc ?_ ?_ _ | refine .drewN ?_ _ | refine .drew ?_ | exact Nat.le_refl _) | (focus (simp only [World.size_alloc, World.size_setCell, World.size_drew, World.size_drewN]; omega)) | omega | exact Nat.le_refl _ | (focus (simp; done)) | (focus (simp; omega))))
        have KX2 := Lib.hid (show w2.heap[wx.heap.size]? = some (.cells #[.int .i64 num, .int .i64 size, .int .i64 L, .int .i64 ((size : Int) - (L : Int)), .int .i64 SH] 34 (0, 0)) by rw [hw2]; exact heap_new wx _)
        have KR2 := Lib.hid (blk_below' KRX.out hb2)
        have KS2 := Lib.hid (blk_below' KSX.out hb2)
        have HB2 := Lib.hid (HBX.out.trans (hb2.mono HBX.out.size))
        have hxl : RB + 1 < wx.heap.size := blk_lt KSX.out
        rw [← hw2]
        clear hw2 hb2
        obtain ⟨XB, hXB⟩ : ∃ XB, XB = wx.heap.size := ⟨_, rfl⟩
        rw [← hXB] at KX2 hxl ⊢
        clear hXB
        go_wp2_with fail
        refine (HIF.out w2 HB2.out).mono ?_
        rintro e w3 ⟨rfl, hb⟩
        have KX3 := Lib.hid (blk_below' KX2.out hb)
        have KR3 := Lib.hid (blk_below' KR2.out hb)
        have KS3 := Lib.hid (blk_below' KS2.out hb)
        have HB3 := Lib.hid (HB2.out.trans (hb.mono HB2.out.size))
        clear hb
        go_upto_region 8 with fail
        obtain ⟨w4, hw4⟩ : ∃ w4 : World, w4 = w3.alloc (.cells #[.int .i64 num, .int .i64 gen, .int .i64 epoch, .int .i64 size, .int .i64 M, .int .i64 G, .bool shut] 46) := ⟨_, rfl⟩
        have hb4 : Below w3.heap.size w3 w4 := by rw [hw4]; exact (by repeat (first | (with_reducible first | exact .refl _ _ | refine .setCell ?_ ?_ _ | refine .alloc ?_ ?_ _ | refine .drewN ?_ _ | refine .drew ?_ | exact Nat.le_refl _) | (focus (simp only [World.size_alloc, World.size_setCell, World.size_drew, World.size_drewN]; omega)) | omega | exact Nat.le_refl _ | (focus (simp; done)) | (focus (simp; omega))))
        have KI4 := Lib.hid (show w4.heap[w3.heap.size]? = some (.cells #[.int .i64 num, .int .i64 gen, .int .i64 epoch, .int .i64 size, .int .i64 M, .int .i64 G, .bool shut] 46 (0, 0)) by rw [hw4]; exact heap_new w3 _)
        have KX4 := Lib.hid (blk_below' KX3.out hb4)
        have KR4 := Lib.hid (blk_below' KR3.out hb4)
        have KS4 := Lib.hid (blk_below' KS3.out hb4)
        have HB4 := Lib.hid (HB3.out.trans (hb4.mono HB3.out.size))
        have hil : XB < w3.heap.size := blk_lt KX3.out
        rw [← hw4]
        clear hw4 hb4
        obtain ⟨IB, hIB⟩ : ∃ IB, IB = w3.heap.size := ⟨_, rfl⟩
        rw [← hIB] at KI4 hil ⊢
        clear hIB
        obtain ⟨s0, s1, s2, s3, s4, s5, s6⟩ := cells7' KS4.out
        obtain ⟨f0, f1, f2, f3, f4, f5, f6⟩ := free7 KS4.out
        obtain ⟨x0, x1, x2, x3, x4⟩ := cells5t KX4.out
        obtain ⟨i0, i1, i2, i3, i4, i5, i6⟩ := cells7' KI4.out
        have hls := blk_lt KS4.out
        have hlx := blk_lt KX4.out
        have hli := blk_lt KI4.out
        have hn1 : ¬ (RB + 1 = XB) := by omega
        have hn2 : ¬ (RB + 1 = IB) := by omega
        have hn3 : ¬ (XB = RB + 1) := by omega
        have hn4 : ¬ (IB = RB + 1) := by omega
        go_wp2_with fail
        go_roundw
        case rel =>
          refine ⟨k + 1, by omega, by go_num, ?_, ?_, ?_⟩
          · exact HB4.out.trans (setSm_below hSl _ _ _ _ _ _)
          · exact blk_set (blk_set (blk_set (blk_set (blk_set (blk_set KR4.out _ _ (by simp)) _ _ (by simp)) _ _ (by simp)) _ _ (by simp)) _ _ (by simp)) _ _ (by simp)
          · rw [sumL_take HX.out, ← HS.out, HPUT.out]
            exact storeSm KS4.out _ _ _ _ _ _
        case measure => simp [intOf]; omega
    · have hj1 : ¬ (k : Int) < (n : Int) := by omega
      have hj2 : decide ((k : Int) < (n : Int)) = false := by simp; omega
      have hj3 : decide (k < n) = false := by simp; omega
      have HE := Lib.hid (show ⟨t0, t1, t2, t3, t5, t6⟩ = sumL l by rw [HS.out, List.take_of_length_le (by rw [HN.out]; omega)])
      obtain ⟨s0, s1, s2, s3, s4, s5, s6⟩ := cells7' KS.out
      obtain ⟨f0, f1, f2, f3, f4, f5, f6⟩ := free7 KS.out
      obtain ⟨r0, r1, r2, r3, r4, r5, r6⟩ := cells7' KR.out
      obtain ⟨g0, g1, g2, g3, g4, g5, g6⟩ := free7 KR.out
      have hls := blk_lt KS.out
      have hlr := blk_lt KR.out
      have HSH := Lib.hid (show ∀ w0 : World, Calls Tryz.prog 55 #[.int .i64 t3, .int .i64 t1] w0 fun e w' => e = .returned (.int .i64 (shareI t3 t1)) ∧ w0 = w' from fun w0 => by
        by_cases h0 : t1 = 0
        · subst h0
          rw [show shareI t3 0 = 0 from if_pos rfl]
          exact share_zero t3 w0
        · exact share_any t3 t1 (by omega) (by omega) w0)
      obtain ⟨SH, hSH⟩ : ∃ SH, SH = shareI t3 t1 := ⟨_, rfl⟩
      rw [← hSH] at HSH
      have HSE := Lib.hid hSH
      clear hSH
      go_wp2_with fail
      refine (HSH.out _).mono ?_
      rintro e wx ⟨rfl, rfl⟩
      go_wp2_with fail
      obtain ⟨wx, hwx⟩ : ∃ wx, wx = set7i (wr.setCell ⟨RB + 1, 4, none⟩ (.int .i64 SH)) RB (.int .i64 t0) (.int .i64 t1) (.int .i64 t2) (.int .i64 t3) (.int .i64 SH) (.int .i64 t5) (.int .i64 t6) := ⟨_, rfl⟩
      have HBX := Lib.hid (show Below w.heap.size w wx by rw [hwx]; exact (HB.out.setCell hSl _).trans (set7i_below hRl _ _ _ _ _ _ _))
      have kbx := store7i (show (wr.setCell ⟨RB + 1, 4, none⟩ (.int .i64 SH)).heap[RB]? = _ from blk_set KR.out _ _ (by simp)) (.int .i64 t0) (.int .i64 t1) (.int .i64 t2) (.int .i64 t3) (.int .i64 SH) (.int .i64 t5) (.int .i64 t6)
      rw [← hwx] at kbx
      unfold set7i at hwx
      rw [← hwx]
      clear hwx
      clear s0 s1 s2 s3 s4 s5 s6
      obtain ⟨s0, s1, s2, s3, s4, s5, s6⟩ := cells7' kbx
      refine bodyPost_ret (v := ?_) ?_ rfl ?_
      rotate_left; (focus (simp [results, Tryz.results14, go_sem, s0, s1, s2, s3, s4, s5, s6]; exact rfl))
      exact ⟨by rw [← HE.out]; unfold Sm.val; simp only; rw [← HSE.out], HBX.out⟩
end Go.Proofs.YtnhangmcnciffaaGreatDoor
