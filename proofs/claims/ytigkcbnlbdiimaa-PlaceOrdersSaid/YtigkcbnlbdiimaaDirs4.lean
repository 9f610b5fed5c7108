/- The directory's command on a volume that is there. -/
import Derived.Test.YtigkcbnlbdiimaaDirs3
namespace Go.Proofs.Ytigkcbnlbdiimaa
open Go.RowKit
set_option maxRecDepth 100000 in
set_option maxHeartbeats 2000000 in
theorem do_err (base bm : Nat) (v : Value) (es : List Ent) (c : Cmd) (j : Nat) (x : Ent) (k0 : Int) (w : World) (h : MapAt w base bm v es) (h1 : c.kind = 2 ∨ c.kind = 3 ∨ c.kind = 4) (h2 : c.vol = (j : Int) + 1) (hx : es[j]? = some x) (he : x.epoch = c.epoch)
    (hk : (turnE x c : Int) = k0) (hk0 : k0 ≠ 0) :
    Calls Try.prog 16 #[.pointer (some ⟨bm, 0, none⟩), .agg #[.int .i64 c.kind, .int .i64 c.vol, .int .i64 c.epoch, .int .i64 c.spot, .int .i64 c.node, .int .i64 c.n0, .int .i64 c.n1, .int .i64 c.n2]] w
      (DoOut w base bm v es 0 k0) := by
  obtain ⟨y, hy⟩ : ∃ y, y = turnV x c := ⟨_, rfl⟩
  have hturn := fun wx => turn_any x c wx
  rw [← hy, hk, errV_ne hk0] at hturn
  unfold Ent.val at hturn
  clear hy hk
  have HTU := Lib.hid hturn
  clear hturn
  have HK0 := Lib.hid hk0
  clear hk0
  obtain ⟨k, cv, ce, cs, cn, c0, c1, c2⟩ := c
  obtain ⟨y0, y1, y2, y3, y4, y5⟩ := y
  have h2' : cv = (j : Int) + 1 := h2
  subst h2'
  clear h2
  have he' : x.epoch = ce := he
  subst he'
  clear he
  have H := Lib.hid h
  clear h
  have HX := Lib.hid hx
  clear hx
  have h1' : k = 2 ∨ k = 3 ∨ k = 4 := h1
  clear h1
  have b1 : (k == 1) = false := by rw [beq_eq_false_iff_ne]; omega
  have hb : (k == 2) = true ∨ ((k == 2) = false ∧ (k == 3) = true) ∨ ((k == 2) = false ∧ (k == 3) = false ∧ (k == 4) = true) := by
    rcases h1' with rfl | rfl | rfl
    · exact .inl rfl
    · exact .inr (.inl ⟨rfl, rfl⟩)
    · exact .inr (.inr ⟨rfl, rfl, rfl⟩)
  clear h1'
  rcases hb with b2 | ⟨b2, b3⟩ | ⟨b2, b3, b4⟩
  all_goals
    go_enter Try.func16, Try.ntmps16
    go_wp2_with (first
      | (go_at_call 19
         refine (find_yes base bm v es j x _ (H.out.below (by repeat (first | (with_reducible exact Below.refl _ _) | (with_reducible refine Below.setCell ?_ ?_ _) | (with_reducible refine Below.alloc ?_ ?_ _) | (with_reducible refine Below.drewN ?_ _) | (with_reducible refine Below.drew ?_) | (with_reducible exact Nat.le_refl _) | (focus (simp only [World.size_alloc, World.size_setCell, World.size_drew, World.size_drewN]; omega)) | omega | exact Nat.le_refl _ | (focus (simp; done)) | (focus (simp; omega))))) HX.out).mono ?_
         rintro e w1 ⟨rfl, hb⟩
         have hz1 := hb.size
         simp only [World.size_alloc] at hz1
         have hz2 : w.heap.size < w1.heap.size := by omega
         obtain ⟨hbc, hbf⟩ := bcell hb
         have HK := Lib.hid (Below.trans (B := w.heap.size) (a := w) (by repeat (first | (with_reducible exact Below.refl _ _) | (with_reducible refine Below.setCell ?_ ?_ _) | (with_reducible refine Below.alloc ?_ ?_ _) | (with_reducible refine Below.drewN ?_ _) | (with_reducible refine Below.drew ?_) | (with_reducible exact Nat.le_refl _) | (focus (simp only [World.size_alloc, World.size_setCell, World.size_drew, World.size_drewN]; omega)) | omega | exact Nat.le_refl _ | (focus (simp; done)) | (focus (simp; omega)))) (hb.mono (by simp)))
         clear hb hz1)
      | (go_at_call 56
         refine (HTU.out _).mono ?_
         rintro e w2 ⟨rfl, hb2⟩
         have hz3 := hb2.size
         simp only [World.size_alloc] at hz3
         obtain ⟨hbc2, hbf2⟩ := bcell hb2
         have hz4 : w1.heap.size < w2.heap.size := by omega
         have hzz := HK.out.size
         have HK2 := Lib.hid ((HK.out.trans (Below.trans (B := w.heap.size) (a := w1) (by repeat (first | (with_reducible exact Below.refl _ _) | (with_reducible refine Below.setCell ?_ ?_ _) | (with_reducible refine Below.alloc ?_ ?_ _) | (with_reducible refine Below.drewN ?_ _) | (with_reducible refine Below.drew ?_) | (with_reducible exact Nat.le_refl _) | (focus (simp only [World.size_alloc, World.size_setCell, World.size_drew, World.size_drewN]; omega)) | omega | exact Nat.le_refl _ | (focus (simp; done)) | (focus (simp; omega)))) (hb2.mono (by simp; omega)))))
         clear hb2 hz3))
    go_ret2
    exact DoOut.same H.out (by rw [errV_ne HK0.out]; rfl) (HK2.out.trans (by repeat (first | (with_reducible exact Below.refl _ _) | (with_reducible refine Below.setCell ?_ ?_ _) | (with_reducible refine Below.alloc ?_ ?_ _) | (with_reducible refine Below.drewN ?_ _) | (with_reducible refine Below.drew ?_) | (with_reducible exact Nat.le_refl _) | (focus (simp only [World.size_alloc, World.size_setCell, World.size_drew, World.size_drewN]; omega)) | omega | exact Nat.le_refl _ | (focus (simp; done)) | (focus (simp; omega)))))
theorem setCellsAt_keeps (g : Nat) : ∀ (vs : List Value) (p : Nat) (w : World), Keeps (fun b => b = g) w (setCellsAt w g p vs)
  | [], _, w => Keeps.refl _ w
  | v :: vs, p, w => Keeps.trans (F := fun b => b = g) (G := fun b => b = g) ((Keeps.refl (fun b => b = g) w).setCell ⟨g, p, none⟩ v (fun _ => rfl)) (setCellsAt_keeps g vs (p + 1) (w.setCell ⟨g, p, none⟩ v)) (fun _ _ h => h)
theorem DoOut.put {w W0 W : World} {base bm g cap j : Nat} {es : List Ent} (y : Ent) (n : Int) (hW : W = (setCellsAt W0 g (j * 6) y.row).drew) (h : MapAt w base bm (.slice (some ⟨g, 0, none⟩) es.length cap) es) (hb : Below w.heap.size w W0)
    (hj : j < es.length) (hg : g < w.heap.size) (hn : n = y.epoch) : DoOut w base bm (.slice (some ⟨g, 0, none⟩) es.length cap) (es.set j y) n 0 (.returned (.tuple #[.int .i64 n, .nilIface])) W := by
  subst hn
  have h0 := h.below hb
  have hk := setCellsAt_keeps g y.row (j * 6) W0
  have hne : g ≠ bm := fun e => h.ne (by rw [e]; rfl)
  have hr := ownsRow_struct Ent.row 6 Ent.row_len es j y hj h0.row
  generalize setCellsAt W0 g (j * 6) y.row = X at *
  subst hW
  have hm : MapAt X base bm (.slice (some ⟨g, 0, none⟩) es.length cap) (es.set j y) :=
    ⟨(hk.block bm h0.lt (fun e => hne e.symm)).trans h0.blk, by rw [List.length_set]; exact hr, h.low, h.ne, by rw [List.length_set]; exact h.few⟩
  have hk2 : Keeps (fun b => b = bm ∨ (Value.slice (some ⟨g, 0, none⟩) es.length cap).ownBlock = some b) w X :=
    Keeps.trans (Keeps.of_below hb (fun _ hb _ => hb)) hk (fun i _ e => .inr (by rw [e]; rfl))
  exact ⟨rfl, _, ⟨hm.blk, hm.row, hm.low, hm.ne, hm.few⟩, fun _ hg => .inl hg, hk2.drew⟩
set_option maxRecDepth 100000 in
set_option maxHeartbeats 2000000 in
theorem do_turn (base bm : Nat) (v : Value) (es : List Ent) (c : Cmd) (j : Nat) (x : Ent) (w : World) (h : MapAt w base bm v es) (h1 : c.kind = 2 ∨ c.kind = 3 ∨ c.kind = 4) (h2 : c.vol = (j : Int) + 1) (hx : es[j]? = some x) (he : x.epoch = c.epoch)
    (hk : turnE x c = 0) :
    Calls Try.prog 16 #[.pointer (some ⟨bm, 0, none⟩), .agg #[.int .i64 c.kind, .int .i64 c.vol, .int .i64 c.epoch, .int .i64 c.spot, .int .i64 c.node, .int .i64 c.n0, .int .i64 c.n1, .int .i64 c.n2]] w
      (DoOut w base bm v (es.set j (turnX x c)) (turnX x c).epoch 0) := by
  have hV : turnV x c = turnX x c := by simp [turnV, hk]
  have hturn := fun wx => turn_any x c wx
  rw [hV, hk, show errV ((0 : Nat) : Int) = .nilIface from rfl] at hturn
  generalize turnX x c = y at *
  unfold Ent.val at hturn
  clear hV hk
  have HTU := Lib.hid hturn
  clear hturn
  obtain ⟨k, cv, ce, cs, cn, c0, c1, c2⟩ := c
  obtain ⟨y0, y1, y2, y3, y4, y5⟩ := y
  have h2' : cv = (j : Int) + 1 := h2
  subst h2'
  clear h2
  have he' : x.epoch = ce := he
  subst he'
  clear he
  obtain ⟨g, cap, rfl, hg, _, hgm, hj, q0, q1, q2, q3, q4, q5⟩ := h.ent j x hx
  have hc := h.cell
  have hlt := h.lt
  have hn : es.length ≤ 4096 := h.few
  have hgf := fun o => h.row.frozenAt o
  have HJ := Lib.hid hj
  have HN := Lib.hid hn
  generalize hne : es.length = n at *
  have hne0 := Lib.hid hne
  clear hne
  have H := Lib.hid h
  clear h
  have HX := Lib.hid hx
  clear hx
  have h1' : k = 2 ∨ k = 3 ∨ k = 4 := h1
  clear h1
  have b1 : (k == 1) = false := by rw [beq_eq_false_iff_ne]; omega
  have hb : (k == 2) = true ∨ ((k == 2) = false ∧ (k == 3) = true) ∨ ((k == 2) = false ∧ (k == 3) = false ∧ (k == 4) = true) := by
    rcases h1' with rfl | rfl | rfl
    · exact .inl rfl
    · exact .inr (.inl ⟨rfl, rfl⟩)
    · exact .inr (.inr ⟨rfl, rfl, rfl⟩)
  clear h1'
  rcases hb with b2 | ⟨b2, b3⟩ | ⟨b2, b3, b4⟩
  all_goals
    go_enter Try.func16, Try.ntmps16
    go_wp2_with (first
      | (go_at_call 19
         refine (find_yes base bm _ es j x _ (H.out.below (by repeat (first | (with_reducible exact Below.refl _ _) | (with_reducible refine Below.setCell ?_ ?_ _) | (with_reducible refine Below.alloc ?_ ?_ _) | (with_reducible refine Below.drewN ?_ _) | (with_reducible refine Below.drew ?_) | (with_reducible exact Nat.le_refl _) | (focus (simp only [World.size_alloc, World.size_setCell, World.size_drew, World.size_drewN]; omega)) | omega | exact Nat.le_refl _ | (focus (simp; done)) | (focus (simp; omega))))) HX.out).mono ?_
         rintro e w1 ⟨rfl, hb⟩
         have hz1 := hb.size
         simp only [World.size_alloc] at hz1
         have hz2 : w.heap.size < w1.heap.size := by omega
         obtain ⟨hbc, hbf⟩ := bcell hb
         have HK := Lib.hid (Below.trans (B := w.heap.size) (a := w) (by repeat (first | (with_reducible exact Below.refl _ _) | (with_reducible refine Below.setCell ?_ ?_ _) | (with_reducible refine Below.alloc ?_ ?_ _) | (with_reducible refine Below.drewN ?_ _) | (with_reducible refine Below.drew ?_) | (with_reducible exact Nat.le_refl _) | (focus (simp only [World.size_alloc, World.size_setCell, World.size_drew, World.size_drewN]; omega)) | omega | exact Nat.le_refl _ | (focus (simp; done)) | (focus (simp; omega)))) (hb.mono (by simp)))
         clear hb hz1)
      | (go_at_call 56
         refine (HTU.out _).mono ?_
         rintro e w2 ⟨rfl, hb2⟩
         have hz3 := hb2.size
         simp only [World.size_alloc] at hz3
         have kt := fun o => hb2.cell (p := ⟨w1.heap.size, o, none⟩) (by simp)
         have ktf := fun o => hb2.frozen (p := ⟨w1.heap.size, o, none⟩) (by simp)
         have hz4 : w1.heap.size < w2.heap.size := by omega
         have hzz := HK.out.size
         have HK2 := Lib.hid ((HK.out.trans (Below.trans (B := w.heap.size) (a := w1) (by repeat (first | (with_reducible exact Below.refl _ _) | (with_reducible refine Below.setCell ?_ ?_ _) | (with_reducible refine Below.alloc ?_ ?_ _) | (with_reducible refine Below.drewN ?_ _) | (with_reducible refine Below.drew ?_) | (with_reducible exact Nat.le_refl _) | (focus (simp only [World.size_alloc, World.size_setCell, World.size_drew, World.size_drewN]; omega)) | omega | exact Nat.le_refl _ | (focus (simp; done)) | (focus (simp; omega)))) (hb2.mono (by simp; omega)))))
         have kg := fun o => HK2.out.cell (p := ⟨g, o, none⟩) hg
         have kgf := fun o => HK2.out.frozen (p := ⟨g, o, none⟩) hg
         have km := fun o => HK2.out.cell (p := ⟨bm, o, none⟩) hlt
         have kb := fun o => hb2.cell (p := ⟨w.heap.size, o, none⟩) (by simp; omega)
         clear hb2 hz3))
    have hjn : j < n := HJ.out
    have hn9 : n ≤ 4096 := HN.out
    have hwj : IntKind.i64.wrap (j : Int) = (j : Int) := IntWalk.i64_in _ (by omega)
    have hj0 : (0 : Int) ≤ (j : Int) := by omega
    have hj1 : (j : Int) < (n : Int) := by omega
    clear hjn hn9
    refine wp_region_now [3, 5, 7] [(0, 0), (1, 0), (2, 0), (3, 2), (4, 0), (5, 2), (6, 0), (7, 2), (8, 0), (9, 1)] (by kernel_rfl) (by kernel_rfl) rfl (by kernel_rfl) (fun c a d v w h => by cases d <;> exact h) ?_
    refine stepE0 rfl rfl (fun K hK => ?_)
    go_simp
    refine hK _ ?_
    clear hK K
    refine stepE0 rfl rfl (fun K hK => ?_)
    go_simp
    refine hK _ ?_
    clear hK K
    refine stepE0 rfl rfl (fun K hK => ?_)
    go_simp
    refine hK _ ?_
    clear hK K
    refine stepE2 rfl rfl ?_ (fun w1 hS => ?_) (fun K hK => ?_)
    rotate_left
    focus (obtain rfl : w1 = _ := hS; go_simp; rfl)
    go_simp
    refine hK _ ?_
    clear hK K
    refine stepE0 rfl rfl (fun K hK => ?_)
    go_simp
    refine hK _ ?_
    clear hK K
    refine stepE2 rfl rfl ?_ (fun w1 hS => ?_) (fun K hK => ?_)
    rotate_left
    focus (obtain rfl : w1 = _ := hS; go_simp; rfl)
    go_simp
    refine hK _ ?_
    clear hK K
    refine stepE0 rfl rfl (fun K hK => ?_)
    go_simp
    refine hK _ ?_
    clear hK K
    refine stepE2 rfl rfl ?_ (fun w1 hS => ?_) (fun K hK => ?_)
    rotate_left
    focus (obtain rfl : w1 = _ := hS; go_simp; rfl)
    go_simp
    refine hK _ ?_
    clear hK K
    refine stepE0 rfl rfl (fun K hK => ?_)
    go_simp
    refine hK _ ?_
    clear hK K
    refine stepE1 rfl rfl (by kernel_rfl) (fun K hK => ?_)
    go_wp2
    try refine stepEnil ?_
    go_wp2
    go_ret2
    have hne1 := hne0.out
    subst hne1
    refine DoOut.put ⟨y0, y1, y2, y3, y4, y5⟩ _ rfl H.out ?_ HJ.out hg rfl
    exact HK2.out.trans (by repeat (first | (with_reducible exact Below.refl _ _) | (with_reducible refine Below.setCell ?_ ?_ _) | (with_reducible refine Below.alloc ?_ ?_ _) | (with_reducible refine Below.drewN ?_ _) | (with_reducible refine Below.drew ?_) | (with_reducible exact Nat.le_refl _) | (focus (simp only [World.size_alloc, World.size_setCell, World.size_drew, World.size_drewN]; omega)) | omega | exact Nat.le_refl _ | (focus (simp; done)) | (focus (simp; omega))))

theorem do_any (base bm : Nat) (v : Value) (es : List Ent) (c : Cmd) (w : World) (h : MapAt w base bm v es) :
    Calls Try.prog 16 #[.pointer (some ⟨bm, 0, none⟩), .agg #[.int .i64 c.kind, .int .i64 c.vol, .int .i64 c.epoch, .int .i64 c.spot, .int .i64 c.node, .int .i64 c.n0, .int .i64 c.n1, .int .i64 c.n2]] w
      (DoOut w base bm v (doEs es c) (doN es c) (doK es c)) := by
  by_cases h1 : c.kind = 1
  · cases h2 : threeB c.n0 c.n1 c.n2
    · have e1 : doEs es c = es := by simp [doEs, h1, h2]
      have e2 : doN es c = 0 := by simp [doN, h1, h2]
      have e3 : (doK es c : Int) = 1 := by simp [doK, h1, h2]
      rw [e1, e2, e3]
      exact do_arg base bm v es c w h h1 h2
    · by_cases h3 : es.length < 4096
      · have e1 : doEs es c = es ++ [⟨(es.length : Int) + 1, 1, c.n0, c.n1, c.n2, false⟩] := by simp [doEs, h1, h2, h3]
        have e2 : doN es c = (es.length : Int) + 1 := by simp [doN, h1, h2, h3]
        have e3 : (doK es c : Int) = 0 := by simp [doK, h1, h2, h3]
        rw [e1, e2, e3]
        exact do_new base bm v es c w h h1 h2 h3
      · have e1 : doEs es c = es := by simp [doEs, h1, h2, h3]
        have e2 : doN es c = 0 := by simp [doN, h1, h2, h3]
        have e3 : (doK es c : Int) = 11 := by simp [doK, h1, h2, h3]
        rw [e1, e2, e3]
        exact do_full base bm v es c w h h1 h2 (by omega)
  · by_cases hk : c.kind = 2 ∨ c.kind = 3 ∨ c.kind = 4
    · by_cases hv : 1 ≤ c.vol ∧ c.vol ≤ es.length
      · obtain ⟨j, hj⟩ : ∃ j : Nat, c.vol = (j : Int) + 1 := ⟨(c.vol - 1).toNat, by omega⟩
        have hjl : j < es.length := by omega
        have hx : es[j]? = some es[j] := List.getElem?_eq_getElem hjl
        have hvj : (c.vol - 1).toNat = j := by omega
        generalize es[j] = x at hx
        by_cases he : x.epoch = c.epoch
        · by_cases ht : turnE x c = 0
          · have e1 : doEs es c = es.set j (turnX x c) := by rw [doEs, if_neg h1, if_pos hk, if_pos hv, hvj, hx]; exact if_pos ⟨he, ht⟩
            have e2 : doN es c = (turnX x c).epoch := by rw [doN, if_neg h1, if_pos hk, if_pos hv, hvj, hx]; exact if_pos ⟨he, ht⟩
            have e3 : (doK es c : Int) = 0 := by rw [doK, if_neg h1, if_pos hk, if_pos hv, hvj, hx]; show ((if x.epoch = c.epoch then turnE x c else 13 : Nat) : Int) = 0; rw [if_pos he, ht]; rfl
            rw [e1, e2, e3]
            exact do_turn base bm v es c j x w h hk hj hx he ht
          · have e1 : doEs es c = es := by rw [doEs, if_neg h1, if_pos hk, if_pos hv, hvj, hx]; exact if_neg (fun e => ht e.2)
            have e2 : doN es c = 0 := by rw [doN, if_neg h1, if_pos hk, if_pos hv, hvj, hx]; exact if_neg (fun e => ht e.2)
            have e3 : (doK es c : Int) = (turnE x c : Int) := by rw [doK, if_neg h1, if_pos hk, if_pos hv, hvj, hx]; show ((if x.epoch = c.epoch then turnE x c else 13 : Nat) : Int) = _; rw [if_pos he]
            rw [e1, e2, e3]
            exact do_err base bm v es c j x _ w h hk hj hx he rfl (by omega)
        · have e1 : doEs es c = es := by rw [doEs, if_neg h1, if_pos hk, if_pos hv, hvj, hx]; exact if_neg (fun e => he e.1)
          have e2 : doN es c = 0 := by rw [doN, if_neg h1, if_pos hk, if_pos hv, hvj, hx]; exact if_neg (fun e => he e.1)
          have e3 : (doK es c : Int) = 13 := by rw [doK, if_neg h1, if_pos hk, if_pos hv, hvj, hx]; show ((if x.epoch = c.epoch then turnE x c else 13 : Nat) : Int) = _; rw [if_neg he]; rfl
          rw [e1, e2, e3]
          exact do_stale base bm v es c j x w h hk hj hx he
      · have e1 : doEs es c = es := by rw [doEs, if_neg h1, if_pos hk, if_neg hv]
        have e2 : doN es c = 0 := by rw [doN, if_neg h1, if_pos hk, if_neg hv]
        have e3 : (doK es c : Int) = 6 := by rw [doK, if_neg h1, if_pos hk, if_neg hv]; rfl
        rw [e1, e2, e3]
        exact do_none base bm v es c w h hk (by omega)
    · have e1 : doEs es c = es := by rw [doEs, if_neg h1, if_neg hk]
      have e2 : doN es c = 0 := by rw [doN, if_neg h1, if_neg hk]
      have e3 : (doK es c : Int) = 1 := by rw [doK, if_neg h1, if_neg hk]; rfl
      rw [e1, e2, e3]
      exact do_bad base bm v es c w h h1 (fun e => hk (.inl e)) (fun e => hk (.inr (.inl e))) (fun e => hk (.inr (.inr e)))
end Go.Proofs.Ytigkcbnlbdiimaa
