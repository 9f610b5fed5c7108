/- DirsApart: the walk. -/
import Derived.Test.YtigkcbnlbdiimaaDirsApart
import Derived.Test.YtigkcbnlbdiimaaDirsLaw
import Derived.Test.YtigkcbnlbdiimaaEq3
namespace Go.Proofs.Ytigkcbnlbdiimaa
open Go.RowKit
/-- The cells of a row of commands that came in. -/
def CmdsAt (w : World) (b off : Nat) (cs : List Cmd) : Prop := ∀ (i : Nat) (c : Cmd), cs[i]? = some c →
  w.cell? ⟨b, off + i * 8, none⟩ = some (.int .i64 c.kind) ∧ w.cell? ⟨b, off + i * 8 + 1, none⟩ = some (.int .i64 c.vol) ∧ w.cell? ⟨b, off + i * 8 + 2, none⟩ = some (.int .i64 c.epoch) ∧
  w.cell? ⟨b, off + i * 8 + 3, none⟩ = some (.int .i64 c.spot) ∧ w.cell? ⟨b, off + i * 8 + 4, none⟩ = some (.int .i64 c.node) ∧ w.cell? ⟨b, off + i * 8 + 5, none⟩ = some (.int .i64 c.n0) ∧
  w.cell? ⟨b, off + i * 8 + 6, none⟩ = some (.int .i64 c.n1) ∧ w.cell? ⟨b, off + i * 8 + 7, none⟩ = some (.int .i64 c.n2)
/-- What holds of the map at a loop's head. -/
def MapInv (B bm : Nat) (E : Int) (N : Nat) (w0 w : World) : Prop := ∃ v es, MapAt w B bm v es ∧ Good E es ∧ es.length ≤ N ∧ Below w0.heap.size w0 w
theorem MapInv.mono {B bm N N' : Nat} {E E' : Int} {w0 w : World} (h : MapInv B bm E N w0 w) (he : E ≤ E') (hn : N ≤ N') : MapInv B bm E' N' w0 w := by
  obtain ⟨v, es, a, b, c, d⟩ := h
  exact ⟨v, es, a, b.mono he, Nat.le_trans c hn, d⟩
/-- The cells of one entry of an owned row. -/
theorem row_ent {w : World} {base : Nat} {v : Value} {es : List Ent} (hr : w.ownsRow base 37 6 v es.length (es.flatMap Ent.row)) (k : Nat) (x : Ent) (hx : es[k]? = some x) :
    ∃ g c, v = .slice (some ⟨g, 0, none⟩) es.length c ∧ g < w.heap.size ∧ base ≤ g ∧ k < es.length ∧
      w.cell? ⟨g, k * 6, none⟩ = some (.int .i64 x.vol) ∧ w.cell? ⟨g, k * 6 + 1, none⟩ = some (.int .i64 x.epoch) ∧ w.cell? ⟨g, k * 6 + 2, none⟩ = some (.int .i64 x.n0) ∧
      w.cell? ⟨g, k * 6 + 3, none⟩ = some (.int .i64 x.n1) ∧ w.cell? ⟨g, k * 6 + 4, none⟩ = some (.int .i64 x.n2) ∧ w.cell? ⟨g, k * 6 + 5, none⟩ = some (.bool x.shut) := by
  have hk : k < es.length := (List.getElem?_eq_some_iff.1 hx).1
  have hlt := hr.lt
  rcases hr.2 with ⟨_, hz⟩ | ⟨g, cap, cur, rfl, hg, _⟩
  · omega
  · have hg1 := hlt g rfl
    have hc := fun j hj => ownsRow_cell Ent.row 6 Ent.row_len es hr k j x hx hj
    refine ⟨g, cap, rfl, hg1.2, hg1.1, hk, ?_, ?_, ?_, ?_, ?_, ?_⟩
    · simpa [Ent.row] using hc 0 (by omega)
    · simpa [Ent.row] using hc 1 (by omega)
    · simpa [Ent.row] using hc 2 (by omega)
    · simpa [Ent.row] using hc 3 (by omega)
    · simpa [Ent.row] using hc 4 (by omega)
    · simpa [Ent.row] using hc 5 (by omega)
theorem MapInv.later {B bm N : Nat} {E : Int} {w0 w w' : World} (h : MapInv B bm E N w0 w) (hb : Below w.heap.size w w') : MapInv B bm E N w0 w' := by
  obtain ⟨v, es, a, b, c, d⟩ := h
  exact ⟨v, es, a.below hb, b, c, d.trans (hb.mono d.size)⟩
theorem ownsRow_below {w w' : World} {base : Nat} {e : TypeId} {size : Nat} {v : Value} {n : Nat} {xs : List Value} (h : w.ownsRow base e size v n xs) (hb : Below w.heap.size w w') : w'.ownsRow base e size v n xs :=
  ownsRow_at h (fun k hk => hb.block k (h.lt k hk).2)
theorem slice_inj {a b : Option Addr} {n m c d : Nat} (h : Value.slice a n c = .slice b m d) : a = b ∧ n = m ∧ c = d := by simpa using h
theorem DoOut.under {w0 w w' : World} {B bm : Nat} {v : Value} {es es' : List Ent} {n k : Int} {e : Ending} (h : DoOut w B bm v es' n k e w') (hm : MapAt w B bm v es) (hB : w0.heap.size ≤ B) (hb : Below w0.heap.size w0 w) : Below w0.heap.size w0 w' := by
  obtain ⟨_, _, _, _, hk⟩ := h
  refine hb.trans (hk.below (B := w0.heap.size) hb.size ?_)
  rintro i (rfl | h)
  · exact Nat.le_trans hB hm.low
  · exact Nat.le_trans hB (hm.row.lt i h).1
theorem MapInv.of_do {w0 w w' : World} {B bm N : Nat} {E : Int} {v : Value} {es : List Ent} {c : Cmd} {n k : Int} {e : Ending} (h : DoOut w B bm v (doEs es c) n k e w') (hm : MapAt w B bm v es) (hg : Good E es) (hl : es.length ≤ N)
    (hB : w0.heap.size ≤ B) (hb : Below w0.heap.size w0 w) (h1 : 1 ≤ E) (hE : E ≤ 1000000) : MapInv B bm (E + 1) (N + 1) w0 w' := by
  have hu := h.under hm hB hb
  obtain ⟨_, v', hm', _, _⟩ := h
  exact ⟨v', _, hm', good_do E es c hg h1 hE, by have := (doEs_len es c).2; omega, hu⟩
set_option maxRecDepth 100000 in
set_option maxHeartbeats 2000000 in
theorem apart_any (ao : Option Addr) (n cap : Nat) (cs : List Cmd) (w : World) (hl : cs.length = n) (hn : n ≤ 100) (hA : 0 < n → ∃ b off, ao = some ⟨b, off, none⟩ ∧ b < w.heap.size ∧ CmdsAt w b off cs) :
    Calls Try.prog 3 #[.slice ao n cap] w fun e w' => e = .returned (.bool true) ∧ Below w.heap.size w w' := by
  have HL := Lib.hid hl
  have HA := Lib.hid hA
  clear hl hA
  have hd100 : decide ((100 : Int) < (n : Int)) = false := by simp; omega
  go_enter Try.func3, Try.ntmps3
  go_wp2_with fail
  refine (alive19 _).mono ?_
  rintro e w1 ⟨rfl, hb1⟩
  have hz1 := hb1.size
  have HB1 := Lib.hid hb1
  clear hb1
  go_wp2_with fail
  refine (new_any _).mono ?_
  rintro e w2 ⟨rfl, rfl⟩
  have h0 : MapInv w.heap.size w1.heap.size 1 0 w (w1.alloc (.cells #[.slice none 0 0] 105)) :=
    ⟨_, [], MapAt.made w1 _ hz1, fun i x hx => by simp at hx, Nat.le_refl _, HB1.out.alloc hz1 _⟩
  have H0 := Lib.hid h0
  clear h0
  go_wp2_with fail
  go_loopw [4] (fun i wr => ∃ k : Nat, k ≤ 3 ∧ i = .int .i64 k ∧ MapInv w.heap.size w1.heap.size (1 + k) k w wr) (fun i _ => 3 - (intOf i).toNat)
  case atStart => exact ⟨0, by omega, rfl, H0.out⟩
  case round =>
    obtain ⟨k, hk, rfl, hm⟩ := hrel
    have HM := Lib.hid hm
    clear hm
    by_cases hlt : k < 3
    · go_wp2_with fail
      obtain ⟨v, es, hm, hg, hen, hbw⟩ := HM.out
      refine (do_any w.heap.size w1.heap.size v es ⟨1, 0, 0, 0, 0, k, k + 1, k + 2⟩ _ hm).mono ?_
      rintro e w3 hd
      have HD := Lib.hid (MapInv.of_do (w0 := w) (N := k) (E := 1 + k) hd hm hg hen (Nat.le_refl _) hbw (by omega) (by omega))
      obtain ⟨rfl, _⟩ := hd
      clear hm hg hen hbw
      go_wp2_with fail
      go_roundw
      case rel => exact ⟨k + 1, by omega, by go_num, by
        have := HD.out
        rwa [show (1 + (k : Int) + 1) = 1 + ((k + 1 : Nat) : Int) by omega] at this⟩
      case measure => simp [intOf]; omega
    · go_wp2_with fail
      go_loopw [5] (fun i wr => ∃ k : Nat, k ≤ n ∧ i = .int .i64 k ∧ MapInv w.heap.size w1.heap.size (10 + k) (3 + k) w wr) (fun i _ => n - (intOf i).toNat)
      case atStart => exact ⟨0, Nat.zero_le _, rfl, HM.out.mono (by omega) (by omega)⟩
      case round =>
        clear HM H0
        obtain ⟨i, hi, rfl, hm⟩ := hrel
        have HM := Lib.hid hm
        clear hm
        by_cases hlt2 : i < n
        · obtain ⟨v, es, hm, hg, hen, hbw⟩ := HM.out
          clear HM
          obtain ⟨c, hc⟩ : ∃ c, cs[i]? = some c := ⟨_, List.getElem?_eq_getElem (by rw [HL.out]; exact hlt2)⟩
          obtain ⟨es2, he2⟩ : ∃ es2, doEs es c = es2 := ⟨_, rfl⟩
          obtain ⟨nd, hnd⟩ : ∃ nd, doN es c = nd := ⟨_, rfl⟩
          obtain ⟨kd, hkd⟩ : ∃ kd : Int, (doK es c : Int) = kd := ⟨_, rfl⟩
          have HE2 := Lib.hid he2
          have HND := Lib.hid hnd
          have HKD := Lib.hid hkd
          clear he2 hnd hkd
          obtain ⟨b, off, rfl, hb, hC⟩ := HA.out (by omega)
          obtain ⟨q0, q1, q2, q3, q4, q5, q6, q7⟩ := hC i c hc
          clear hC
          have HG := Lib.hid hg
          have HEN := Lib.hid hen
          have HMr := Lib.hid hm
          have HBW := Lib.hid hbw
          clear hg hen hm hbw
          go_wp2_with fail
          refine (all_any _ _ _ _ _ HMr.out).mono ?_
          rintro e w3 ⟨v3, rfl, ho3, _, hb3⟩
          have HM3 := Lib.hid (HMr.out.below hb3)
          have HB3 := Lib.hid (HBW.out.trans (hb3.mono HBW.out.size))
          have HO3 := Lib.hid ho3
          have hz3 := hb3.size
          clear ho3
          have k0 := (HB3.out.cell (p := ⟨b, off + i * 8, none⟩) hb).trans q0
          have k1 := (HB3.out.cell (p := ⟨b, off + i * 8 + 1, none⟩) hb).trans q1
          have k2 := (HB3.out.cell (p := ⟨b, off + i * 8 + 2, none⟩) hb).trans q2
          have k3 := (HB3.out.cell (p := ⟨b, off + i * 8 + 3, none⟩) hb).trans q3
          have k4 := (HB3.out.cell (p := ⟨b, off + i * 8 + 4, none⟩) hb).trans q4
          have k5 := (HB3.out.cell (p := ⟨b, off + i * 8 + 5, none⟩) hb).trans q5
          have k6 := (HB3.out.cell (p := ⟨b, off + i * 8 + 6, none⟩) hb).trans q6
          have k7 := (HB3.out.cell (p := ⟨b, off + i * 8 + 7, none⟩) hb).trans q7
          have HB3' := Lib.hid hb3
          clear hb3
          obtain ⟨a3, cap3, rfl⟩ := ownsRow_len HO3.out
          go_wp2_with fail
          refine (do_at _ _ _ _ es2 c nd kd _ HM3.out HE2.out HND.out HKD.out).mono ?_
          rintro e w4 hd
          have HD := Lib.hid hd
          obtain ⟨rfl, v4, hm4, hv4, hk4⟩ := hd
          have HM4 := Lib.hid hm4
          have HK4 := Lib.hid hk4
          have HV4 := Lib.hid hv4
          have hz4 := hk4.size
          clear hm4 hk4 hv4 k0 k1 k2 k3 k4 k5 k6 k7
          go_wp2_with fail
          refine (all_any _ _ _ _ _ HM4.out).mono ?_
          rintro e w5 ⟨v5, rfl, ho5, _, hb5⟩
          obtain ⟨a5, cap5, rfl⟩ := ownsRow_len ho5
          have HO5 := Lib.hid ho5
          have HB5 := Lib.hid hb5
          have hz5 := hb5.size
          clear ho5 hb5
          go_wp2_with fail
          have HB5w : Hid (Below w.heap.size w w5) := by
            have h4 := HD.out.under HM3.out (Nat.le_refl _) HB3.out
            exact h4.trans (HB5.out.mono h4.size)
          have HO35 : Hid (w5.ownsRow w.heap.size 37 6 (.slice a3 es.length cap3) es.length (es.flatMap Ent.row)) := by
            have h1 := HO3.out.lt
            have h2 : ∀ k, (Value.slice a3 es.length cap3).ownBlock = some k → ¬ (k = w1.heap.size ∨ v.ownBlock = some k) := by
              intro k hk
              have h3 := (h1 k hk).1
              rintro (rfl | h)
              · have := HMr.out.lt; omega
              · have := (HMr.out.row.lt k h).2; omega
            have h5 := ownsRow_keeps HO3.out HK4.out h2
            exact ownsRow_mono (ownsRow_at h5 (fun k hk => HB5.out.block k (h5.lt k hk).2)) (by have := HBW.out.size; exact this)
          have HM5 : Hid (MapInv w.heap.size w1.heap.size (10 + (i : Int) + 1) (3 + i + 1) w w5) := by
            have h4 := HD.out
            rw [← HE2.out] at h4
            exact (MapInv.of_do h4 HM3.out HG.out HEN.out (Nat.le_refl _) HB3.out (by omega) (by omega)).later HB5.out
          clear HB5
          go_loopw [10, 11] (fun t kk wx => ∃ k : Nat, k ≤ es.length ∧ kk = .int .i64 k ∧ t = .int .i64 (cnt es es2 k) ∧ Below w5.heap.size w5 wx) (fun _ kk _ => es.length - (intOf kk).toNat)
          case atStart => exact ⟨0, Nat.zero_le _, rfl, rfl, Below.refl _ _⟩
          case round =>
            obtain ⟨k, hk, rfl, rfl, hbx⟩ := hrel
            have HBX := Lib.hid hbx
            clear hbx
            by_cases hlt3 : k < es.length
            · obtain ⟨x, hx⟩ : ∃ x, es[k]? = some x := ⟨_, List.getElem?_eq_getElem hlt3⟩
              obtain ⟨y, hy, hxy⟩ := ent_ways _ es c HG.out (by omega) k x hx
              rw [HE2.out] at hy
              have hk2 : k < es2.length := (List.getElem?_eq_some_iff.1 hy).1
              have hl1 : es.length ≤ 200 := by have := HEN.out; omega
              obtain ⟨g3, cc3, e3, hg3, _, _, x0, x1, x2, x3, x4, x5⟩ := row_ent (ownsRow_below HO35.out HBX.out) k x hx
              obtain ⟨g5, cc5, e5, hg5, _, _, y0, y1, y2, y3, y4, y5⟩ := row_ent (ownsRow_below HO5.out HBX.out) k y hy
              obtain ⟨rfl, -, rfl⟩ := slice_inj e3
              obtain ⟨rfl, -, rfl⟩ := slice_inj e5
              have hi0 : (0 : Int) ≤ (k : Int) := by omega
              have hi1 : (k : Int) < (es.length : Int) := by omega
              have hi2 : (k : Int) < (es2.length : Int) := by omega
              have hwk : IntKind.i64.wrap ((k : Int) + 1) = (k : Int) + 1 := IntWalk.i64_in _ (by omega)
              clear e3 e5
              rcases hxy with hxy | ⟨hv, hyv, hye⟩
              · have HCN := Lib.hid (show cnt es es2 (k + 1) = cnt es es2 k by simp [cnt, hx, hy, hxy])
                subst hxy
                obtain ⟨xv, xe, xa, xb, xc, xs⟩ := y
                clear hx hy
                go_wp2_with fail
                refine wp_region_now [3, 7] [(0, 0), (1, 0), (2, 0), (3, 2), (4, 0), (5, 0), (6, 0), (7, 2), (8, 0)] (by kernel_rfl) (by kernel_rfl) rfl (by kernel_rfl) (fun c a d v w h => by cases d <;> exact h) ?_
                refine stepE0 rfl rfl (fun K hK => ?_)
                go_simp
                refine hK _ ?_
                clear hK K
                refine stepE0 rfl rfl (fun K hK => ?_)
                go_simp
                refine hK _ ?_
                clear hK K
                refine stepE0 rfl rfl (fun K hK => ?_)
                go_simp
                refine hK _ ?_
                clear hK K
                refine stepE2 rfl rfl ?_ (fun w1 hS => ?_) (fun K hK => ?_)
                rotate_left
                focus (obtain rfl : w1 = _ := hS; go_simp; rfl)
                go_simp
                refine hK _ ?_
                clear hK K
                refine stepE0 rfl rfl (fun K hK => ?_)
                go_simp
                refine hK _ ?_
                clear hK K
                refine stepE0 rfl rfl (fun K hK => ?_)
                go_simp
                refine hK _ ?_
                clear hK K
                refine stepE0 rfl rfl (fun K hK => ?_)
                go_simp
                refine hK _ ?_
                clear hK K
                refine stepE2 rfl rfl ?_ (fun w1 hS => ?_) (fun K hK => ?_)
                rotate_left
                focus (obtain rfl : w1 = _ := hS; go_simp; rfl)
                go_simp
                refine hK _ ?_
                clear hK K
                refine stepE0 rfl rfl (fun K hK => ?_)
                go_simp
                refine hK _ ?_
                clear hK K
                try refine stepEnil ?_
                go_wp2_with fail
                go_roundw
                case rel => exact ⟨k + 1, by omega, by go_num, by rw [HCN.out], HBX.out.drew⟩
                case measure => simp [intOf]; omega
              · have HCN := Lib.hid (show cnt es es2 (k + 1) = cnt es es2 k + 1 by simp [cnt, hx, hy]; omega)
                obtain ⟨_, _, hxe⟩ := HG.out k x hx
                have hcl : (cnt es es2 k : Int) ≤ 200 := by have := cnt_le es es2 k; omega
                have hcl0 : (0 : Int) ≤ (cnt es es2 k : Int) := by omega
                have kv := (((HB5w.out.trans (HBX.out.mono HB5w.out.size))).cell (p := ⟨b, off + i * 8 + 1, none⟩) hb).trans q1
                rw [hv] at kv
                obtain ⟨xv, xe, xa, xb, xc, xs⟩ := x
                obtain ⟨yv, ye, ya, yb, yc, ys⟩ := y
                have hyv' : yv = xv := hyv
                have hye' : ye = xe + 1 := hye
                subst hyv' hye'
                have hxe' : xe ≤ 10 + (i : Int) := hxe
                have hxe1 : 1 ≤ xe := (HG.out k _ hx).2.1
                have hne : (xe == xe + 1) = false := by rw [beq_eq_false_iff_ne]; omega
                have hwe : IntKind.i64.wrap (xe + 1) = xe + 1 := IntWalk.i64_in _ (by omega)
                have hj0 : (0 : Int) ≤ (i : Int) := by omega
                have hj1 : (i : Int) < (n : Int) := by omega
                clear hx hy hyv hye hv hxe q0 q1 q2 q3 q4 q5 q6 q7
                go_wp2_with fail
                refine wp_region_now [3, 7] [(0, 0), (1, 0), (2, 0), (3, 2), (4, 0), (5, 0), (6, 0), (7, 2), (8, 0)] (by kernel_rfl) (by kernel_rfl) rfl (by kernel_rfl) (fun c a d v w h => by cases d <;> exact h) ?_
                refine stepE0 rfl rfl (fun K hK => ?_)
                go_simp
                refine hK _ ?_
                clear hK K
                refine stepE0 rfl rfl (fun K hK => ?_)
                go_simp
                refine hK _ ?_
                clear hK K
                refine stepE0 rfl rfl (fun K hK => ?_)
                go_simp
                refine hK _ ?_
                clear hK K
                refine stepE2 rfl rfl ?_ (fun w1 hS => ?_) (fun K hK => ?_)
                rotate_left
                focus (obtain rfl : w1 = _ := hS; go_simp; rfl)
                go_simp
                refine hK _ ?_
                clear hK K
                refine stepE0 rfl rfl (fun K hK => ?_)
                go_simp
                refine hK _ ?_
                clear hK K
                refine stepE0 rfl rfl (fun K hK => ?_)
                go_simp
                refine hK _ ?_
                clear hK K
                refine stepE0 rfl rfl (fun K hK => ?_)
                go_simp
                refine hK _ ?_
                clear hK K
                refine stepE2 rfl rfl ?_ (fun w1 hS => ?_) (fun K hK => ?_)
                rotate_left
                focus (obtain rfl : w1 = _ := hS; go_simp; rfl)
                go_simp
                refine hK _ ?_
                clear hK K
                refine stepE0 rfl rfl (fun K hK => ?_)
                go_simp
                refine hK _ ?_
                clear hK K
                try refine stepEnil ?_
                go_wp2_with fail
                refine wp_region_now [4, 13, 18, 27, 32] [(0, 0), (1, 0), (2, 0), (3, 0), (4, 2), (5, 0), (6, 0), (7, 0), (8, 0), (9, 0), (10, 0), (11, 0), (12, 0), (13, 2), (14, 0), (15, 0), (16, 0), (17, 0), (18, 2), (19, 0), (20, 0), (21, 0), (22, 0), (23, 0), (24, 0), (25, 0), (26, 0), (27, 2), (28, 0), (29, 0), (30, 0), (31, 0), (32, 2), (33, 0), (34, 0)] (by kernel_rfl) (by kernel_rfl) rfl (by kernel_rfl) (fun c a d v w h => by cases d <;> exact h) ?_
                refine stepE0 rfl rfl (fun K hK => ?_)
                go_simp
                refine hK _ ?_
                clear hK K
                refine stepE0 rfl rfl (fun K hK => ?_)
                go_simp
                refine hK _ ?_
                clear hK K
                refine stepE0 rfl rfl (fun K hK => ?_)
                go_simp
                refine hK _ ?_
                clear hK K
                refine stepE0 rfl rfl (fun K hK => ?_)
                go_simp
                refine hK _ ?_
                clear hK K
                refine stepE2 rfl rfl ?_ (fun w1 hS => ?_) (fun K hK => ?_)
                rotate_left
                focus (obtain rfl : w1 = _ := hS; go_simp; rfl)
                go_simp
                refine hK _ ?_
                clear hK K
                refine stepE0 rfl rfl (fun K hK => ?_)
                go_simp
                refine hK _ ?_
                clear hK K
                refine stepE0 rfl rfl (fun K hK => ?_)
                go_simp
                refine hK _ ?_
                clear hK K
                refine stepE0 rfl rfl (fun K hK => ?_)
                go_simp
                refine hK _ ?_
                clear hK K
                refine stepE0 rfl rfl (fun K hK => ?_)
                go_simp
                refine hK _ ?_
                clear hK K
                refine stepE0 rfl rfl (fun K hK => ?_)
                go_simp
                refine hK _ ?_
                clear hK K
                refine stepE0 rfl rfl (fun K hK => ?_)
                go_simp
                refine hK _ ?_
                clear hK K
                refine stepE0 rfl rfl (fun K hK => ?_)
                go_simp
                refine hK _ ?_
                clear hK K
                refine stepE0 rfl rfl (fun K hK => ?_)
                go_simp
                refine hK _ ?_
                clear hK K
                refine stepE2 rfl rfl ?_ (fun w1 hS => ?_) (fun K hK => ?_)
                rotate_left
                focus (obtain rfl : w1 = _ := hS; go_simp; rfl)
                go_simp
                refine hK _ ?_
                clear hK K
                refine stepE0 rfl rfl (fun K hK => ?_)
                go_simp
                refine hK _ ?_
                clear hK K
                refine stepE0 rfl rfl (fun K hK => ?_)
                go_simp
                refine hK _ ?_
                clear hK K
                refine stepE0 rfl rfl (fun K hK => ?_)
                go_simp
                refine hK _ ?_
                clear hK K
                refine stepE0 rfl rfl (fun K hK => ?_)
                go_simp
                refine hK _ ?_
                clear hK K
                refine stepE2 rfl rfl ?_ (fun w1 hS => ?_) (fun K hK => ?_)
                rotate_left
                focus (obtain rfl : w1 = _ := hS; go_simp; rfl)
                go_simp
                refine hK _ ?_
                clear hK K
                refine stepE0 rfl rfl (fun K hK => ?_)
                go_simp
                refine hK _ ?_
                clear hK K
                refine stepE0 rfl rfl (fun K hK => ?_)
                go_simp
                refine hK _ ?_
                clear hK K
                refine stepE0 rfl rfl (fun K hK => ?_)
                go_simp
                refine hK _ ?_
                clear hK K
                refine stepE0 rfl rfl (fun K hK => ?_)
                go_simp
                refine hK _ ?_
                clear hK K
                refine stepE0 rfl rfl (fun K hK => ?_)
                go_simp
                refine hK _ ?_
                clear hK K
                refine stepE0 rfl rfl (fun K hK => ?_)
                go_simp
                refine hK _ ?_
                clear hK K
                refine stepE0 rfl rfl (fun K hK => ?_)
                go_simp
                refine hK _ ?_
                clear hK K
                refine stepE0 rfl rfl (fun K hK => ?_)
                go_simp
                refine hK _ ?_
                clear hK K
                refine stepE2 rfl rfl ?_ (fun w1 hS => ?_) (fun K hK => ?_)
                rotate_left
                focus (obtain rfl : w1 = _ := hS; go_simp; rfl)
                go_simp
                refine hK _ ?_
                clear hK K
                refine stepE0 rfl rfl (fun K hK => ?_)
                go_simp
                refine hK _ ?_
                clear hK K
                refine stepE0 rfl rfl (fun K hK => ?_)
                go_simp
                refine hK _ ?_
                clear hK K
                refine stepE0 rfl rfl (fun K hK => ?_)
                go_simp
                refine hK _ ?_
                clear hK K
                refine stepE0 rfl rfl (fun K hK => ?_)
                go_simp
                refine hK _ ?_
                clear hK K
                refine stepE2 rfl rfl ?_ (fun w1 hS => ?_) (fun K hK => ?_)
                rotate_left
                focus (obtain rfl : w1 = _ := hS; go_simp; rfl)
                go_simp
                refine hK _ ?_
                clear hK K
                refine stepE0 rfl rfl (fun K hK => ?_)
                go_simp
                refine hK _ ?_
                clear hK K
                refine stepE0 rfl rfl (fun K hK => ?_)
                go_simp
                refine hK _ ?_
                clear hK K
                try refine stepEnil ?_
                go_wp2_with fail
                go_roundw
                case rel => exact ⟨k + 1, by omega, by go_num, by rw [HCN.out]; go_num, HBX.out.drew.drew⟩
                case measure => simp [intOf]; omega
            · have hke : k = es.length := by omega
              subst hke
              have hl1 : es.length ≤ 200 := by have := HEN.out; omega
              have hkd0 : 0 ≤ kd := by have := HKD.out; omega
              have hkd1 : kd ≤ 17 := by have := HKD.out; have := doK_le es c; omega
              have hcase := cnt_law _ es c HG.out (by omega)
              rw [HE2.out] at hcase
              have hkz : doK es c = 0 ↔ kd = 0 := by have := HKD.out; omega
              have HMX := Lib.hid (HM5.out.later HBX.out)
              have hrel1 : (10 + (i : Int) + 1) = 10 + ((i + 1 : Nat) : Int) := by omega
              have HR1 := Lib.hid hrel1
              clear hrel1
              generalize cnt es es2 es.length = T at *
              rcases hcase with ⟨hd1, hT, hlen⟩ | ⟨hd1, hT, hlen⟩ | ⟨hd1, hT, hlen⟩
              · have hkn : kd ≠ 0 := fun h => hd1 (hkz.2 h)
                have hkb : (kd == 0) = false := by rw [beq_eq_false_iff_ne]; exact hkn
                have hlb : ((es2.length : Int) != (es.length : Int)) = false := by rw [hlen]; simp
                clear hd1 hkn hkz hlen
                subst hT
                go_wp2_with (go_at_call 18; (with_reducible refine (code_any _ (by omega) (by omega) _).mono ?_); rintro e w' ⟨rfl, rfl⟩)
                go_roundw
                case rel => exact ⟨i + 1, by omega, by go_num, by
                  have := HMX.out
                  rwa [HR1.out, show 3 + i + 1 = 3 + (i + 1) by omega] at this⟩
                case measure => simp [intOf]; omega
              · have hkn : kd = 0 := hkz.1 hd1
                subst hkn
                have hlb : ((es2.length : Int) != (es.length : Int) + 1) = false := by rw [hlen]; simp
                have hlb2 : ((es2.length : Int) != (es.length : Int)) = true := by rw [hlen, bne_iff_ne]; omega
                clear hd1 hkz hlen
                subst hT
                go_wp2_with (go_at_call 18; (with_reducible refine (code_any _ (by omega) (by omega) _).mono ?_); rintro e w' ⟨rfl, rfl⟩)
                go_roundw
                case rel => exact ⟨i + 1, by omega, by go_num, by
                  have := HMX.out
                  rwa [HR1.out, show 3 + i + 1 = 3 + (i + 1) by omega] at this⟩
                case measure => simp [intOf]; omega
              · have hkn : kd = 0 := hkz.1 hd1
                subst hkn
                have hlb2 : ((es2.length : Int) != (es.length : Int)) = false := by rw [hlen]; simp
                clear hd1 hkz hlen
                subst hT
                go_wp2_with (go_at_call 18; (with_reducible refine (code_any _ (by omega) (by omega) _).mono ?_); rintro e w' ⟨rfl, rfl⟩)
                go_roundw
                case rel => exact ⟨i + 1, by omega, by go_num, by
                  have := HMX.out
                  rwa [HR1.out, show 3 + i + 1 = 3 + (i + 1) by omega] at this⟩
                case measure => simp [intOf]; omega
        · go_wp2_with fail
          go_ret
          obtain ⟨_, _, _, _, _, hbw⟩ := HM.out
          exact ⟨rfl, hbw⟩
set_option maxRecDepth 100000 in
set_option maxHeartbeats 1000000 in
theorem apart_big (ao : Option Addr) (n cap : Nat) (w : World) (hn : 100 < n) : Calls Try.prog 3 #[.slice ao n cap] w fun e w' => e = .returned (.bool true) ∧ Below w.heap.size w w' := by
  have hn' : (100 : Int) < (n : Int) := by omega
  go_enter Try.func3, Try.ntmps3
  go_wp2_with fail
  refine (alive19 _).mono ?_
  rintro e w1 ⟨rfl, hb1⟩
  go_wp2_with fail
  go_ret
  exact ⟨rfl, hb1⟩
end Go.Proofs.Ytigkcbnlbdiimaa
