/- Joined texts: PlaceRLeave, Place6, PlaceAlive, DirsParts, DirsParts2, PlaceMoves, OpenCmd, OpenInts. -/
import Derived.Test.YtigkcbnlbdiimaaPm4
import Derived.Test.YtigkcbnlbdiimaaRows
import Derived.ProofKit
import Derived.OpenShut
import Derived.Deep.Slices
/- corncribref27.Leave. -/
namespace Go.Proofs.Ytigkcbnlbdiimaa
open Go.RowKit Go.Maps Go.Sort
theorem rmove_info : (Try.prog.info? 100).map (fun i => (i.zero, i.size, i.bytes)) = some (some (.agg #[.int .i64 0, .int .i64 0, .int .i64 0, .int .i64 0]), 4, 32) := by kernel_rfl
/-- Rows of other elements lie in other blocks. -/
theorem rows_apart {w : World} {b1 b2 s1 s2 n1 n2 : Nat} {t1 t2 : TypeId} {v1 v2 : Value} {xs ys : List Value} (hne : t1 ≠ t2) (h1 : w.ownsRow b1 t1 s1 v1 n1 xs) (h2 : w.ownsRow b2 t2 s2 v2 n2 ys) (j : Nat) (hj1 : v1.ownBlock = some j) : v2.ownBlock ≠ some j := by
  intro hj2
  rcases h1.2 with ⟨rfl, _⟩ | ⟨g, cap, cur, rfl, _, hh, _⟩
  · cases hj1
  · rcases h2.2 with ⟨rfl, _⟩ | ⟨g', cap', cur', rfl, _, hh', _⟩
    · cases hj2
    · simp only [Value.ownBlock, Option.some.injEq] at hj1 hj2
      subst hj1 hj2
      rw [hh] at hh'
      simp only [Option.some.injEq, Obj.cells.injEq] at hh'
      exact hne hh'.2.1
theorem flatMap_cell {α : Type} (f : α → List Value) (s : Nat) (hf : ∀ x, (f x).length = s) (x y : α) (u : Value) (j : Nat) (hj : j < s) (hy : f y = (f x).set j u) : ∀ (l : List α) (i : Nat), l[i]? = some x → (l.flatMap f).set (i * s + j) u = (l.set i y).flatMap f
  | [], i, h => by simp at h
  | a :: l, 0, h => by
    simp only [List.getElem?_cons_zero, Option.some.injEq] at h
    subst h
    rw [List.set_cons_zero, List.flatMap_cons, List.flatMap_cons, hy, Nat.zero_mul, Nat.zero_add, List.set_append_left _ _ (by rw [hf]; exact hj)]
  | a :: l, i + 1, h => by
    rw [List.set_cons_succ, List.flatMap_cons, List.flatMap_cons, List.set_append_right _ _ (by rw [hf, Nat.succ_mul]; omega), hf, show (i + 1) * s + j - s = i * s + j by rw [Nat.succ_mul]; omega, flatMap_cell f s hf x y u j hj hy l i (by simpa using h)]
theorem hasI_cases {x : Ent} {n : Int} (h : hasB x n = true) : (hasI x n = 0 ∧ ∀ t, (x.mv n t).row = x.row.set 2 (.int .i64 t)) ∨ (hasI x n = 1 ∧ ∀ t, (x.mv n t).row = x.row.set 3 (.int .i64 t)) ∨ (hasI x n = 2 ∧ ∀ t, (x.mv n t).row = x.row.set 4 (.int .i64 t)) := by
  simp only [hasB, Bool.or_eq_true, beq_iff_eq] at h
  by_cases h0 : x.n0 = n
  · exact .inl ⟨by simp [hasI, h0], fun t => by simp [Ent.mv, h0, Ent.row]⟩
  · by_cases h1 : x.n1 = n
    · exact .inr (.inl ⟨by simp [hasI, h0, h1], fun t => by simp [Ent.mv, h0, h1, Ent.row]⟩)
    · have h2 : x.n2 = n := by omega
      exact .inr (.inr ⟨by simp [hasI, h0, h1, h2], fun t => by simp [Ent.mv, h0, h1, h2, Ent.row]⟩)
/-- The first node that the volume hasn't; none: -1. -/
def toV (x : Ent) (so : List Int) : Int := ((so.filter fun t => !hasB x t).head?).getD (-1)
theorem toV_step {x : Ent} {so : List Int} {j : Nat} {y : Int} (hy : so[j]? = some y) (hp : ∀ n ∈ so, placeB n = true) :
    (toV x (so.take j) < 0 ∧ toV x (so.take (j + 1)) = if hasB x y then toV x (so.take j) else y) ∨ (0 ≤ toV x (so.take j) ∧ toV x (so.take (j + 1)) = toV x (so.take j)) := by
  unfold toV
  rw [take_snoc_get so j y hy, List.filter_append]
  rcases hA : (so.take j).filter fun t => !hasB x t with _ | ⟨a, r⟩
  · refine .inl ⟨by simp, ?_⟩
    cases hb : hasB x y <;> simp [hb]
  · refine .inr ⟨?_, by simp⟩
    have ha : a ∈ so := List.mem_of_mem_take (List.mem_filter.1 (show a ∈ (so.take j).filter fun t => !hasB x t by rw [hA]; exact List.mem_cons_self)).1
    have := hp a ha
    simp [placeB] at this
    simp; omega
theorem toV_le (x : Ent) (so : List Int) (hp : ∀ n ∈ so, placeB n = true) : -1 ≤ toV x so ∧ toV x so ≤ 255 := by
  unfold toV
  rcases hA : so.filter fun t => !hasB x t with _ | ⟨a, r⟩
  · simp
  · have ha : a ∈ so := (List.mem_filter.1 (show a ∈ so.filter fun t => !hasB x t by rw [hA]; exact List.mem_cons_self)).1
    have := hp a ha
    simp [placeB] at this
    simp; omega
/-- What the reference's Leave gives. -/
def RLeaveOut (w : World) (r : Option (List Mv)) (e : Ending) (w' : World) : Prop := match r with
  | none => e = .returned (.tuple #[.slice none 0 0, .bool false]) ∧ Below w.heap.size w w'
  | some l => ∃ v', e = .returned (.tuple #[v', .bool true]) ∧ w'.ownsRow w.heap.size 100 4 v' l.length (l.flatMap Mv.row) ∧ Below w.heap.size w w'
theorem RLeaveOut.no {w : World} {r : Option (List Mv)} {e : Ending} {w' : World} (h : r = none) (h1 : e = .returned (.tuple #[.slice none 0 0, .bool false])) (h2 : Below w.heap.size w w') : RLeaveOut w r e w' := by subst h; exact ⟨h1, h2⟩
theorem RLeaveOut.yes {w : World} {r : Option (List Mv)} {e : Ending} {w' : World} {l : List Mv} {v' : Value} (h : r = some l) (h1 : e = .returned (.tuple #[v', .bool true])) (h3 : w'.ownsRow w.heap.size 100 4 v' l.length (l.flatMap Mv.row)) (h2 : Below w.heap.size w w') : RLeaveOut w r e w' := by subst h; exact ⟨_, h1, h3, h2⟩
set_option maxRecDepth 100000 in
set_option maxHeartbeats 8000000 in
theorem rleave_any (base : Nat) (v va : Value) (es : List Ent) (ns : List Int) (node : Int) (w : World) (h : w.ownsRow base 128 6 v es.length (es.flatMap Ent.row)) (hfew : es.length ≤ 4096) (hno : NodesOk es) (hr : Reads w 1 va ns.length (ns.map (Value.int .i64))) (hn : ns.length ≤ 100) (hok : rightB ns = true) :
    Calls Try.prog 53 #[v, .int .i64 node, va] w (RLeaveOut w (leaveI es node ns)) := by
  have H := Lib.hid h
  have HNO := Lib.hid hno
  have HR := Lib.hid hr
  have HOK := Lib.hid hok
  obtain ⟨i0, hi, hz0, hz1, hz2⟩ := info_parts entry19_info
  have HI := Lib.hid hi
  have HZ0 := Lib.hid hz0
  have HZ1 := Lib.hid hz1
  have HZ2 := Lib.hid hz2
  clear hi hz0 hz1 hz2
  obtain ⟨i1, hi, hz0, hz1, hz2⟩ := info_parts rmove_info
  have KI := Lib.hid hi
  have KZ0 := Lib.hid hz0
  have KZ1 := Lib.hid hz1
  have KZ2 := Lib.hid hz2
  clear h hr hok hno hi hz0 hz1 hz2
  obtain ⟨res, hres⟩ : ∃ res, res = leaveI es node ns := ⟨_, rfl⟩
  rw [← hres]
  have HRES := Lib.hid hres
  clear hres
  go_enter Try.func53, Try.ntmps53
  go_wp2_with (at_builtin; refine wpList_append_reads _ rfl _ _ 72 rfl w.heap.size 128 i0 (.agg #[.int .i64 0, .int .i64 0, .int .i64 0, .int .i64 0, .int .i64 0, .bool false]) 6 48 Try.underlying72 HI.out HZ0.out HZ1.out HZ2.out rfl (by decide) (.slice (some ⟨w.heap.size, 0, none⟩) 0 0) 0 [] rfl (World.ownsRow_lit w #[] 0 (Nat.le_refl _) (by unfold maxLen; omega) rfl) v es.length (es.flatMap Ent.row) rfl ((reads_of_owns H.out).below (by repeat (first | (with_reducible exact Below.refl _ _) | (with_reducible refine Below.setCell ?_ ?_ _) | (with_reducible refine Below.alloc ?_ ?_ _) | (with_reducible refine Below.drewN ?_ _) | (with_reducible refine Below.drew ?_) | (with_reducible exact Nat.le_refl _) | (focus (simp only [World.size_alloc, World.size_setCell, World.size_drew, World.size_drewN]; omega)) | omega | exact Nat.le_refl _ | (focus (simp; done)) | (focus (simp; omega))))) (Ent.one es) (by unfold maxLen; omega) (by omega) (by simp) ?_; intro v1 w1 hown1 hg1 _; rw [Nat.zero_add, List.nil_append] at hown1; obtain ⟨a1, c1, rfl⟩ := ownsRow_len hown1; have HO1 := Lib.hid hown1; have HG1 := Lib.hid hg1; clear hown1 hg1)
  have HB1 := Lib.hid (show Below w.heap.size w w1 from ((Below.refl _ _).alloc (Nat.le_refl _) _).grown HG1.out (by simp) (by simp [Value.ownBlock]))
  have hz1 := HB1.out.size
  clear HG1
  go_loopw [8, 9] (fun ov i wr => ∃ (k : Nat) (out : List Mv) (l : List Ent) (ow : Value), k ≤ es.length ∧ i = .int .i64 k ∧ ov = ow ∧ leaveI es node ns = (leaveF node ns (l.length - k) k l).map (out ++ ·) ∧ l.length = es.length ∧ NodesOk l ∧ out.length ≤ k ∧
      wr.ownsRow w.heap.size 128 6 (.slice a1 es.length c1) l.length (l.flatMap Ent.row) ∧ wr.ownsRow w.heap.size 100 4 ow out.length (out.flatMap Mv.row) ∧ Below w.heap.size w wr) (fun _ i _ => es.length - (intOf i).toNat)
  case atStart => exact ⟨0, [], es, _, Nat.zero_le _, rfl, rfl, by simp [leaveI, Option.map_id'], rfl, HNO.out, Nat.le_refl _, HO1.out, World.ownsRow_nil _ _ _ _, HB1.out⟩
  case round =>
    obtain ⟨k, out, l, ow, hk, rfl, hov, hlv, hll, hnl, hol, hrow, hown, hbw⟩ := hrel
    have hov' := hov.symm
    clear hov
    subst hov'
    obtain ⟨ao, co, rfl⟩ := ownsRow_len hown
    have HLV := Lib.hid hlv
    have HLL := Lib.hid hll
    have HNL := Lib.hid hnl
    have HRW := Lib.hid hrow
    have HOW := Lib.hid hown
    have HBW := Lib.hid hbw
    have hzr := hbw.size
    clear hlv hll hnl hrow hown hbw
    by_cases hlt : k < es.length
    · have hkl : k < l.length := by have := HLL.out; omega
      obtain ⟨x, hx⟩ : ∃ x, l[k]? = some x := ⟨_, List.getElem?_eq_getElem hkl⟩
      obtain ⟨g3, cc3, e3, hg3, hg3b, _, x0, x1, x2, x3, x4, x5⟩ := row_ent19 HRW.out k x hx
      obtain ⟨e3', -, e3''⟩ := sl_inj e3
      subst e3' e3''
      have HX := Lib.hid hx
      have HP := Lib.hid (hasI_pos x node)
      have HXN := Lib.hid (HNL.out x (List.mem_of_getElem? HX.out))
      clear hx e3
      have HHA := Lib.hid (fun n W => has_any x n W)
      have HI3 := Lib.hid (fun W => HHA.out node W)
      obtain ⟨r, hr⟩ : ∃ r, hasI x node = r := ⟨_, rfl⟩
      rw [hr] at HI3 HP
      have HR' := Lib.hid hr
      clear hr
      obtain ⟨p, hp⟩ : ∃ p, hasB x node = p := ⟨_, rfl⟩
      rw [hp] at HP
      have HPB := Lib.hid hp
      clear hp
      have hk0 : (0 : Int) ≤ (k : Int) := by omega
      have hk1 : (k : Int) < (es.length : Int) := by omega
      obtain ⟨xv, hxv⟩ : ∃ xv, xv = x.vol := ⟨_, rfl⟩
      obtain ⟨xe, hxe⟩ : ∃ xe, xe = x.epoch := ⟨_, rfl⟩
      obtain ⟨xa, hxa⟩ : ∃ xa, xa = x.n0 := ⟨_, rfl⟩
      obtain ⟨xb, hxb⟩ : ∃ xb, xb = x.n1 := ⟨_, rfl⟩
      obtain ⟨xc, hxc⟩ : ∃ xc, xc = x.n2 := ⟨_, rfl⟩
      obtain ⟨xs, hxs⟩ : ∃ xs, xs = x.shut := ⟨_, rfl⟩
      rw [← hxv] at x0 HHA HI3
      rw [← hxe] at x1 HHA HI3
      rw [← hxa] at x2 HHA HI3
      rw [← hxb] at x3 HHA HI3
      rw [← hxc] at x4 HHA HI3
      rw [← hxs] at x5 HHA HI3
      have HXX := Lib.hid (And.intro hxv hxe)
      clear hxv hxe hxa hxb hxc hxs
      cases p
      · have hi : decide (r < 0) = true := by have := HP.out; simp at this ⊢; omega
        have HNX := Lib.hid (leaveF_no (node := node) (ns := ns) rfl HX.out HPB.out)
        go_wp2_with fail
        refine (HI3.out _).mono ?_
        rintro e w5 ⟨rfl, hb5⟩
        have HB5 := Lib.hid hb5
        clear hb5
        go_wp2_with fail
        go_roundw
        case rel => exact ⟨k + 1, out, l, _, by omega, by go_num, rfl, by rw [HLV.out, HNX.out], HLL.out, HNL.out, by omega, ownsRow_below HRW.out HB5.out, ownsRow_below HOW.out HB5.out, HBW.out.trans (HB5.out.mono hzr)⟩
        case measure => simp [intOf]; omega
      · have hi : decide (r < 0) = false := by have := HP.out; simp at this ⊢; omega
        obtain ⟨so, hso⟩ : ∃ so, so = sortI (fun j => (loadN l j : Int)) ns := ⟨_, rfl⟩
        have hsl : so.length = ns.length := by rw [hso]; simp [sortI]
        have HSO := Lib.hid hso
        have HSL := Lib.hid hsl
        have HSP := Lib.hid (show ∀ m ∈ so, placeB m = true from fun m hm => (right_nodes HOK.out).2 m ((List.mergeSort_perm _ _).mem_iff.1 (by rw [hso] at hm; exact hm)))
        clear hso hsl
        go_wp2_with fail
        refine (HI3.out _).mono ?_
        rintro e w5 ⟨rfl, hb5⟩
        have HB5 := Lib.hid hb5
        have hz5 := hb5.size
        clear hb5
        go_wp2_with fail
        refine (rorder_any w.heap.size _ va l ns _ (by rw [HLL.out]; have := ownsRow_below HRW.out HB5.out; rw [HLL.out] at this; exact this) (by have := HLL.out; omega) (HR.out.below (HBW.out.trans (HB5.out.mono hzr))) hn).mono ?_
        rintro e w6 ⟨v6, rfl, ho6, hb6⟩
        rw [← HSO.out] at ho6
        obtain ⟨a6, c6, rfl⟩ := ownsRow_len ho6
        have HO6 := Lib.hid ho6
        have hz6 := hb6.size
        have HB6 := Lib.hid (HB5.out.trans (hb6.mono hz5))
        clear ho6 hb6
        have y0 := (HB6.out.cell (p := ⟨g3, k * 6, none⟩) hg3).trans x0
        have y1 := (HB6.out.cell (p := ⟨g3, k * 6 + 1, none⟩) hg3).trans x1
        have y2 := (HB6.out.cell (p := ⟨g3, k * 6 + 2, none⟩) hg3).trans x2
        have y3 := (HB6.out.cell (p := ⟨g3, k * 6 + 3, none⟩) hg3).trans x3
        have y4 := (HB6.out.cell (p := ⟨g3, k * 6 + 4, none⟩) hg3).trans x4
        have y5 := (HB6.out.cell (p := ⟨g3, k * 6 + 5, none⟩) hg3).trans x5
        have KY := Lib.hid (And.intro y0 (And.intro y1 (And.intro y2 (And.intro y3 (And.intro y4 y5)))))
        have hg6 : g3 < w6.heap.size := by omega
        clear x0 x1 x2 x3 x4 x5 y0 y1 y2 y3 y4 y5
        obtain ⟨wo, rfl⟩ : ∃ wo : World, wo = wr := ⟨_, rfl⟩
        go_wp2_with fail
        go_loopw [12, 13] (fun tv jv wx => ∃ j : Nat, j ≤ ns.length ∧ jv = .int .i64 j ∧ tv = .int .i64 (toV x (so.take j)) ∧ Below w6.heap.size w6 wx) (fun _ jv _ => ns.length - (intOf jv).toNat)
        case atStart => exact ⟨0, Nat.zero_le _, rfl, rfl, Below.refl _ _⟩
        case round =>
          obtain ⟨j, hj, rfl, rfl, hbx⟩ := hrel
          have HBX := Lib.hid hbx
          have hzx := hbx.size
          obtain ⟨q0, q1, q2, q3, q4, q5⟩ := KY.out
          have x0 := (hbx.cell (p := ⟨g3, k * 6, none⟩) hg6).trans q0
          have x1 := (hbx.cell (p := ⟨g3, k * 6 + 1, none⟩) hg6).trans q1
          have x2 := (hbx.cell (p := ⟨g3, k * 6 + 2, none⟩) hg6).trans q2
          have x3 := (hbx.cell (p := ⟨g3, k * 6 + 3, none⟩) hg6).trans q3
          have x4 := (hbx.cell (p := ⟨g3, k * 6 + 4, none⟩) hg6).trans q4
          have x5 := (hbx.cell (p := ⟨g3, k * 6 + 5, none⟩) hg6).trans q5
          clear q0 q1 q2 q3 q4 q5 hbx
          have hg7 : g3 < wr.heap.size := by omega
          by_cases hjl : j < ns.length
          · obtain ⟨y, hy⟩ : ∃ y, so[j]? = some y := ⟨_, List.getElem?_eq_getElem (by have := HSL.out; omega)⟩
            obtain ⟨g6, rfl⟩ : ∃ g, a6 = some ⟨g, 0, none⟩ := by
              rcases HO6.out.2 with ⟨e, h0⟩ | ⟨g, _, _, e, _⟩
              · omega
              · simp only [Value.slice.injEq] at e
                exact ⟨g, e.1⟩
            have hgl := (HO6.out.lt g6 rfl).2
            have ky := (HBX.out.cell (p := ⟨g6, j, none⟩) hgl).trans (show w6.cell? ⟨g6, j, none⟩ = some (.int .i64 y) by rw [HO6.out.cellAt j (by omega), List.getElem?_map, hy]; rfl)
            have hst := toV_step (x := x) hy HSP.out
            obtain ⟨t0, ht0⟩ : ∃ t0, toV x (so.take j) = t0 := ⟨_, rfl⟩
            rw [ht0] at hst ⊢
            have hj0 : (0 : Int) ≤ (j : Int) := by omega
            have hj1 : (j : Int) < (ns.length : Int) := by omega
            obtain ⟨hcc1, hcc2⟩ := owns_cap HO6.out
            have hcc3 : (ns.length : Int) ≤ (c6 : Int) := by omega
            clear hy ht0 hcc1 hcc2
            rcases hst with ⟨hneg, hst⟩ | ⟨hpos, hst⟩
            · have ht : decide (t0 < 0) = true := by simpa using hneg
              have HIY := Lib.hid (fun W => HHA.out y W)
              have HPY := Lib.hid (hasI_pos x y)
              obtain ⟨r2, hr2⟩ : ∃ r2, hasI x y = r2 := ⟨_, rfl⟩
              rw [hr2] at HIY HPY
              obtain ⟨p2, hp2⟩ : ∃ p2, hasB x y = p2 := ⟨_, rfl⟩
              rw [hp2] at HPY hst
              have HST := Lib.hid hst
              clear hst hr2 hp2 hneg
              cases p2
              · have hi2 : decide (r2 < 0) = true := by have := HPY.out; simp at this ⊢; omega
                go_wp2_with fail
                refine wp_region_now0 [6, 10] [(0, 0), (1, 0), (2, 0), (3, 0), (4, 0), (5, 0), (6, 2), (7, 0), (8, 0), (9, 0), (10, 2), (11, 1), (12, 0), (13, 0)] (by kernel_rfl) (by kernel_rfl) rfl (by kernel_rfl) ?_
                refine stepE0 rfl rfl (fun K hK => ?_)
                go_simp
                refine hK _ ?_
                clear hK K
                refine stepE0 rfl rfl (fun K hK => ?_)
                go_simp
                refine hK _ ?_
                clear hK K
                refine stepE0 rfl rfl (fun K hK => ?_)
                go_simp
                refine hK _ ?_
                clear hK K
                refine stepE0 rfl rfl (fun K hK => ?_)
                go_simp
                refine hK _ ?_
                clear hK K
                refine stepE0 rfl rfl (fun K hK => ?_)
                go_simp
                refine hK _ ?_
                clear hK K
                refine stepE0 rfl rfl (fun K hK => ?_)
                go_simp
                refine hK _ ?_
                clear hK K
                refine stepE2 rfl rfl ?_ (fun w1 hS => ?_) (fun K hK => ?_)
                rotate_left
                focus (obtain rfl : w1 = _ := hS; go_simp; rfl)
                go_simp
                refine hK _ ?_
                clear hK K
                refine stepE0 rfl rfl (fun K hK => ?_)
                go_simp
                refine hK _ ?_
                clear hK K
                refine stepE0 rfl rfl (fun K hK => ?_)
                go_simp
                refine hK _ ?_
                clear hK K
                refine stepE0 rfl rfl (fun K hK => ?_)
                go_simp
                refine hK _ ?_
                clear hK K
                refine stepE2 rfl rfl ?_ (fun w1 hS => ?_) (fun K hK => ?_)
                rotate_left
                focus (obtain rfl : w1 = _ := hS; go_simp; rfl)
                go_simp
                refine hK _ ?_
                clear hK K
                refine stepE1 rfl rfl (by kernel_rfl) (fun K hK => ?_)
                (go_wp2_with fail; refine Calls.mono (HIY.out _) ?_; rintro e w7 ⟨rfl, hb7⟩; have HB7 := Lib.hid (show Below w6.heap.size w6 w7 from Below.trans HBX.out.drew (hb7.mono hzx)); have ky7 := (hb7.cell (p := ⟨g6, j, none⟩) (by simp; omega)).trans ky; clear hb7; go_wp2)
                refine stepE0 rfl rfl (fun K hK => ?_)
                go_simp
                refine hK _ ?_
                clear hK K
                refine stepE0 rfl rfl (fun K hK => ?_)
                go_simp
                refine hK _ ?_
                clear hK K
                try refine stepEnil0 ?_
                go_wp2_with fail
                go_roundw
                case rel => exact ⟨j + 1, by omega, by go_num, by rw [HST.out]; rfl, HB7.out⟩
                case measure => simp [intOf]; omega
              · have hi2 : decide (r2 < 0) = false := by have := HPY.out; simp at this ⊢; omega
                go_wp2_with fail
                refine wp_region_now0 [6, 10] [(0, 0), (1, 0), (2, 0), (3, 0), (4, 0), (5, 0), (6, 2), (7, 0), (8, 0), (9, 0), (10, 2), (11, 1), (12, 0), (13, 0)] (by kernel_rfl) (by kernel_rfl) rfl (by kernel_rfl) ?_
                refine stepE0 rfl rfl (fun K hK => ?_)
                go_simp
                refine hK _ ?_
                clear hK K
                refine stepE0 rfl rfl (fun K hK => ?_)
                go_simp
                refine hK _ ?_
                clear hK K
                refine stepE0 rfl rfl (fun K hK => ?_)
                go_simp
                refine hK _ ?_
                clear hK K
                refine stepE0 rfl rfl (fun K hK => ?_)
                go_simp
                refine hK _ ?_
                clear hK K
                refine stepE0 rfl rfl (fun K hK => ?_)
                go_simp
                refine hK _ ?_
                clear hK K
                refine stepE0 rfl rfl (fun K hK => ?_)
                go_simp
                refine hK _ ?_
                clear hK K
                refine stepE2 rfl rfl ?_ (fun w1 hS => ?_) (fun K hK => ?_)
                rotate_left
                focus (obtain rfl : w1 = _ := hS; go_simp; rfl)
                go_simp
                refine hK _ ?_
                clear hK K
                refine stepE0 rfl rfl (fun K hK => ?_)
                go_simp
                refine hK _ ?_
                clear hK K
                refine stepE0 rfl rfl (fun K hK => ?_)
                go_simp
                refine hK _ ?_
                clear hK K
                refine stepE0 rfl rfl (fun K hK => ?_)
                go_simp
                refine hK _ ?_
                clear hK K
                refine stepE2 rfl rfl ?_ (fun w1 hS => ?_) (fun K hK => ?_)
                rotate_left
                focus (obtain rfl : w1 = _ := hS; go_simp; rfl)
                go_simp
                refine hK _ ?_
                clear hK K
                refine stepE1 rfl rfl (by kernel_rfl) (fun K hK => ?_)
                (go_wp2_with fail; refine Calls.mono (HIY.out _) ?_; rintro e w7 ⟨rfl, hb7⟩; have HB7 := Lib.hid (show Below w6.heap.size w6 w7 from Below.trans HBX.out.drew (hb7.mono hzx)); clear hb7; go_wp2)
                refine stepE0 rfl rfl (fun K hK => ?_)
                go_simp
                refine hK _ ?_
                clear hK K
                refine stepE0 rfl rfl (fun K hK => ?_)
                go_simp
                refine hK _ ?_
                clear hK K
                try refine stepEnil0 ?_
                go_wp2_with fail
                go_roundw
                case rel => exact ⟨j + 1, by omega, by go_num, by rw [HST.out]; rfl, HB7.out⟩
                case measure => simp [intOf]; omega
            · have ht : decide (t0 < 0) = false := by simp; omega
              have HST := Lib.hid hst
              clear hst
              go_wp2_with fail
              refine wp_region_mask0 (fun w1 => w1 = _) [6, 10] [0, 1, 3, 7, 7, 31, 63, 7, 7, 391, 903, 2047, 4095, 8191] (.op 0 0 (.op 1 0 (.op 2 0 (.op 3 0 (.op 4 0 (.op 5 0 (.op 6 2 (.op 7 0 (.op 8 0 (.op 9 0 (.op 10 2 (.op 11 1 (.op 12 0 (.op 13 0 .nil)))))))))))))) (by kernel_rfl) (by kernel_rfl) rfl (by kernel_rfl) (by kernel_rfl) rfl ?_
              refine stepM0 rfl rfl (fun K hK => ?_)
              go_simp
              refine hK _ ?_
              clear hK K
              refine stepM0 rfl rfl (fun K hK => ?_)
              go_simp
              refine hK _ ?_
              clear hK K
              refine stepM0 rfl rfl (fun K hK => ?_)
              go_simp
              refine hK _ ?_
              clear hK K
              refine stepMy0 rfl rfl (fun K hK => ?_)
              go_simp
              refine hK _ ?_
              clear hK K
              refine stepMy0 rfl rfl (fun K hK => ?_)
              go_simp
              refine hK _ ?_
              clear hK K
              refine stepMy0 rfl rfl (fun K hK => ?_)
              go_simp
              refine hK _ ?_
              clear hK K
              refine stepMy2 rfl rfl (fun K hK => ?_)
              go_simp
              refine hK _ ?_
              clear hK K
              refine stepMy0 rfl rfl (fun K hK => ?_)
              go_simp
              refine hK _ ?_
              clear hK K
              refine stepMy0 rfl rfl (fun K hK => ?_)
              go_simp
              refine hK _ ?_
              clear hK K
              refine stepMy0 rfl rfl (fun K hK => ?_)
              go_simp
              refine hK _ ?_
              clear hK K
              refine stepMy2 rfl rfl (fun K hK => ?_)
              go_simp
              refine hK _ ?_
              clear hK K
              refine stepMy1 rfl rfl (fun K hK => ?_)
              go_simp
              refine hK _ ?_
              clear hK K
              refine stepMy0 rfl rfl (fun K hK => ?_)
              go_simp
              refine hK _ ?_
              clear hK K
              refine stepM0 rfl rfl (fun K hK => ?_)
              go_simp
              refine hK _ ?_
              clear hK K
              try refine stepMnil0 ?_
              go_wp2_with fail
              go_roundw
              case rel => exact ⟨j + 1, by omega, by go_num, by rw [HST.out], HBX.out.drew⟩
              case measure => simp [intOf]; omega
          · have HTK := Lib.hid (show so.take j = so from List.take_of_length_le (by have := HSL.out; omega))
            rw [HTK.out]
            have HMO := Lib.hid (show mayOf l ns x = so.filter fun t => !hasB x t by rw [HSO.out]; rfl)
            obtain ⟨t, ht⟩ : ∃ t, toV x so = t := ⟨_, rfl⟩
            rw [ht]
            have HT := Lib.hid ht
            clear ht
            have HBWX := Lib.hid (show Below wo.heap.size wo wr from HB6.out.trans (HBX.out.mono (by omega)))
            rcases hmc : (so.filter fun t => !hasB x t) with _ | ⟨t', rest⟩
            · have hneg : decide (t < 0) = true := by have := HT.out; rw [toV, hmc] at this; simp at this ⊢; omega
              have HFU := Lib.hid (leaveF_full (node := node) (ns := ns) rfl HX.out HPB.out (by rw [HMO.out, hmc]))
              clear hmc
              go_wp2_with fail
              go_ret2
              exact RLeaveOut.no (by rw [HRES.out, HLV.out, HFU.out]; rfl) rfl (HBW.out.trans (HBWX.out.mono hzr))
            · have htt : t' = t := by have := HT.out; rw [toV, hmc] at this; simpa using this
              subst htt
              have hmem : t' ∈ so.filter fun t => !hasB x t := by rw [hmc]; exact List.mem_cons_self
              have htp := HSP.out t' (List.mem_filter.1 hmem).1
              have htb : hasB x t' = false := by simpa using (List.mem_filter.1 hmem).2
              have hneg : decide (t' < 0) = false := by simp [placeB] at htp ⊢; omega
              have HGO := Lib.hid (leaveF_go (node := node) (ns := ns) (t := t') (r := rest) rfl HX.out HPB.out (by rw [HMO.out, hmc]))
              have HTT := Lib.hid (And.intro htp htb)
              have HRW7 := Lib.hid (show wr.ownsRow w.heap.size 128 6 (.slice (some ⟨g3, 0, none⟩) es.length c1) l.length (l.flatMap Ent.row) from ownsRow_below HRW.out HBWX.out)
              have HOW7 := Lib.hid (ownsRow_below HOW.out HBWX.out)
              have HAP := Lib.hid (rows_apart (by decide) HRW7.out HOW7.out g3 rfl)
              clear hmc hmem htp htb
              go_wp2_with fail
              refine wp_region_now0 [5, 10] [(0, 0), (1, 0), (2, 0), (3, 0), (4, 0), (5, 2), (6, 0), (7, 0), (8, 0), (9, 0), (10, 2), (11, 0), (12, 0), (13, 0), (14, 1), (15, 1), (16, 0)] (by kernel_rfl) (by kernel_rfl) rfl (by kernel_rfl) ?_
              refine stepE0 rfl rfl (fun K hK => ?_)
              go_simp
              refine hK _ ?_
              clear hK K
              refine stepE0 rfl rfl (fun K hK => ?_)
              go_simp
              refine hK _ ?_
              clear hK K
              refine stepE0 rfl rfl (fun K hK => ?_)
              go_simp
              refine hK _ ?_
              clear hK K
              refine stepE0 rfl rfl (fun K hK => ?_)
              go_simp
              refine hK _ ?_
              clear hK K
              refine stepE0 rfl rfl (fun K hK => ?_)
              go_simp
              refine hK _ ?_
              clear hK K
              refine stepE2 rfl rfl ?_ (fun w1 hS => ?_) (fun K hK => ?_)
              rotate_left
              focus (obtain rfl : w1 = _ := hS; go_simp; rfl)
              go_simp
              refine hK _ ?_
              clear hK K
              refine stepE0 rfl rfl (fun K hK => ?_)
              go_simp
              refine hK _ ?_
              clear hK K
              refine stepE0 rfl rfl (fun K hK => ?_)
              go_simp
              refine hK _ ?_
              clear hK K
              refine stepE0 rfl rfl (fun K hK => ?_)
              go_simp
              refine hK _ ?_
              clear hK K
              refine stepE0 rfl rfl (fun K hK => ?_)
              go_simp
              refine hK _ ?_
              clear hK K
              refine stepE2 rfl rfl ?_ (fun w1 hS => ?_) (fun K hK => ?_)
              rotate_left
              focus (obtain rfl : w1 = _ := hS; go_simp; rfl)
              go_simp
              refine hK _ ?_
              clear hK K
              refine stepE0 rfl rfl (fun K hK => ?_)
              go_simp
              refine hK _ ?_
              clear hK K
              refine stepE0 rfl rfl (fun K hK => ?_)
              go_simp
              refine hK _ ?_
              clear hK K
              refine stepE0 rfl rfl (fun K hK => ?_)
              go_simp
              refine hK _ ?_
              clear hK K
              refine stepE1 rfl rfl (by kernel_rfl) (fun K hK => ?_)
              go_wp2
              refine stepE1 rfl rfl (by kernel_rfl) (fun K hK => ?_)
              (refine wp_append_reads _ _ _ 97 rfl w.heap.size 100 i1 (.agg #[.int .i64 0, .int .i64 0, .int .i64 0, .int .i64 0]) 4 32 Try.underlying97 KI.out KZ0.out KZ1.out KZ2.out rfl (by decide) (.slice ao out.length co) out.length (out.flatMap Mv.row) rfl ((HOW7.out.alloc _).drew) (.slice (some ⟨wr.heap.size, 0, none⟩) 1 1) 1 [.int .i64 xv, .int .i64 xe, .int .i64 r, .int .i64 t'] rfl (reads_row4 wr _ _ _ _ _) (by simp [Value.oneCell']) (by unfold maxLen; omega) (by omega) (by have := HBW.out.size; have := HBWX.out.size; simp; omega) ?_; intro v8 w8 hown8 hg8 hat8; have HOW8 := Lib.hid hown8; have HG8 := Lib.hid hg8; clear hown8 hg8 hat8; go_wp2)
              refine stepE0 rfl rfl (fun K hK => ?_)
              go_simp
              refine hK _ ?_
              clear hK K
              try refine stepEnil0 ?_
              have hz8 := HG8.out.size
              simp only [World.size_drew, World.size_alloc] at hz8
              have HRW8 := Lib.hid (show w8.ownsRow w.heap.size 128 6 (.slice (some ⟨g3, 0, none⟩) es.length c1) l.length (l.flatMap Ent.row) from
                ownsRow_at HRW7.out fun j hj => (HG8.out.block j (by have := (HRW7.out.lt j hj).2; simp; omega) (fun e => by
                  simp only [Value.ownBlock, Option.some.injEq] at hj
                  subst hj
                  exact HAP.out e.symm)).trans (Below.heap_alloc _ _ _ (HRW7.out.lt j hj).2))
              have HB8 := Lib.hid (show Below w.heap.size w w8 from (((HBW.out.trans (HBWX.out.mono hzr)).alloc (by have := HBWX.out.size; omega) _).drew).grown HG8.out (by have := HBWX.out.size; simp; omega) (fun j hj => (HOW7.out.lt j hj).1))
              have hap8 := rows_apart (by decide) HRW8.out HOW8.out g3 rfl
              have HRE8 := Lib.hid (show w8.ownsRow w.heap.size 128 6 (.slice (some ⟨g3, 0, none⟩) es.length c1) es.length (l.flatMap Ent.row) by have := HRW8.out; rw [HLL.out] at this; exact this)
              have zf : ∀ o, w8.frozen? ⟨g3, o, none⟩ = false := fun o => HRE8.out.frozenAt o
              have hg8w : g3 < w8.heap.size := (HRW8.out.lt g3 rfl).2
              obtain ⟨g9, cc9, e9, _, _, _, _, _, q2, q3, q4, _⟩ := row_ent19 HRW8.out k x HX.out
              obtain ⟨e9', -, -⟩ := sl_inj e9
              obtain rfl : g3 = g9 := by simpa using e9'
              clear e9 e9'
              have HAP8 := Lib.hid hap8
              clear hap8
              have hxa : Apart3 x := ⟨HXN.out.2.2.2.1, HXN.out.2.2.2.2.1, HXN.out.2.2.2.2.2⟩
              have HFIN := Lib.hid (show ∀ (i : Nat) (W : World), i < 6 → (x.mv node t').row = x.row.set i (.int .i64 t') → W = w8.setCell ⟨g3, k * 6 + i, none⟩ (.int .i64 t') →
                  W.ownsRow w.heap.size 128 6 (.slice (some ⟨g3, 0, none⟩) es.length c1) (l.set k (x.mv node t')).length ((l.set k (x.mv node t')).flatMap Ent.row) ∧
                  W.ownsRow w.heap.size 100 4 v8 (out ++ [(⟨x.vol, x.epoch, hasI x node, t'⟩ : Mv)]).length ((out ++ [(⟨x.vol, x.epoch, hasI x node, t'⟩ : Mv)]).flatMap Mv.row) ∧ Below w.heap.size w W from by
                intro i W hi hset hW
                subst hW
                have h1 := (HRE8.out.stored (k * 6 + i) (.int .i64 t')).1
                rw [flatMap_cell Ent.row 6 (fun _ => rfl) x (x.mv node t') (.int .i64 t') i hi hset l k HX.out] at h1
                have e : (out ++ [(⟨x.vol, x.epoch, hasI x node, t'⟩ : Mv)]).flatMap Mv.row = out.flatMap Mv.row ++ [.int .i64 xv, .int .i64 xe, .int .i64 r, .int .i64 t'] := by
                  rw [List.flatMap_append, HXX.out.1, HXX.out.2, HR'.out.symm]
                  simp [Mv.row]
                refine ⟨by rw [List.length_set, HLL.out]; exact h1, ?_, HB8.out.setCell (HRW8.out.lt g3 rfl).1 _⟩
                rw [e, List.length_append]
                exact ownsRow_setCell_other HOW8.out HAP8.out _)
              have HLV' := Lib.hid (show leaveI es node ns = (leaveF node ns ((l.set k (x.mv node t')).length - (k + 1)) (k + 1) (l.set k (x.mv node t'))).map ((out ++ [(⟨x.vol, x.epoch, hasI x node, t'⟩ : Mv)]) ++ ·) by
                rw [HLV.out, HGO.out, Option.map_map, List.length_set]
                congr 1
                funext q
                simp)
              have hcas := hasI_cases HPB.out
              rw [HR'.out] at hcas
              rcases hcas with ⟨hc, hc2⟩ | ⟨hc, hc2⟩ | ⟨hc, hc2⟩
              · have HC2 := Lib.hid (hc2 t')
                have HC := Lib.hid hc
                clear hc2
                subst hc
                go_wp2_with fail
                go_roundw
                case rel =>
                  obtain ⟨f1, f2, f3⟩ := HFIN.out 2 _ (by omega) HC2.out rfl
                  exact ⟨k + 1, _, l.set k (x.mv node t'), _, by omega, by go_num, rfl, HLV'.out, by rw [List.length_set]; exact HLL.out, nodes_set HNL.out HX.out HTT.out.1 HPB.out HTT.out.2, by simp; omega, f1, f2, f3⟩
                case measure => simp [intOf]; omega
              · have HC2 := Lib.hid (hc2 t')
                clear hc2
                subst hc
                go_wp2_with fail
                go_roundw
                case rel =>
                  obtain ⟨f1, f2, f3⟩ := HFIN.out 3 _ (by omega) HC2.out rfl
                  exact ⟨k + 1, _, l.set k (x.mv node t'), _, by omega, by go_num, rfl, HLV'.out, by rw [List.length_set]; exact HLL.out, nodes_set HNL.out HX.out HTT.out.1 HPB.out HTT.out.2, by simp; omega, f1, f2, f3⟩
                case measure => simp [intOf]; omega
              · have HC2 := Lib.hid (hc2 t')
                clear hc2
                subst hc
                go_wp2_with fail
                go_roundw
                case rel =>
                  obtain ⟨f1, f2, f3⟩ := HFIN.out 4 _ (by omega) HC2.out rfl
                  exact ⟨k + 1, _, l.set k (x.mv node t'), _, by omega, by go_num, rfl, HLV'.out, by rw [List.length_set]; exact HLL.out, nodes_set HNL.out HX.out HTT.out.1 HPB.out HTT.out.2, by simp; omega, f1, f2, f3⟩
                case measure => simp [intOf]; omega
    · have HEN := Lib.hid (show leaveF node ns (l.length - k) k l = some [] by rw [show l.length - k = 0 by have := HLL.out; omega]; rfl)
      go_wp2_with fail
      go_ret2
      exact RLeaveOut.yes (by rw [HRES.out, HLV.out, HEN.out]; simp) rfl HOW.out HBW.out
end Go.Proofs.Ytigkcbnlbdiimaa

/- corncriblaw27.made; place.New. -/
namespace Go.Proofs.Ytigkcbnlbdiimaa
open Go.RowKit
/-- What made gives. -/
def MadeOut (w : World) (cs : List Cmd) (e : Ending) (w' : World) : Prop :=
  ∃ bm v xv, e = .returned (.tuple #[.pointer (some ⟨bm, 0, none⟩), xv]) ∧ MapAt w' w.heap.size bm v (doAll [] cs) ∧ w'.ownsRow w.heap.size 128 6 xv (doAll [] cs).length ((doAll [] cs).flatMap Ent.row) ∧ Below w.heap.size w w'
set_option maxRecDepth 100000 in
set_option maxHeartbeats 4000000 in
theorem made_any (ao : Option Addr) (n cap : Nat) (cs : List Cmd) (w : World) (hl : cs.length = n) (hn : n ≤ 60) (hA : 0 < n → ∃ b off, ao = some ⟨b, off, none⟩ ∧ b < w.heap.size ∧ CmdsAt w b off cs) :
    Calls Try.prog 42 #[.slice ao n cap] w (MadeOut w cs) := by
  have HL := Lib.hid hl
  have HA := Lib.hid hA
  clear hl hA
  go_enter Try.func42, Try.ntmps42
  go_wp2_with fail
  refine (new_any _).mono ?_
  rintro e w1 ⟨rfl, rfl⟩
  go_wp2_with fail
  go_loopw [5, 6] (fun x i wr => ∃ (k : Nat) (xv v : Value), k ≤ n ∧ i = .int .i64 k ∧ x = xv ∧ MapAt wr w.heap.size w.heap.size v (doAll [] (cs.take k)) ∧ wr.ownsRow w.heap.size 128 6 xv (doAll [] (cs.take k)).length ((doAll [] (cs.take k)).flatMap Ent.row) ∧ Below w.heap.size w wr) (fun _ i _ => n - (intOf i).toNat)
  case atStart => exact ⟨0, _, .slice none 0 0, Nat.zero_le _, rfl, rfl, ⟨heap_alloc_new _ _, World.ownsRow_nil _ _ _ _, Nat.le_refl _, by simp [Value.ownBlock], by simp [doAll]⟩, World.ownsRow_nil _ _ _ _, (by repeat (first | (with_reducible exact Below.refl _ _) | (with_reducible refine Below.setCell ?_ ?_ _) | (with_reducible refine Below.alloc ?_ ?_ _) | (with_reducible refine Below.drewN ?_ _) | (with_reducible refine Below.drew ?_) | (with_reducible exact Nat.le_refl _) | (focus (simp only [World.size_alloc, World.size_setCell, World.size_drew, World.size_drewN]; omega)) | omega | exact Nat.le_refl _ | (focus (simp; done)) | (focus (simp; omega))))⟩
  case round =>
    obtain ⟨i, x, v, hi, rfl, hx, hmap, hown, hb⟩ := hrel
    have hx' := hx.symm
    clear hx
    subst hx'
    have HM := Lib.hid hmap
    have HX := Lib.hid hown
    have HB := Lib.hid hb
    have hzr := hb.size
    clear hmap hown hb
    by_cases hlt : i < n
    · obtain ⟨c, hc⟩ : ∃ c, cs[i]? = some c := ⟨_, List.getElem?_eq_getElem (by rw [HL.out]; exact hlt)⟩
      have HTK := Lib.hid (take_snoc_get cs i c hc)
      obtain ⟨b, off, rfl, hbb, hC⟩ := HA.out (by omega)
      obtain ⟨q0, q1, q2, q3, q4, q5, q6, q7⟩ := hC i c hc
      have eb := fun o => HB.out.cell (p := ⟨b, o, none⟩) hbb
      have k0 := (eb _).trans q0
      have k1 := (eb _).trans q1
      have k2 := (eb _).trans q2
      have k3 := (eb _).trans q3
      have k4 := (eb _).trans q4
      have k5 := (eb _).trans q5
      have k6 := (eb _).trans q6
      have k7 := (eb _).trans q7
      have hdl : (doAll [] (cs.take i)).length ≤ 4096 := by have := doAll_few (cs.take i) []; simp at this; omega
      obtain ⟨es, hes⟩ : ∃ es, es = doAll [] (cs.take i) := ⟨_, rfl⟩
      have HES := Lib.hid hes
      rw [← hes] at HM HX hdl
      have HDL := Lib.hid hdl
      clear hc hC eb hes hdl
      have hi0 : (0 : Int) ≤ (i : Int) := by omega
      have hi1 : (i : Int) < (n : Int) := by omega
      obtain ⟨ck, cv, ce, cp, cn, c0, c1, c2⟩ := c
      go_wp2_with fail
      refine (do_any _ _ v es ⟨ck, cv, ce, cp, cn, c0, c1, c2⟩ _ HM.out).mono ?_
      rintro e w5 hdo
      have hu := hdo.under HM.out (Nat.le_refl _) HB.out
      have hbs := hdo.beside HM.out HX.out
      obtain ⟨rfl, v5, hm5, _, _⟩ := hdo
      have HM5 := Lib.hid hm5
      have HX5 := Lib.hid hbs
      have HB5 := Lib.hid hu
      have hz5 := hu.size
      have eb := fun o => hu.cell (p := ⟨b, o, none⟩) hbb
      have j0 := (eb _).trans q0
      have j1 := (eb _).trans q1
      have j2 := (eb _).trans q2
      have j3 := (eb _).trans q3
      have j4 := (eb _).trans q4
      have j5 := (eb _).trans q5
      have j6 := (eb _).trans q6
      have j7 := (eb _).trans q7
      clear hm5 hbs hu eb q0 q1 q2 q3 q4 q5 q6 q7
      go_wp2_with fail
      refine (ref_do_any w.heap.size x es ⟨ck, cv, ce, cp, cn, c0, c1, c2⟩ _ HX5.out HDL.out (by omega)).mono ?_
      rintro e w6 ⟨v6, rfl, hr6, hb6⟩
      have HX6 := Lib.hid hr6
      have HM6 := Lib.hid (HM5.out.below hb6)
      have HB6 := Lib.hid (HB5.out.trans (hb6.mono hz5))
      clear hr6 hb6
      go_wp2_with fail
      go_roundw
      case rel =>
        have hs : doAll [] (cs.take (i + 1)) = doEs es ⟨ck, cv, ce, cp, cn, c0, c1, c2⟩ := by rw [HTK.out, doAll_snoc, ← HES.out]
        refine ⟨i + 1, v6, v5, by omega, by go_num, rfl, ?_, ?_, HB6.out⟩
        · rw [hs]; exact HM6.out
        · rw [hs]; exact HX6.out
      case measure => simp [intOf]; omega
    · have hcs : cs.take i = cs := List.take_of_length_le (by rw [HL.out]; omega)
      rw [hcs] at HM HX
      clear hcs
      go_wp2_with fail
      go_ret2
      exact ⟨_, v, _, rfl, HM.out, HX.out, HB.out⟩
set_option maxHeartbeats 1000000 in
theorem pnew_bad (base bm : Nat) (v va : Value) (es : List Ent) (ns : List Int) (w : World) (h : MapAt w base bm v es) (hr : Reads w 1 va ns.length (ns.map (Value.int .i64))) (hcap : ∀ a n c, va = .slice a n c → n ≤ c) (hok : rightB ns = false) :
    Calls Try.prog 48 #[.pointer (some ⟨bm, 0, none⟩), va] w fun e w' => e = .returned (.tuple #[.int .i64 0, errV 1]) ∧ Below w.heap.size w w' := by
  have HN := Lib.hid (errV_ne (k := 1) (by omega))
  have HO := Lib.hid (pick_bad base bm v va es ns w h hr hcap hok)
  clear h hr hcap hok
  go_enter Try.func48, Try.ntmps48
  go_wp2_with fail
  refine HO.out.mono ?_
  rintro e w1 ⟨rfl, hb1⟩
  have HB := Lib.hid hb1
  have hz := hb1.size
  clear hb1
  rw [HN.out]
  go_wp2_with fail
  go_ret2
  exact ⟨by rw [HN.out]; rfl, HB.out.alloc hz _⟩
set_option maxHeartbeats 1000000 in
theorem pnew_few (base bm : Nat) (v va : Value) (es : List Ent) (ns : List Int) (w : World) (h : MapAt w base bm v es) (hno : NodesOk es) (hr : Reads w 1 va ns.length (ns.map (Value.int .i64))) (hcap : ∀ a n c, va = .slice a n c → n ≤ c) (hok : rightB ns = true) (hl : ns.length < 3) :
    Calls Try.prog 48 #[.pointer (some ⟨bm, 0, none⟩), va] w fun e w' => e = .returned (.tuple #[.int .i64 0, errV 11]) ∧ Below w.heap.size w w' := by
  have HN := Lib.hid (errV_ne (k := 11) (by omega))
  have HO := Lib.hid (pick_any base bm v va es ns w h hno hr hcap hok)
  have HL := Lib.hid hl
  clear h hr hcap hok hno hl
  go_enter Try.func48, Try.ntmps48
  go_wp2_with fail
  refine HO.out.mono ?_
  rintro e w1 ⟨a, b, c, rfl, _, hb1⟩
  have HB := Lib.hid hb1
  have hz := hb1.size
  clear hb1
  rw [if_pos HL.out, HN.out]
  go_wp2_with fail
  go_ret2
  exact ⟨by rw [HN.out]; rfl, HB.out.alloc hz _⟩
set_option maxRecDepth 100000 in
set_option maxHeartbeats 1000000 in
theorem pnew_any (base bm : Nat) (v va : Value) (es : List Ent) (ns : List Int) (w : World) (h : MapAt w base bm v es) (hno : NodesOk es) (hr : Reads w 1 va ns.length (ns.map (Value.int .i64))) (hcap : ∀ a n c, va = .slice a n c → n ≤ c) (hok : rightB ns = true) (hl : 3 ≤ ns.length) :
    Calls Try.prog 48 #[.pointer (some ⟨bm, 0, none⟩), va] w fun e w' => ∃ a b c w1, [a, b, c] = (sortI (fun k => (loadN es k : Int)) ns).take 3 ∧ Below w.heap.size w w1 ∧ DoOut w1 base bm v (doEs es ⟨1, 0, 0, 0, 0, a, b, c⟩) (doN es ⟨1, 0, 0, 0, 0, a, b, c⟩) (doK es ⟨1, 0, 0, 0, 0, a, b, c⟩) e w' := by
  have HO := Lib.hid (pick_any base bm v va es ns w h hno hr hcap hok)
  have HL := Lib.hid (show ¬ ns.length < 3 by omega)
  have H := Lib.hid h
  clear h hr hcap hok hno hl
  go_enter Try.func48, Try.ntmps48
  go_wp2_with fail
  refine HO.out.mono ?_
  rintro e w1 ⟨a, b, c, rfl, habc, hb1⟩
  rw [if_neg HL.out] at habc
  have HABC := Lib.hid habc
  have HB := Lib.hid hb1
  have hz := hb1.size
  clear hb1 habc
  rw [if_neg HL.out, show errV 0 = .nilIface from rfl]
  go_wp2_with fail
  refine (do_any base bm v es ⟨1, 0, 0, 0, 0, a, b, c⟩ _ ((H.out.below HB.out).below (by repeat (first | (with_reducible exact Below.refl _ _) | (with_reducible refine Below.setCell ?_ ?_ _) | (with_reducible refine Below.alloc ?_ ?_ _) | (with_reducible refine Below.drewN ?_ _) | (with_reducible refine Below.drew ?_) | (with_reducible exact Nat.le_refl _) | (focus (simp only [World.size_alloc, World.size_setCell, World.size_drew, World.size_drewN]; omega)) | omega | exact Nat.le_refl _ | (focus (simp; done)) | (focus (simp; omega)))))).mono ?_
  rintro e w2 hdo
  obtain ⟨rfl, hrest⟩ := hdo
  have HR := Lib.hid hrest
  clear hrest
  go_wp2_with fail
  go_ret2
  exact ⟨a, b, c, _, HABC.out, HB.out.alloc hz _, rfl, HR.out⟩
end Go.Proofs.Ytigkcbnlbdiimaa

/- corncriblaw27.alive. -/
namespace Go.Proofs.Ytigkcbnlbdiimaa
open Go.RowKit
theorem reads_lit (w : World) (us : List Value) (T n c B : Nat) (hn : us.length = n) (h : n ≤ maxLen) (hB : w.heap.size = B) : Reads (w.alloc (.cells us.toArray T)) 1 (.slice (some ⟨B, 0, none⟩) n c) n us := by
  subst hB
  exact ⟨by simp [hn], .inr ⟨_, _, rfl, h, World.news_of_block (heap_alloc_new w _)⟩⟩
theorem MapAt.made_at (w : World) (base B : Nat) (hB : w.heap.size = B) (hb : base ≤ B) : MapAt (w.alloc (.cells #[.slice none 0 0] 105)) base B (.slice none 0 0) [] := by
  subst hB
  exact MapAt.made w base hb
@[go_sem] theorem eq3_top (a b c x y z : Int) (w : World) :
    (Op.equalIn 10000 30 (.agg #[.int .i64 a, .int .i64 b, .int .i64 c]) (.agg #[.int .i64 x, .int .i64 y, .int .i64 z])).run Try.prog w = .ok (a == x && (b == y && c == z)) w := eq3 9998 a b c x y z w
theorem nodes_nil : NodesOk [] := fun x hx => by simp at hx
theorem sort_alive : sortI (fun k => (loadN [] k : Int)) [5, 3, 9, 4] = [3, 4, 5, 9] := by rw [← refOrd_eq]; decide
set_option maxRecDepth 100000 in
set_option maxHeartbeats 1000000 in
theorem alive27 (w : World) : Calls Try.prog 41 #[] w fun e w' => e = .returned (.bool true) ∧ Below w.heap.size w w' := by
  go_enter Try.func41, Try.ntmps41
  go_wp2_with fail
  refine (new_any _).mono ?_
  rintro e w1 ⟨rfl, rfl⟩
  go_wp2_with fail
  refine (pick_any w.heap.size w.heap.size (.slice none 0 0) _ [] [5, 3, 9, 4] _ ((MapAt.made w _ (Nat.le_refl _)).below (by repeat (first | (with_reducible exact Below.refl _ _) | (with_reducible refine Below.setCell ?_ ?_ _) | (with_reducible refine Below.alloc ?_ ?_ _) | (with_reducible refine Below.drewN ?_ _) | (with_reducible refine Below.drew ?_) | (with_reducible exact Nat.le_refl _) | (focus (simp only [World.size_alloc, World.size_setCell, World.size_drew, World.size_drewN]; omega)) | omega | exact Nat.le_refl _ | (focus (simp; done)) | (focus (simp; omega))))) nodes_nil (reads_lit _ [.int .i64 5, .int .i64 3, .int .i64 9, .int .i64 4] _ 4 4 _ rfl (by unfold maxLen; omega) (by simp)) (fun a n c h => by simp only [Value.slice.injEq] at h; omega) rfl).mono ?_
  rintro e w2 ⟨a, b, c, rfl, habc, hb2⟩
  have hn : ¬ ([5, 3, 9, 4] : List Int).length < 3 := by decide
  rw [if_neg hn] at habc ⊢
  rw [sort_alive] at habc
  simp only [List.take, List.cons.injEq, and_true] at habc
  obtain ⟨rfl, rfl, rfl⟩ := habc
  have HB2 := Lib.hid (show Below w.heap.size w w2 from Below.trans (by repeat (first | (with_reducible exact Below.refl _ _) | (with_reducible refine Below.setCell ?_ ?_ _) | (with_reducible refine Below.alloc ?_ ?_ _) | (with_reducible refine Below.drewN ?_ _) | (with_reducible refine Below.drew ?_) | (with_reducible exact Nat.le_refl _) | (focus (simp only [World.size_alloc, World.size_setCell, World.size_drew, World.size_drewN]; omega)) | omega | exact Nat.le_refl _ | (focus (simp; done)) | (focus (simp; omega)))) (hb2.mono (by simp; omega)))
  have hz2 := HB2.out.size
  clear hb2 hn
  rw [errV_zero]
  go_wp2_with fail
  refine (new_any _).mono ?_
  rintro e w3 ⟨rfl, rfl⟩
  go_wp2_with fail
  refine (pick_any w2.heap.size (w2.heap.size + 1) (.slice none 0 0) _ [] [5, 3] _ ((MapAt.made_at (w2.alloc (.cells #[.int .i64 3, .int .i64 4, .int .i64 5] 30)) _ _ (by exact World.size_alloc _ _) (by omega)).below (by exact Below.alloc (Below.refl _ _) (Nat.le_refl _) _)) nodes_nil (reads_lit _ [.int .i64 5, .int .i64 3] _ 2 2 _ rfl (by unfold maxLen; omega) (by simp)) (fun a n c h => by simp only [Value.slice.injEq] at h; omega) rfl).mono ?_
  rintro e w3 ⟨a, b, c, rfl, habc, hb3⟩
  have hn : ([5, 3] : List Int).length < 3 := by decide
  rw [if_pos hn] at habc ⊢
  obtain ⟨rfl, rfl, rfl⟩ := habc
  have hz23 := hb3.size
  simp only [World.size_alloc] at hz23
  have hbk := hb3.block w2.heap.size (by simp only [World.size_alloc]; omega)
  have hb2' : ((w2.alloc (.cells #[.int .i64 3, .int .i64 4, .int .i64 5] 30)).alloc (.cells #[.slice none 0 0] 105)).alloc (.cells #[.int .i64 5, .int .i64 3] 3) = ((w2.alloc (.cells #[.int .i64 3, .int .i64 4, .int .i64 5] 30)).alloc (.cells #[.slice none 0 0] 105)).alloc (.cells #[.int .i64 5, .int .i64 3] 3) := rfl
  rw [Below.heap_alloc _ _ _ (by simp only [World.size_alloc]; omega), Below.heap_alloc _ _ _ (by simp only [World.size_alloc]; omega), heap_alloc_new] at hbk
  have z0 := cell_of_row w3 w2.heap.size 0 _ _ _ hbk
  have z1 := cell_of_row w3 w2.heap.size 1 _ _ _ hbk
  have z2 := cell_of_row w3 w2.heap.size 2 _ _ _ hbk
  simp at z0 z1 z2
  have HB3 := Lib.hid (show Below w.heap.size w w3 from HB2.out.trans (Below.trans (b := ((w2.alloc (.cells #[.int .i64 3, .int .i64 4, .int .i64 5] 30)).alloc (.cells #[.slice none 0 0] 105)).alloc (.cells #[.int .i64 5, .int .i64 3] 3)) (by repeat (first | (with_reducible exact Below.refl _ _) | (with_reducible refine Below.setCell ?_ ?_ _) | (with_reducible refine Below.alloc ?_ ?_ _) | (with_reducible refine Below.drewN ?_ _) | (with_reducible refine Below.drew ?_) | (with_reducible exact Nat.le_refl _) | (focus (simp only [World.size_alloc, World.size_setCell, World.size_drew, World.size_drewN]; omega)) | omega | exact Nat.le_refl _ | (focus (simp; done)) | (focus (simp; omega)))) (hb3.mono (by simp; omega))))
  have hz3 := HB3.out.size
  have hz24 : w2.heap.size < w3.heap.size := by omega
  clear hb3 hbk hn hb2' hz23
  have HN := Lib.hid (errV_ne (k := 11) (by omega))
  go_wp2_with fail
  refine (code_any 0 (by omega) (by omega) _).mono ?_
  rintro e w4 ⟨rfl, rfl⟩
  go_wp2_with fail
  refine (code_any 11 (by omega) (by omega) _).mono ?_
  rintro e w4 ⟨rfl, rfl⟩
  go_wp2_with fail
  go_ret
  exact ⟨rfl, HB3.out.alloc hz3 _⟩
end Go.Proofs.Ytigkcbnlbdiimaa

/- DirsParts: what its counts come to, in plain words. No program. -/
namespace Go.Proofs.Ytigkcbnlbdiimaa
open Go.RowKit
/-- The nodes of a volume are no two alike, and from 0 to 255. -/
def Sound (es : List Ent) : Prop := ∀ (i : Nat) (x : Ent), es[i]? = some x → x.n0 ≠ x.n1 ∧ x.n1 ≠ x.n2 ∧ x.n0 ≠ x.n2 ∧ 0 ≤ x.n0 ∧ x.n0 ≤ 255 ∧ 0 ≤ x.n1 ∧ x.n1 ≤ 255 ∧ 0 ≤ x.n2 ∧ x.n2 ≤ 255
theorem placeB_iff (n : Int) : placeB n = true ↔ 0 ≤ n ∧ n ≤ 255 := by simp [placeB]
theorem sound_turn (x : Ent) (c : Cmd) (h : x.n0 ≠ x.n1 ∧ x.n1 ≠ x.n2 ∧ x.n0 ≠ x.n2 ∧ 0 ≤ x.n0 ∧ x.n0 ≤ 255 ∧ 0 ≤ x.n1 ∧ x.n1 ≤ 255 ∧ 0 ≤ x.n2 ∧ x.n2 ≤ 255) (ht : turnE x c = 0) (hk : c.kind = 2 ∨ c.kind = 3 ∨ c.kind = 4) :
    (turnX x c).n0 ≠ (turnX x c).n1 ∧ (turnX x c).n1 ≠ (turnX x c).n2 ∧ (turnX x c).n0 ≠ (turnX x c).n2 ∧ 0 ≤ (turnX x c).n0 ∧ (turnX x c).n0 ≤ 255 ∧ 0 ≤ (turnX x c).n1 ∧ (turnX x c).n1 ≤ 255 ∧ 0 ≤ (turnX x c).n2 ∧ (turnX x c).n2 ≤ 255 := by
  rcases hk with h2 | h3 | h4
  · simp only [turnX, h2, if_true]; exact h
  · have : ¬ (3 : Int) = 2 := by omega
    simp only [turnX, h3, if_true, this, if_false]; exact h
  · have n2 : ¬ (4 : Int) = 2 := by omega
    have n3 : ¬ (4 : Int) = 3 := by omega
    simp only [turnE, h4, n2, n3, if_true, if_false, errNode] at ht
    split at ht
    · cases ht
    · split at ht
      · cases ht
      · rename_i hs hc
        simp only [turnX, h4, n2, n3, if_true, if_false]
        have hp : 0 ≤ c.node ∧ c.node ≤ 255 := by
          cases hp : placeB c.node
          · exact absurd (.inr (.inr hp)) hs
          · exact (placeB_iff _).1 hp
        have c0 : ¬ x.n0 = c.node := fun h => hc (.inl h)
        have c1 : ¬ x.n1 = c.node := fun h => hc (.inr (.inl h))
        have c2 : ¬ x.n2 = c.node := fun h => hc (.inr (.inr h))
        have hs1 : ¬ c.spot < 0 := fun h => hs (.inl h)
        have hs2 : ¬ 3 ≤ c.spot := fun h => hs (.inr (.inl h))
        have hs0 : c.spot = 0 ∨ c.spot = 1 ∨ c.spot = 2 := by omega
        rcases hs0 with h | h | h
        all_goals
          simp only [h]
          refine ⟨?_, ?_, ?_, ?_, ?_, ?_, ?_, ?_, ?_⟩ <;> simp <;> omega
theorem sound_do (es : List Ent) (c : Cmd) (h : Sound es) : Sound (doEs es c) := by
  rcases do_ways es c with ⟨_, e, _⟩ | ⟨_, _, _, ht, e, _⟩ | ⟨_, j, x, hx, _, _, ht, hk, e, _⟩
  · rw [e]; exact h
  · rw [e]
    intro i y hy
    rw [List.getElem?_append] at hy
    split at hy
    · exact h i y hy
    · have hy' : y = ⟨(es.length : Int) + 1, 1, c.n0, c.n1, c.n2, false⟩ := by
        rcases Nat.lt_or_ge (i - es.length) 1 with h' | h'
        · have : i - es.length = 0 := by omega
          rw [this] at hy
          simpa using hy.symm
        · rw [List.getElem?_eq_none (by simpa using h')] at hy; cases hy
      subst hy'
      simp [threeB, placeB] at ht
      simp only [ne_eq]
      omega
  · rw [e]
    intro i y hy
    rw [List.getElem?_set] at hy
    split at hy
    · split at hy
      · cases hy
        exact sound_turn x c (h j x hx) ht hk
      · cases hy
    · exact h i y hy
theorem sound_all (cs : List Cmd) : ∀ (es : List Ent), Sound es → Sound (doAll es cs) := by
  induction cs with
  | nil => intro es h; exact h
  | cons c cs ih => intro es h; exact ih _ (sound_do es c h)
/-- How many volumes have a node, all nodes below m together. -/
def cntOn (es : List Ent) : Nat → Nat
  | 0 => 0
  | m + 1 => cntOn es m + (onVols (m : Int) es).length
def has1 (n : Int) (m : Nat) : Nat := if 0 ≤ n ∧ n < (m : Int) then 1 else 0
def hit (m : Nat) (x : Ent) : Nat := has1 x.n0 m + has1 x.n1 m + has1 x.n2 m
theorem onB_iff (node : Int) (x : Ent) : onB node x = true ↔ node = x.n0 ∨ node = x.n1 ∨ node = x.n2 := by
  simp [onB]
theorem hit_succ (m : Nat) (x : Ent) (h : x.n0 ≠ x.n1 ∧ x.n1 ≠ x.n2 ∧ x.n0 ≠ x.n2) : hit (m + 1) x = hit m x + if onB (m : Int) x = true then 1 else 0 := by
  have hs : ∀ n : Int, has1 n (m + 1) = has1 n m + if n = (m : Int) then 1 else 0 := by
    intro n
    unfold has1
    split <;> split <;> split <;> omega
  have e : (if onB (m : Int) x = true then 1 else 0) = (if x.n0 = (m : Int) then 1 else 0) + (if x.n1 = (m : Int) then 1 else 0) + (if x.n2 = (m : Int) then 1 else 0) := by
    obtain ⟨h1, h2, h3⟩ := h
    by_cases hb : onB (m : Int) x = true
    · rw [if_pos hb]
      rw [onB_iff] at hb
      split <;> split <;> split <;> omega
    · rw [if_neg hb]
      rw [onB_iff] at hb
      split <;> split <;> split <;> omega
  rw [e]
  simp only [hit, hs]
  omega
theorem cntOn_sum (es : List Ent) (h : Sound es) (m : Nat) : cntOn es m = (es.map (hit m)).sum := by
  induction m with
  | zero =>
    have : ∀ x, hit 0 x = 0 := fun x => by simp only [hit, has1]; repeat (first | omega | split)
    rw [show hit 0 = fun _ => 0 from funext this]
    have hz : ∀ l : List Ent, 0 = (l.map fun _ => 0).sum := fun l => by
      induction l with
      | nil => rfl
      | cons x l ih => simpa using ih
    rw [cntOn]
    exact hz es
  | succ m ih =>
    rw [cntOn, ih]
    clear ih
    induction es with
    | nil => simp [onVols]
    | cons x es ih =>
      have h0 := h 0 x rfl
      have h' : Sound es := fun i y hy => h (i + 1) y hy
      have := ih h'
      rw [List.map_cons, List.sum_cons, List.map_cons, List.sum_cons, hit_succ m x ⟨h0.1, h0.2.1, h0.2.2.1⟩, ← this]
      simp only [onVols, List.filter_cons]
      split <;> simp <;> omega
theorem cntOn_all (es : List Ent) (h : Sound es) : cntOn es 256 = 3 * es.length := by
  rw [cntOn_sum es h]
  induction es with
  | nil => rfl
  | cons x es ih =>
    obtain ⟨_, _, _, a1, a2, b1, b2, c1, c2⟩ := h 0 x rfl
    have h' : Sound es := fun i y hy => h (i + 1) y hy
    rw [List.map_cons, List.sum_cons, ih h', List.length_cons]
    have : hit 256 x = 3 := by
      unfold hit has1
      rw [if_pos (by omega), if_pos (by omega), if_pos (by omega)]
    omega
theorem cntOn_le (es : List Ent) (m : Nat) : cntOn es m ≤ m * es.length := by
  induction m with
  | zero => simp [cntOn]
  | succ m ih =>
    have := onVols_len (m : Int) es
    rw [cntOn, Nat.succ_mul]
    omega
/-- A volume that On tells is there, and has the node. -/
theorem onVols_at (E : Int) (node : Int) (es : List Ent) (hg : Good E es) (j : Nat) (vol : Int) (h : (onVols node es)[j]? = some vol) : ∃ (k : Nat) (x : Ent), vol = (k : Int) + 1 ∧ es[k]? = some x ∧ onB node x = true := by
  have hm := List.mem_of_getElem? h
  simp only [onVols, List.mem_map, List.mem_filter] at hm
  obtain ⟨x, ⟨hx, hb⟩, rfl⟩ := hm
  obtain ⟨k, hk, rfl⟩ := List.mem_iff_getElem.1 hx
  have hk' : es[k]? = some es[k] := List.getElem?_eq_getElem hk
  exact ⟨k, es[k], (hg k _ hk').1, hk', hb⟩
end Go.Proofs.Ytigkcbnlbdiimaa

/- DirsParts: the walk. -/
namespace Go.Proofs.Ytigkcbnlbdiimaa
open Go.RowKit
theorem cmd_info : (Try.prog.info? 32).map (fun i => (i.zero, i.size, i.bytes)) = some (some (.agg #[.int .i64 0, .int .i64 0, .int .i64 0, .int .i64 0, .int .i64 0, .int .i64 0, .int .i64 0, .int .i64 0]), 8, 64) := by kernel_rfl
/-- The cells of one command of an owned row. -/
theorem row_cmd {w : World} {base : Nat} {v : Value} {n : Nat} {cs : List Cmd} (hr : w.ownsRow base 32 8 v n (cs.flatMap Cmd.row)) (k : Nat) (x : Cmd) (hx : cs[k]? = some x) :
    ∃ g c, v = .slice (some ⟨g, 0, none⟩) n c ∧ g < w.heap.size ∧ base ≤ g ∧ k < n ∧
      w.cell? ⟨g, k * 8, none⟩ = some (.int .i64 x.kind) ∧ w.cell? ⟨g, k * 8 + 1, none⟩ = some (.int .i64 x.vol) ∧ w.cell? ⟨g, k * 8 + 2, none⟩ = some (.int .i64 x.epoch) ∧
      w.cell? ⟨g, k * 8 + 3, none⟩ = some (.int .i64 x.spot) ∧ w.cell? ⟨g, k * 8 + 4, none⟩ = some (.int .i64 x.node) ∧ w.cell? ⟨g, k * 8 + 5, none⟩ = some (.int .i64 x.n0) ∧
      w.cell? ⟨g, k * 8 + 6, none⟩ = some (.int .i64 x.n1) ∧ w.cell? ⟨g, k * 8 + 7, none⟩ = some (.int .i64 x.n2) := by
  have hk : k < cs.length := (List.getElem?_eq_some_iff.1 hx).1
  have hlen := hr.1
  rw [length_flatMap_row Cmd.row 8 Cmd.row_len] at hlen
  have hlt := hr.lt
  rcases hr.2 with ⟨_, hz⟩ | ⟨g, cap, cur, rfl, hg, _⟩
  · omega
  · have hg1 := hlt g rfl
    have hc := fun j hj => ownsRow_cell Cmd.row 8 Cmd.row_len cs hr k j x hx hj
    refine ⟨g, cap, rfl, hg1.2, hg1.1, by omega, ?_, ?_, ?_, ?_, ?_, ?_, ?_, ?_⟩
    · exact hc 0 (by omega)
    · exact hc 1 (by omega)
    · exact hc 2 (by omega)
    · exact hc 3 (by omega)
    · exact hc 4 (by omega)
    · exact hc 5 (by omega)
    · exact hc 6 (by omega)
    · exact hc 7 (by omega)
/-- .. all of them, as a contract of commands asks. -/
theorem cmds_row {w : World} {base : Nat} {a : Option Addr} {n c : Nat} {cs : List Cmd} (hr : w.ownsRow base 32 8 (.slice a n c) n (cs.flatMap Cmd.row)) (h0 : 0 < n) :
    ∃ g, a = some ⟨g, 0, none⟩ ∧ g < w.heap.size ∧ base ≤ g ∧ CmdsAt w g 0 cs := by
  have hlt := hr.lt
  rcases hr.2 with ⟨_, hz⟩ | ⟨g, cap, cur, e, hg, _⟩
  · omega
  · obtain ⟨rfl, -, rfl⟩ := slice_inj e
    have hg1 := hlt g rfl
    refine ⟨g, rfl, hg1.2, hg1.1, fun i x hx => ?_⟩
    obtain ⟨g', c', e', _, _, _, hcs⟩ := row_cmd hr i x hx
    obtain ⟨e1, -, -⟩ := slice_inj e'
    simp at e1
    subst e1
    simpa using hcs
theorem CmdsAt.take {w : World} {b off : Nat} {cs : List Cmd} (h : CmdsAt w b off cs) (k : Nat) : CmdsAt w b off (cs.take k) := fun i c hc => by
  refine h i c ?_
  rw [List.getElem?_take] at hc
  split at hc
  · exact hc
  · cases hc
theorem CmdsAt.below {w w' : World} {b off : Nat} {cs : List Cmd} (h : CmdsAt w b off cs) {B : Nat} (hb : Below B w w') (hlt : b < B) : CmdsAt w' b off cs := fun i c hc => by
  obtain ⟨h0, h1, h2, h3, h4, h5, h6, h7⟩ := h i c hc
  have e := fun o => hb.cell (p := ⟨b, o, none⟩) hlt
  exact ⟨(e _).trans h0, (e _).trans h1, (e _).trans h2, (e _).trans h3, (e _).trans h4, (e _).trans h5, (e _).trans h6, (e _).trans h7⟩
theorem flatMap_snoc {α β : Type} (f : α → List β) (l : List α) (k : Nat) (x : α) (hx : l[k]? = some x) : (l.take (k + 1)).flatMap f = (l.take k).flatMap f ++ f x := by
  rw [take_snoc_get l k x hx]
  simp
theorem emod_nat (x n : Nat) : ((x : Int) % ((n : Int) + 1)) = ((x % (n + 1) : Nat) : Int) := by
  rw [Int.natCast_emod]; rfl
set_option maxRecDepth 100000 in
set_option maxHeartbeats 8000000 in
theorem parts_any (ao : Option Addr) (n cap : Nat) (cs : List Cmd) (at0 : Nat) (hat : at0 ≤ 255) (w : World) (hl : cs.length = n) (hn : n ≤ 100) (hA : 0 < n → ∃ b off, ao = some ⟨b, off, none⟩ ∧ b < w.heap.size ∧ CmdsAt w b off cs) :
    Calls Try.prog 5 #[.slice ao n cap, .int .u8 at0] w fun e w' => e = .returned (.bool true) ∧ Below w.heap.size w w' := by
  have HL := Lib.hid hl
  have HA := Lib.hid hA
  clear hl hA
  obtain ⟨i0, hi, hz0, hz1, hz2⟩ := info_parts cmd_info
  have HI := Lib.hid hi
  have HZ0 := Lib.hid hz0
  have HZ1 := Lib.hid hz1
  have HZ2 := Lib.hid hz2
  clear hi hz0 hz1 hz2
  have hd100 : decide ((100 : Int) < (n : Int)) = false := by simp; omega
  go_enter Try.func5, Try.ntmps5
  go_wp2_with fail
  refine (alive19 _).mono ?_
  rintro e w1 ⟨rfl, hb1⟩
  have hz1 := hb1.size
  have HB1 := Lib.hid hb1
  clear hb1
  go_wp2_with fail
  go_loopw [5, 6] (fun c i wr => ∃ k : Nat, k ≤ n ∧ i = .int .i64 k ∧ wr.ownsRow w.heap.size 32 8 c k ((cs.take k).flatMap Cmd.row) ∧ Below w.heap.size w wr) (fun _ i _ => n - (intOf i).toNat)
  case atStart => exact ⟨0, Nat.zero_le _, rfl, World.ownsRow_nil _ _ _ _, HB1.out⟩
  case round =>
    obtain ⟨i, hi, rfl, hown, hbw⟩ := hrel
    have HOW := Lib.hid hown
    have HBW := Lib.hid hbw
    have hzr := hbw.size
    obtain ⟨ac, cc, rfl⟩ := ownsRow_len hown
    clear hown hbw
    by_cases hlt : i < n
    · obtain ⟨c, hc⟩ : ∃ c, cs[i]? = some c := ⟨_, List.getElem?_eq_getElem (by rw [HL.out]; exact hlt)⟩
      obtain ⟨b, off, rfl, hb, hC⟩ := HA.out (by omega)
      obtain ⟨q0, q1, q2, q3, q4, q5, q6, q7⟩ := hC i c hc
      clear hC
      have k0 := (HBW.out.cell (p := ⟨b, off + i * 8, none⟩) hb).trans q0
      have k1 := (HBW.out.cell (p := ⟨b, off + i * 8 + 1, none⟩) hb).trans q1
      have k2 := (HBW.out.cell (p := ⟨b, off + i * 8 + 2, none⟩) hb).trans q2
      have k3 := (HBW.out.cell (p := ⟨b, off + i * 8 + 3, none⟩) hb).trans q3
      have k4 := (HBW.out.cell (p := ⟨b, off + i * 8 + 4, none⟩) hb).trans q4
      have k5 := (HBW.out.cell (p := ⟨b, off + i * 8 + 5, none⟩) hb).trans q5
      have k6 := (HBW.out.cell (p := ⟨b, off + i * 8 + 6, none⟩) hb).trans q6
      have k7 := (HBW.out.cell (p := ⟨b, off + i * 8 + 7, none⟩) hb).trans q7
      have hbr : b < wr.heap.size := by omega
      have HT := Lib.hid (flatMap_snoc Cmd.row cs i c hc)
      obtain ⟨ck, cv, ce, cp, cn, c0, c1, c2⟩ := c
      clear hc q0 q1 q2 q3 q4 q5 q6 q7
      go_wp2_with (at_builtin; refine wpList_append_own _ rfl _ _ 46 rfl w.heap.size 32 i0 (.agg #[.int .i64 0, .int .i64 0, .int .i64 0, .int .i64 0, .int .i64 0, .int .i64 0, .int .i64 0, .int .i64 0]) 8 64 Try.underlying46 HI.out HZ0.out HZ1.out HZ2.out rfl (by decide) (.slice ac i cc) i _ rfl (HOW.out.alloc _) ⟨wr.heap.size, 0, none⟩ 1 1 [.int .i64 ck, .int .i64 cv, .int .i64 ce, .int .i64 cp, .int .i64 cn, .int .i64 c0, .int .i64 c1, .int .i64 c2] rfl rfl (World.news_of_block (heap_alloc_new wr _)) (by simp [Value.oneCell']) (by unfold maxLen; omega) (by omega) (by simp; omega) ?_; intro v' w5 hown' hgrow _; have HOX := Lib.hid hown'; have HGX := Lib.hid hgrow; clear hown' hgrow)
      go_roundw
      case rel => exact ⟨i + 1, by omega, by go_num, by rw [HT.out]; exact HOX.out, (HBW.out.alloc hzr _).grown HGX.out (by simp; omega) (fun g hg => (HOW.out.lt g hg).1)⟩
      case measure => simp [intOf]; omega
    · have hin : i = n := by omega
      subst hin
      have HOC := Lib.hid (show wr.ownsRow w.heap.size 32 8 (.slice ac i cc) i (cs.flatMap Cmd.row) from by
        have := HOW.out
        rwa [List.take_of_length_le (by rw [HL.out]; omega)] at this)
      clear hlt HOW
      obtain ⟨kk, hkk⟩ : ∃ kk, at0 % (i + 1) = kk := ⟨_, rfl⟩
      have hki : kk ≤ i := by have := Nat.mod_lt at0 (show 0 < i + 1 by omega); omega
      have HMC := Lib.hid (emod_nat at0 i)
      have HKK := Lib.hid hkk
      clear hkk
      have hcc : i ≤ cc := by
        rcases HOC.out.2 with ⟨e, h0⟩ | ⟨g, cap', cur, e, _, _, h1, _⟩
        · omega
        · obtain ⟨_, _, rfl⟩ := slice_inj e
          exact h1
      have hcm : cc ≤ 9223372036854775807 := by
        rcases HOC.out.2 with ⟨e, h0⟩ | ⟨g, cap', cur, e, _, _, _, h1, _⟩
        · obtain ⟨_, _, rfl⟩ := slice_inj e; omega
        · obtain ⟨_, _, rfl⟩ := slice_inj e
          exact h1
      have hkc : (kk : Int) ≤ (cc : Int) := by omega
      have HCA := Lib.hid (fun h0 => cmds_row HOC.out h0)
      go_wp2_with fail
      rw [HMC.out, HKK.out]
      refine (replay_any ac i cc cs _ HL.out (by omega) (fun h0 => by obtain ⟨g, h1, h2, _, h3⟩ := HCA.out h0; exact ⟨g, 0, h1, h2, h3⟩)).mono ?_
      rintro e w2 ⟨rfl, ⟨va, hma⟩, hb2⟩
      have HMA := Lib.hid hma
      have HB2 := Lib.hid hb2
      have hz2 := hb2.size
      have HOC2 := Lib.hid (ownsRow_below HOC.out hb2)
      clear hma hb2
      have HLA := Lib.hid (cntAll_le [] cs)
      have hta : (cntAll [] cs : Int) ≤ 100 := by have := HLA.out; have := HL.out; omega
      obtain ⟨ta, hta'⟩ : ∃ t, cntAll [] cs = t := ⟨_, rfl⟩
      have HTA := Lib.hid hta'
      rw [hta'] at hta ⊢
      clear hta'
      go_wp2_with fail
      refine (replay_any ac kk cc (cs.take kk) _ (by rw [List.length_take, HL.out]; omega) (by omega) (fun h0 => by
        obtain ⟨g, h1, h2, _, h3⟩ := HCA.out (by omega)
        exact ⟨g, 0, h1, by have := HB2.out.size; omega, (h3.below HB2.out h2).take kk⟩)).mono ?_
      rintro e w3 ⟨rfl, ⟨vb, hmb⟩, hb3⟩
      have HMB := Lib.hid hmb
      have HB3 := Lib.hid hb3
      have hz3 := hb3.size
      have HMA3 := Lib.hid (HMA.out.below hb3)
      have HOC3 := Lib.hid (ownsRow_below HOC2.out hb3)
      have HW3 := Lib.hid ((HBW.out.trans (HB2.out.mono hzr)).trans (hb3.mono (Nat.le_trans hzr hz2)))
      clear hmb hb3
      have HLB := Lib.hid (cntAll_le [] (cs.take kk))
      obtain ⟨wo, rfl⟩ : ∃ wo : World, wo = wr := ⟨_, rfl⟩
      go_wp2_with fail
      go_loopw [11, 12] (fun t j wx => ∃ k : Nat, k ≤ i ∧ j = .int .i64 k ∧ t = .int .i64 (cntAll [] (cs.take k) : Nat) ∧ (∃ v, MapAt wx w2.heap.size w2.heap.size v (doAll [] (cs.take k))) ∧ Below w2.heap.size w2 wx) (fun _ j _ => i - (intOf j).toNat)
      case atStart => exact ⟨kk, hki, rfl, rfl, ⟨_, HMB.out⟩, HB3.out⟩
      case round =>
        obtain ⟨k, hk, rfl, rfl, ⟨v, hm⟩, hbw⟩ := hrel
        have HM := Lib.hid hm
        have HBX := Lib.hid hbw
        have hzx := hbw.size
        clear hm hbw
        by_cases hlt2 : k < i
        · obtain ⟨c, hc⟩ : ∃ c, cs[k]? = some c := ⟨_, List.getElem?_eq_getElem (by rw [HL.out]; exact hlt2)⟩
          obtain ⟨g, cg, e1, hg, _, _, k0, k1, k2, k3, k4, k5, k6, k7⟩ := row_cmd (ownsRow_at HOC2.out (fun b hb => HBX.out.block b (HOC2.out.lt b hb).2)) k c hc
          obtain ⟨rfl, -, rfl⟩ := slice_inj e1
          have HT := Lib.hid (take_snoc_get cs k c hc)
          have HCS := Lib.hid (cntAll_snoc [] (cs.take k) c)
          have HDS := Lib.hid (doAll_snoc [] (cs.take k) c)
          have hcl : (cntAll [] (cs.take k) : Int) ≤ 100 := by
            have := cntAll_le [] (cs.take k)
            simp at this
            omega
          have hcl0 : (0 : Int) ≤ (cntAll [] (cs.take k) : Int) := by omega
          have hdk := doK_le (doAll [] (cs.take k)) c
          clear hc e1
          generalize cntAll [] (cs.take k) = t at *
          generalize doAll [] (cs.take k) = es at *
          obtain ⟨nd, hnd⟩ : ∃ nd, doN es c = nd := ⟨_, rfl⟩
          have HND := Lib.hid hnd
          obtain ⟨kd, hkd⟩ : ∃ kd : Nat, doK es c = kd := ⟨_, rfl⟩
          rw [hkd] at hdk
          have HKD := Lib.hid hkd
          clear hnd hkd
          go_wp2_with fail
          refine (do_at w2.heap.size w2.heap.size v es _ c nd kd _ HM.out rfl HND.out (by rw [HKD.out])).mono ?_
          rintro e w4 hd
          have HU := Lib.hid (hd.under (w0 := w2) HM.out (Nat.le_refl _) HBX.out)
          obtain ⟨rfl, v4, hm4, _, _⟩ := hd
          have HM4 := Lib.hid hm4
          clear hm4
          go_wp2_with fail
          refine (code_any _ (by omega) (by omega) _).mono ?_
          rintro e w5 ⟨rfl, rfl⟩
          by_cases hk0 : kd = 0
          · subst hk0
            go_wp2_with fail
            go_roundw
            case rel => exact ⟨k + 1, by omega, by go_num, by rw [HT.out, HCS.out, okN, if_pos HKD.out]; go_num, ⟨v4, by rw [HT.out, HDS.out]; exact HM4.out⟩, HU.out⟩
            case measure => simp [intOf]; omega
          · have hkb : ((kd : Int) == 0) = false := by rw [beq_eq_false_iff_ne]; omega
            have HK0 := Lib.hid hk0
            clear hk0
            go_wp2_with fail
            go_roundw
            case rel => exact ⟨k + 1, by omega, by go_num, by rw [HT.out, HCS.out, okN, if_neg (by rw [HKD.out]; exact HK0.out)]; rfl, ⟨v4, by rw [HT.out, HDS.out]; exact HM4.out⟩, HU.out⟩
            case measure => simp [intOf]; omega
        · have hke : cs.take k = cs := List.take_of_length_le (by rw [HL.out]; omega)
          rw [hke] at HM ⊢
          rw [HTA.out]
          clear hke
          have hgood : Good (1 + (i : Int)) (doAll [] cs) := by
            have := good_all cs 1 [] (fun i x hx => by simp at hx) (by omega) (by rw [HL.out]; omega)
            rwa [HL.out] at this
          have hsound := sound_all cs [] (fun i x hx => by simp at hx)
          have HMAx := Lib.hid (HMA.out.below (HBX.out))
          generalize doAll [] cs = es at *
          have HGD := Lib.hid hgood
          have HSD := Lib.hid hsound
          have hfew := HM.out.few
          clear hgood hsound
          go_wp2_with fail
          refine (bytes_any _ _ _ es (1 + (i : Int)) _ HMAx.out HGD.out (by omega)).mono ?_
          rintro e w4 ⟨v4, rfl, ho4, hb4⟩
          have HB4 := Lib.hid hb4
          have HR4 := Lib.hid (reads_of_owns ho4)
          have HMA4 := Lib.hid (HMAx.out.below hb4)
          have HM4 := Lib.hid (HM.out.below hb4)
          have hz4 := hb4.size
          clear ho4 hb4
          go_wp2_with fail
          refine (bytes_any _ _ _ es (1 + (i : Int)) _ HM4.out HGD.out (by omega)).mono ?_
          rintro e w5 ⟨v5, rfl, ho5, hb5⟩
          have HR5 := Lib.hid (reads_of_owns ho5)
          have HR45 := Lib.hid (HR4.out.below hb5)
          have HMA5 := Lib.hid (HMA4.out.below hb5)
          have HB5 := Lib.hid (HB4.out.trans (hb5.mono hz4))
          have hz5 := hb5.size
          clear ho5 hb5
          go_wp2_with fail
          refine (same_any _ _ _ _ _ HR45.out HR5.out).mono ?_
          rintro e w6 ⟨rfl, hb6⟩
          have HMA6 := Lib.hid (HMA5.out.below hb6)
          have HB6 := Lib.hid (HB5.out.trans (hb6.mono (Nat.le_trans hz4 hz5)))
          have hz6 := hb6.size
          clear hb6
          rw [decide_eq_true (rfl : mapBytes es = mapBytes es)]
          have HW6 := Lib.hid ((HBW.out.trans (HB2.out.mono hzr)).trans ((HBX.out.trans (HB6.out.mono hzx)).mono (Nat.le_trans hzr hz2)))
          obtain ⟨wp, hwp⟩ : ∃ wp : World, wr = wp := ⟨_, rfl⟩
          subst hwp
          go_wp2_with fail
          go_loopw [15, 16] (fun t j wx => ∃ m : Nat, m ≤ 256 ∧ j = .int .i64 m ∧ t = .int .i64 (cntOn es m : Nat) ∧ Below w6.heap.size w6 wx) (fun _ j _ => 256 - (intOf j).toNat)
          case atStart => exact ⟨0, by omega, rfl, rfl, Below.refl _ _⟩
          case round =>
            obtain ⟨m, hm, rfl, rfl, hbm⟩ := hrel
            have HBM := Lib.hid hbm
            have hzm := hbm.size
            have hcm1 : (cntOn es m : Int) ≤ 1048576 := by
              have h1 := cntOn_le es m
              have h2 : m * es.length ≤ 256 * 4096 := Nat.mul_le_mul hm hfew
              omega
            have hcm0 : (0 : Int) ≤ (cntOn es m : Int) := by omega
            clear hbm
            by_cases hlt3 : m < 256
            · have HCS := Lib.hid (show cntOn es (m + 1) = cntOn es m + (onVols (m : Int) es).length from rfl)
              go_wp2_with fail
              refine (on_any _ _ _ es (m : Int) _ (HMA6.out.below HBM.out)).mono ?_
              rintro e w7 ⟨v7, rfl, ho7, hb7⟩
              have HMA7 := Lib.hid ((HMA6.out.below HBM.out).below hb7)
              have HB7 := Lib.hid (HBM.out.trans (hb7.mono hzm))
              have HO7 := Lib.hid ho7
              have hz7 := hb7.size
              obtain ⟨a7, c7, rfl⟩ := ownsRow_len ho7
              have hol := onVols_len (m : Int) es
              clear ho7 hb7
              generalize cntOn es m = ct at *
              obtain ⟨wq, hwq⟩ : ∃ wq : World, wr = wq := ⟨_, rfl⟩
              subst hwq
              go_wp2_with fail
              go_loopw [15, 18] (fun t j wx => ∃ q : Nat, q ≤ (onVols (m : Int) es).length ∧ j = .int .i64 q ∧ t = .int .i64 ((ct + q : Nat) : Int) ∧ Below w7.heap.size w7 wx) (fun _ j _ => (onVols (m : Int) es).length - (intOf j).toNat)
              case atStart => exact ⟨0, by omega, rfl, rfl, Below.refl _ _⟩
              case round =>
                obtain ⟨q, hq, rfl, rfl, hbq⟩ := hrel
                have HBQ := Lib.hid hbq
                have hzq := hbq.size
                clear hbq
                by_cases hlt4 : q < (onVols (m : Int) es).length
                · obtain ⟨vol, hvol⟩ : ∃ vol, (onVols (m : Int) es)[q]? = some vol := ⟨_, List.getElem?_eq_getElem hlt4⟩
                  obtain ⟨kx, x, rfl, hx, hbx⟩ := onVols_at _ _ _ HGD.out q vol hvol
                  have ho7 := ownsRow_below HO7.out HBQ.out
                  have hown8 : ∃ g, a7 = some ⟨g, 0, none⟩ ∧ wr.cell? ⟨g, q, none⟩ = some (.int .i64 ((kx : Int) + 1)) := by
                    rcases ho7.2 with ⟨e, h0⟩ | ⟨g, cap', cur, e, _⟩
                    · omega
                    · obtain ⟨rfl, -, rfl⟩ := slice_inj e
                      refine ⟨g, rfl, ?_⟩
                      rw [ho7.cellAt q (by omega), List.getElem?_map, hvol]
                      rfl
                  obtain ⟨g, rfl, kq⟩ := hown8
                  rw [onB_iff] at hbx
                  have HX := Lib.hid hx
                  have HBXX := Lib.hid hbx
                  clear hx hbx hvol ho7
                  have hct : (ct : Int) + (q : Int) ≤ 2000000 := by omega
                  go_wp2_with fail
                  refine (find_yes _ _ _ es kx x _ (HMA7.out.below HBQ.out) HX.out).mono ?_
                  rintro e w8 ⟨rfl, hb8⟩
                  have HB8 := Lib.hid (HBQ.out.trans (hb8.mono hzq))
                  have hz8 := hb8.size
                  clear hb8
                  obtain ⟨xv, xe, xa, xb, xc, xs⟩ := x
                  go_wp2_with fail
                  refine (code_nil _).mono ?_
                  rintro e w9 ⟨rfl, rfl⟩
                  have hbx : (m : Int) = xa ∨ (m : Int) = xb ∨ (m : Int) = xc := HBXX.out
                  by_cases ha : xa = (m : Int)
                  · have hab : (xa != (m : Int)) = false := by rw [ha]; simp
                    clear ha hbx
                    go_wp2_with fail
                    go_roundw
                    case rel => exact ⟨q + 1, by omega, by go_num, by go_num, HB8.out.alloc (by omega) _⟩
                    case measure => simp [intOf]; omega
                  · have hab : (xa != (m : Int)) = true := by rw [bne_iff_ne]; exact ha
                    by_cases hb : xb = (m : Int)
                    · have hbb : (xb != (m : Int)) = false := by rw [hb]; simp
                      clear ha hb hbx
                      go_wp2_with fail
                      go_roundw
                      case rel => exact ⟨q + 1, by omega, by go_num, by go_num, HB8.out.alloc (by omega) _⟩
                      case measure => simp [intOf]; omega
                    · have hbb : (xb != (m : Int)) = true := by rw [bne_iff_ne]; exact hb
                      have hcb : (xc != (m : Int)) = false := by
                        have hc : xc = (m : Int) := by omega
                        rw [hc]; simp
                      clear ha hb hbx
                      go_wp2_with fail
                      go_roundw
                      case rel => exact ⟨q + 1, by omega, by go_num, by go_num, HB8.out.alloc (by omega) _⟩
                      case measure => simp [intOf]; omega
                · have hqe : q = (onVols (m : Int) es).length := by omega
                  have HQ := Lib.hid hqe
                  clear hqe
                  have hct : (ct : Int) + (q : Int) ≤ 2000000 := by omega
                  go_wp2_with fail
                  go_roundw
                  case rel => exact ⟨m + 1, by omega, by go_num, by rw [HCS.out, ← HQ.out], HB7.out.trans (HBQ.out.mono (by have := HB7.out.size; omega))⟩
                  case measure => simp [intOf]; omega
            · have hme : m = 256 := by omega
              subst hme
              rw [cntOn_all es HSD.out] at *
              go_wp2_with fail
              refine (all_any _ _ _ _ _ (HMA6.out.below HBM.out)).mono ?_
              rintro e w7 ⟨v7, rfl, ho7, _, hb7⟩
              obtain ⟨a7, c7, rfl⟩ := ownsRow_len ho7
              have HB7 := Lib.hid (HBM.out.trans (hb7.mono hzm))
              clear ho7 hb7
              go_wp2_with fail
              go_ret
              exact ⟨ret_bool (by simp), HW6.out.trans (HB7.out.mono HW6.out.size)⟩
end Go.Proofs.Ytigkcbnlbdiimaa

/- PlaceMoves: the walk. -/
namespace Go.Proofs.Ytigkcbnlbdiimaa
open Go.RowKit
theorem owns_max {w : World} {base : Nat} {e : TypeId} {sz n : Nat} {v : Value} {xs : List Value} (h : w.ownsRow base e sz v n xs) : n ≤ maxLen := by
  rcases h.2 with ⟨_, rfl⟩ | ⟨_, _, _, _, _, _, h1, h2, _⟩
  · exact Nat.zero_le _
  · exact Nat.le_trans h1 h2
theorem mvVal_agg (o : Option Mv) : ∃ a b c d : Int, mvVal o = .agg #[.int .i64 a, .int .i64 b, .int .i64 c, .int .i64 d] := by
  cases o with
  | none => exact ⟨0, 0, 0, 0, rfl⟩
  | some m => exact ⟨_, _, _, _, rfl⟩
theorem row_mv {w : World} {base : Nat} {T : TypeId} {v : Value} {l : List Mv} (hr : w.ownsRow base T 4 v l.length (l.flatMap Mv.row)) (k : Nat) (x : Mv) (hx : l[k]? = some x) :
    ∃ g c, v = .slice (some ⟨g, 0, none⟩) l.length c ∧ g < w.heap.size ∧ l.length ≤ c ∧ w.cell? ⟨g, k * 4, none⟩ = some (.int .i64 x.vol) ∧ w.cell? ⟨g, k * 4 + 1, none⟩ = some (.int .i64 x.epoch) ∧ w.cell? ⟨g, k * 4 + 2, none⟩ = some (.int .i64 x.spot) ∧ w.cell? ⟨g, k * 4 + 3, none⟩ = some (.int .i64 x.node) := by
  have hk : k < l.length := (List.getElem?_eq_some_iff.1 hx).1
  obtain ⟨a, c, rfl⟩ := ownsRow_len hr
  obtain ⟨g, rfl⟩ : ∃ g, a = some ⟨g, 0, none⟩ := by
    rcases hr.2 with ⟨e, h0⟩ | ⟨g, _, _, e, _⟩
    · omega
    · simp only [Value.slice.injEq] at e
      exact ⟨g, e.1⟩
  exact ⟨g, c, rfl, (hr.lt g rfl).2, (owns_cap hr).1, ownsRow_cell Mv.row 4 Mv.row_len l hr k 0 x hx (by omega), ownsRow_cell Mv.row 4 Mv.row_len l hr k 1 x hx (by omega), ownsRow_cell Mv.row 4 Mv.row_len l hr k 2 x hx (by omega), ownsRow_cell Mv.row 4 Mv.row_len l hr k 3 x hx (by omega)⟩
set_option maxRecDepth 100000 in
set_option maxHeartbeats 4000000 in
theorem moves_bad (ao : Option Addr) (n cap : Nat) (cs : List Cmd) (va : Value) (ns : List Int) (node : Int) (w : World) (hl : cs.length = n) (hn : n ≤ 60) (hA : 0 < n → ∃ b off, ao = some ⟨b, off, none⟩ ∧ b < w.heap.size ∧ CmdsAt w b off cs)
    (hr : Reads w 1 va ns.length (ns.map (Value.int .i64))) (hcap : ∀ a n c, va = .slice a n c → n ≤ c) (hm : ns.length ≤ 100) (hok : rightB ns = false) :
    Calls Try.prog 11 #[.slice ao n cap, va, .int .i64 node] w fun e w' => e = .returned (.bool true) ∧ Below w.heap.size w w' := by
  obtain ⟨an, capn, rfl⟩ := reads_len hr
  have HL := Lib.hid hl
  have HA := Lib.hid hA
  have HR := Lib.hid hr
  have HCAP := Lib.hid hcap
  have HOK := Lib.hid hok
  have hd60 : decide ((60 : Int) < (n : Int)) = false := by simp; omega
  have hd100 : decide ((100 : Int) < (ns.length : Int)) = false := by simp; omega
  clear hl hA hr hcap hok
  go_enter Try.func11, Try.ntmps11
  go_wp2_with fail
  refine (alive27 _).mono ?_
  rintro e w1 ⟨rfl, hb1⟩
  have HB1 := Lib.hid hb1
  have hz1 := hb1.size
  clear hb1
  go_wp2_with fail
  refine (made_any ao n cap cs _ HL.out hn (fun h0 => by obtain ⟨b, off, h1, h2, h3⟩ := HA.out h0; exact ⟨b, off, h1, by omega, CmdsAt.below h3 HB1.out h2⟩)).mono ?_
  rintro e w2 ⟨bm, v, xv, rfl, hm2, hx2, hb2⟩
  obtain ⟨es, hes⟩ : ∃ es, es = doAll [] cs := ⟨_, rfl⟩
  have hfew : es.length ≤ 60 := by have := doAll_few cs []; rw [← hes] at this; simp at this; have := HL.out; omega
  have hno : NodesOk es := by rw [hes]; exact nodes_all cs [] nodes_nil
  rw [← hes] at hm2 hx2
  obtain ⟨ax, cx, rfl⟩ := ownsRow_len hx2
  have HM2 := Lib.hid hm2
  have HX2 := Lib.hid hx2
  have HNO := Lib.hid hno
  have HB2 := Lib.hid (HB1.out.trans (hb2.mono hz1))
  have hz2 := HB2.out.size
  clear hm2 hx2 hno hb2 hes hd100
  go_wp2_with fail
  refine (pleave_bad w1.heap.size bm v _ es ns node _ HM2.out (HR.out.below HB2.out) HCAP.out HOK.out).mono ?_
  rintro e w3 ⟨rfl, rfl⟩
  go_wp2_with fail
  refine (peven_bad w1.heap.size bm v _ es ns _ HM2.out (HR.out.below HB2.out) HCAP.out HOK.out).mono ?_
  rintro e w3 ⟨rfl, hb3⟩
  rw [show mvVal none = .agg #[.int .i64 0, .int .i64 0, .int .i64 0, .int .i64 0] from rfl]
  have HB3 := Lib.hid hb3
  have hz3 := hb3.size
  clear hb3
  go_wp2_with fail
  refine (rright_any _ ns _ (HR.out.below (HB2.out.trans ((HB3.out.alloc hz3 _).mono hz2)))).mono ?_
  rintro e w4 ⟨rfl, hb4⟩
  rw [HOK.out]
  have HB4 := Lib.hid (show Below w2.heap.size w2 w4 from (HB3.out.alloc hz3 _).trans (hb4.mono (by simp; omega)))
  clear hb4
  go_wp2_with fail
  refine (code_any 1 (by omega) (by omega) _).mono ?_
  rintro e w5 ⟨rfl, rfl⟩
  go_wp2_with fail
  refine (code_any 1 (by omega) (by omega) _).mono ?_
  rintro e w5 ⟨rfl, rfl⟩
  go_wp2_with fail
  go_ret
  exact ⟨rfl, HB2.out.trans (HB4.out.mono hz2)⟩
set_option maxRecDepth 100000 in
set_option maxHeartbeats 4000000 in
theorem moves_few (ao : Option Addr) (n cap : Nat) (cs : List Cmd) (va : Value) (ns : List Int) (node : Int) (w : World) (hl : cs.length = n) (hn : n ≤ 60) (hA : 0 < n → ∃ b off, ao = some ⟨b, off, none⟩ ∧ b < w.heap.size ∧ CmdsAt w b off cs)
    (hr : Reads w 1 va ns.length (ns.map (Value.int .i64))) (hcap : ∀ a n c, va = .slice a n c → n ≤ c) (hm : ns.length ≤ 100) (hok : rightB ns = true) (hfw : ns.length < 2) :
    Calls Try.prog 11 #[.slice ao n cap, va, .int .i64 node] w fun e w' => e = .returned (.bool true) ∧ Below w.heap.size w w' := by
  have HFW := Lib.hid hfw
  have hd2 : decide ((ns.length : Int) < 2) = true := by simp; omega
  clear hfw
  obtain ⟨an, capn, rfl⟩ := reads_len hr
  have HL := Lib.hid hl
  have HA := Lib.hid hA
  have HR := Lib.hid hr
  have HCAP := Lib.hid hcap
  have HOK := Lib.hid hok
  have hd60 : decide ((60 : Int) < (n : Int)) = false := by simp; omega
  have hd100 : decide ((100 : Int) < (ns.length : Int)) = false := by simp; omega
  clear hl hA hr hcap hok
  go_enter Try.func11, Try.ntmps11
  go_wp2_with fail
  refine (alive27 _).mono ?_
  rintro e w1 ⟨rfl, hb1⟩
  have HB1 := Lib.hid hb1
  have hz1 := hb1.size
  clear hb1
  go_wp2_with fail
  refine (made_any ao n cap cs _ HL.out hn (fun h0 => by obtain ⟨b, off, h1, h2, h3⟩ := HA.out h0; exact ⟨b, off, h1, by omega, CmdsAt.below h3 HB1.out h2⟩)).mono ?_
  rintro e w2 ⟨bm, v, xv, rfl, hm2, hx2, hb2⟩
  obtain ⟨es, hes⟩ : ∃ es, es = doAll [] cs := ⟨_, rfl⟩
  have hfew : es.length ≤ 60 := by have := doAll_few cs []; rw [← hes] at this; simp at this; have := HL.out; omega
  have hno : NodesOk es := by rw [hes]; exact nodes_all cs [] nodes_nil
  rw [← hes] at hm2 hx2
  obtain ⟨ax, cx, rfl⟩ := ownsRow_len hx2
  have HM2 := Lib.hid hm2
  have HX2 := Lib.hid hx2
  have HNO := Lib.hid hno
  have HB2 := Lib.hid (HB1.out.trans (hb2.mono hz1))
  have hz2 := HB2.out.size
  clear hm2 hx2 hno hb2 hes hd100
  go_wp2_with fail
  refine (pleave_any w1.heap.size bm v _ es ns node _ HM2.out HNO.out (HR.out.below HB2.out) HCAP.out HOK.out).mono ?_
  rintro e w3 hL3
  rcases hle : leaveI es node ns with _ | out
  · rw [hle] at hL3
    obtain ⟨rfl, hb3⟩ := hL3
    have HLE := Lib.hid hle
    have HB3 := Lib.hid hb3
    have hz3 := hb3.size
    clear hb3 hle
    go_wp2_with fail
    refine (peven_few w1.heap.size bm v _ es ns _ (HM2.out.below HB3.out) HNO.out (HR.out.below (HB2.out.trans (HB3.out.mono hz2))) HCAP.out HOK.out HFW.out).mono ?_
    rintro e w4 ⟨rfl, hb4⟩
    rw [show mvVal none = .agg #[.int .i64 0, .int .i64 0, .int .i64 0, .int .i64 0] from rfl]
    have HB4 := Lib.hid (HB3.out.trans (hb4.mono hz3))
    have HB34 := Lib.hid hb4
    have hz4 := HB4.out.size
    have hz34 := hb4.size
    clear hb4
    go_wp2_with fail
    refine (rright_any _ ns _ (HR.out.below (HB2.out.trans ((HB4.out.alloc hz4 _).mono hz2)))).mono ?_
    rintro e w5 ⟨rfl, hb5⟩
    rw [HOK.out]
    have HK5 := Lib.hid ((hb5.block w4.heap.size (by simp)).trans (heap_alloc_new w4 _))
    have HB5 := Lib.hid (show Below w2.heap.size w2 w5 from (HB4.out.alloc hz4 _).trans (hb5.mono (by simp; omega)))
    have HB35 := Lib.hid (show Below w3.heap.size w3 w5 from (HB34.out.alloc hz34 _).trans (hb5.mono (by simp; omega)))
    have hz5 := HB5.out.size
    have hz45 := hb5.size
    simp only [World.size_alloc] at hz45
    clear hb5
    go_wp2_with fail
    refine (rleave_any w1.heap.size _ _ es ns node _ (ownsRow_below HX2.out HB5.out) (by omega) HNO.out (HR.out.below (HB2.out.trans (HB5.out.mono hz2))) hm HOK.out).mono ?_
    rintro e w6 hL6
    rw [HLE.out] at hL6
    obtain ⟨rfl, hb6⟩ := hL6
    have HB6 := Lib.hid (HB5.out.trans (hb6.mono hz5))
    have HB36 := Lib.hid (HB35.out.trans (hb6.mono (by omega)))
    have HK6 := Lib.hid ((hb6.block w4.heap.size (by omega)).trans HK5.out)
    have hz6 := HB6.out.size
    have hz46 : w4.heap.size < w6.heap.size := by have := hb6.size; omega
    clear hb6
    go_wp2_with fail
    refine (code_any 11 (by omega) (by omega) _).mono ?_
    rintro e w7 ⟨rfl, rfl⟩
    go_wp2_with fail
    refine wp_loop_rounds 1 ?_
    rw [rounds_succ]
    have HBW := Lib.hid HB6.out
    have HKW := Lib.hid HK6.out
    have hzw : w4.heap.size < w6.heap.size := by omega
    have hzw2 := HBW.out.size
    go_wp2_with fail
    refine (code_any 11 (by omega) (by omega) _).mono ?_
    rintro e w8 ⟨rfl, rfl⟩
    go_wp2_with fail
    go_ret
    exact ⟨rfl, HB2.out.trans (HBW.out.mono hz2)⟩
  · rw [hle] at hL3
    obtain ⟨v3, rfl, ho3, hb3⟩ := hL3
    obtain ⟨a3, c3, rfl⟩ := ownsRow_len ho3
    have HO3 := Lib.hid ho3
    have hbig : (out.length : Int) ≤ 9223372036854775807 := by have := owns_max ho3; unfold maxLen at this; omega
    clear ho3
    have HLE := Lib.hid hle
    have HB3 := Lib.hid hb3
    have hz3 := hb3.size
    clear hb3 hle
    go_wp2_with fail
    refine (peven_few w1.heap.size bm v _ es ns _ (HM2.out.below HB3.out) HNO.out (HR.out.below (HB2.out.trans (HB3.out.mono hz2))) HCAP.out HOK.out HFW.out).mono ?_
    rintro e w4 ⟨rfl, hb4⟩
    rw [show mvVal none = .agg #[.int .i64 0, .int .i64 0, .int .i64 0, .int .i64 0] from rfl]
    have HB4 := Lib.hid (HB3.out.trans (hb4.mono hz3))
    have HB34 := Lib.hid hb4
    have hz4 := HB4.out.size
    have hz34 := hb4.size
    clear hb4
    go_wp2_with fail
    refine (rright_any _ ns _ (HR.out.below (HB2.out.trans ((HB4.out.alloc hz4 _).mono hz2)))).mono ?_
    rintro e w5 ⟨rfl, hb5⟩
    rw [HOK.out]
    have HK5 := Lib.hid ((hb5.block w4.heap.size (by simp)).trans (heap_alloc_new w4 _))
    have HB5 := Lib.hid (show Below w2.heap.size w2 w5 from (HB4.out.alloc hz4 _).trans (hb5.mono (by simp; omega)))
    have HB35 := Lib.hid (show Below w3.heap.size w3 w5 from (HB34.out.alloc hz34 _).trans (hb5.mono (by simp; omega)))
    have hz5 := HB5.out.size
    have hz45 := hb5.size
    simp only [World.size_alloc] at hz45
    clear hb5
    go_wp2_with fail
    refine (rleave_any w1.heap.size _ _ es ns node _ (ownsRow_below HX2.out HB5.out) (by omega) HNO.out (HR.out.below (HB2.out.trans (HB5.out.mono hz2))) hm HOK.out).mono ?_
    rintro e w6 hL6
    rw [HLE.out] at hL6
    obtain ⟨v6, rfl, ho6, hb6⟩ := hL6
    obtain ⟨a6, c6, rfl⟩ := ownsRow_len ho6
    have HO6 := Lib.hid ho6
    clear ho6
    have HB6 := Lib.hid (HB5.out.trans (hb6.mono hz5))
    have HB36 := Lib.hid (HB35.out.trans (hb6.mono (by omega)))
    have HK6 := Lib.hid ((hb6.block w4.heap.size (by omega)).trans HK5.out)
    have hz6 := HB6.out.size
    have hz46 : w4.heap.size < w6.heap.size := by have := hb6.size; omega
    clear hb6
    have hbne : ((out.length : Int) != (out.length : Int)) = false := by simp
    go_wp2_with fail
    refine (code_any 0 (by omega) (by omega) _).mono ?_
    rintro e w7 ⟨rfl, rfl⟩
    go_wp2_with fail
    obtain ⟨w6', hw6⟩ : ∃ W : World, W = w6 := ⟨_, rfl⟩
    go_loopw [16] (fun i wr => ∃ k : Nat, k ≤ out.length ∧ i = .int .i64 k ∧ Below w6.heap.size w6 wr) (fun i _ => out.length - (intOf i).toNat)
    case atStart => exact ⟨0, Nat.zero_le _, rfl, Below.refl _ _⟩
    case round =>
      obtain ⟨k, hk, rfl, hbw⟩ := hrel
      have HBR := Lib.hid hbw
      have hzr := hbw.size
      clear hbw
      by_cases hlt : k < out.length
      · obtain ⟨x, hx⟩ : ∃ x, out[k]? = some x := ⟨_, List.getElem?_eq_getElem hlt⟩
        obtain ⟨g3, cc3, e3, _, hc3, x0, x1, x2, x3⟩ := row_mv (ownsRow_below HO3.out (HB36.out.trans (HBR.out.mono (by have := HB36.out.size; omega)))) k x hx
        obtain ⟨e3', -, e3''⟩ := sl_inj e3
        subst e3' e3''
        obtain ⟨g6, cc6, e6, _, hc6, y0, y1, y2, y3⟩ := row_mv (ownsRow_below HO6.out HBR.out) k x hx
        obtain ⟨e6', -, e6''⟩ := sl_inj e6
        subst e6' e6''
        have hk0 : (0 : Int) ≤ (k : Int) := by omega
        have hk1 : (k : Int) < (out.length : Int) := by omega
        obtain ⟨xv, xe, xa, xn⟩ := x
        simp only at x0 x1 x2 x3 y0 y1 y2 y3
        clear hx e3 e6
        go_wp2_with fail
        refine wp_region_now0 [3, 7] [(0, 0), (1, 0), (2, 0), (3, 2), (4, 0), (5, 0), (6, 0), (7, 2), (8, 0)] (by kernel_rfl) (by kernel_rfl) rfl (by kernel_rfl) ?_
        refine stepE0 rfl rfl (fun K hK => ?_)
        go_simp
        refine hK _ ?_
        clear hK K
        refine stepE0 rfl rfl (fun K hK => ?_)
        go_simp
        refine hK _ ?_
        clear hK K
        refine stepE0 rfl rfl (fun K hK => ?_)
        go_simp
        refine hK _ ?_
        clear hK K
        refine stepE2 rfl rfl ?_ (fun w1 hS => ?_) (fun K hK => ?_)
        rotate_left
        focus (obtain rfl : w1 = _ := hS; go_simp; rfl)
        go_simp
        refine hK _ ?_
        clear hK K
        refine stepE0 rfl rfl (fun K hK => ?_)
        go_simp
        refine hK _ ?_
        clear hK K
        refine stepE0 rfl rfl (fun K hK => ?_)
        go_simp
        refine hK _ ?_
        clear hK K
        refine stepE0 rfl rfl (fun K hK => ?_)
        go_simp
        refine hK _ ?_
        clear hK K
        refine stepE2 rfl rfl ?_ (fun w1 hS => ?_) (fun K hK => ?_)
        rotate_left
        focus (obtain rfl : w1 = _ := hS; go_simp; rfl)
        go_simp
        refine hK _ ?_
        clear hK K
        refine stepE0 rfl rfl (fun K hK => ?_)
        go_simp
        refine hK _ ?_
        clear hK K
        try refine stepEnil0 ?_
        go_wp2_with fail
        go_roundw
        case rel => exact ⟨k + 1, by omega, by go_num, HBR.out.drew⟩
        case measure => simp [intOf]; omega
      · have HBW := Lib.hid (show Below w2.heap.size w2 wr from HB6.out.trans (HBR.out.mono hz6))
        have HKW := Lib.hid ((HBR.out.block w4.heap.size hz46).trans HK6.out)
        have hzw : w4.heap.size < wr.heap.size := by omega
        have hzw2 := HBW.out.size
        go_wp2_with fail
        refine (code_any 11 (by omega) (by omega) _).mono ?_
        rintro e w8 ⟨rfl, rfl⟩
        go_wp2_with fail
        go_ret
        exact ⟨rfl, HB2.out.trans (HBW.out.mono hz2)⟩
set_option maxRecDepth 100000 in
set_option maxHeartbeats 4000000 in
theorem moves_many (ao : Option Addr) (n cap : Nat) (cs : List Cmd) (va : Value) (ns : List Int) (node : Int) (w : World) (hl : cs.length = n) (hn : n ≤ 60) (hA : 0 < n → ∃ b off, ao = some ⟨b, off, none⟩ ∧ b < w.heap.size ∧ CmdsAt w b off cs)
    (hr : Reads w 1 va ns.length (ns.map (Value.int .i64))) (hcap : ∀ a n c, va = .slice a n c → n ≤ c) (hm : ns.length ≤ 100) (hok : rightB ns = true) (hfw : ¬ ns.length < 2) :
    Calls Try.prog 11 #[.slice ao n cap, va, .int .i64 node] w fun e w' => e = .returned (.bool true) ∧ Below w.heap.size w w' := by
  have HFW := Lib.hid hfw
  have hd2 : decide ((ns.length : Int) < 2) = false := by simp; omega
  clear hfw
  obtain ⟨an, capn, rfl⟩ := reads_len hr
  have HL := Lib.hid hl
  have HA := Lib.hid hA
  have HR := Lib.hid hr
  have HCAP := Lib.hid hcap
  have HOK := Lib.hid hok
  have hd60 : decide ((60 : Int) < (n : Int)) = false := by simp; omega
  have hd100 : decide ((100 : Int) < (ns.length : Int)) = false := by simp; omega
  clear hl hA hr hcap hok
  go_enter Try.func11, Try.ntmps11
  go_wp2_with fail
  refine (alive27 _).mono ?_
  rintro e w1 ⟨rfl, hb1⟩
  have HB1 := Lib.hid hb1
  have hz1 := hb1.size
  clear hb1
  go_wp2_with fail
  refine (made_any ao n cap cs _ HL.out hn (fun h0 => by obtain ⟨b, off, h1, h2, h3⟩ := HA.out h0; exact ⟨b, off, h1, by omega, CmdsAt.below h3 HB1.out h2⟩)).mono ?_
  rintro e w2 ⟨bm, v, xv, rfl, hm2, hx2, hb2⟩
  obtain ⟨es, hes⟩ : ∃ es, es = doAll [] cs := ⟨_, rfl⟩
  have hfew : es.length ≤ 60 := by have := doAll_few cs []; rw [← hes] at this; simp at this; have := HL.out; omega
  have hno : NodesOk es := by rw [hes]; exact nodes_all cs [] nodes_nil
  rw [← hes] at hm2 hx2
  obtain ⟨ax, cx, rfl⟩ := ownsRow_len hx2
  have HM2 := Lib.hid hm2
  have HX2 := Lib.hid hx2
  have HNO := Lib.hid hno
  have HB2 := Lib.hid (HB1.out.trans (hb2.mono hz1))
  have hz2 := HB2.out.size
  clear hm2 hx2 hno hb2 hes hd100
  obtain ⟨ev, hev⟩ : ∃ ev, evenI es ns = ev := ⟨_, rfl⟩
  obtain ⟨b0, b1, b2, b3, hmv⟩ := mvVal_agg ev
  obtain ⟨q, hq⟩ : ∃ q, ev.isSome = q := ⟨_, rfl⟩
  have HEV := Lib.hid hev
  have HMV := Lib.hid hmv
  have HQ := Lib.hid hq
  clear hev hmv hq
  go_wp2_with fail
  refine (pleave_any w1.heap.size bm v _ es ns node _ HM2.out HNO.out (HR.out.below HB2.out) HCAP.out HOK.out).mono ?_
  rintro e w3 hL3
  rcases hle : leaveI es node ns with _ | out
  · rw [hle] at hL3
    obtain ⟨rfl, hb3⟩ := hL3
    have HLE := Lib.hid hle
    have HB3 := Lib.hid hb3
    have hz3 := hb3.size
    clear hb3 hle
    go_wp2_with fail
    refine (peven_any w1.heap.size bm v _ es ns _ (HM2.out.below HB3.out) HNO.out (HR.out.below (HB2.out.trans (HB3.out.mono hz2))) HCAP.out HOK.out (by have := HFW.out; omega)).mono ?_
    rintro e w4 ⟨rfl, hb4⟩
    rw [HEV.out, HMV.out, HQ.out]
    have HB4 := Lib.hid (HB3.out.trans (hb4.mono hz3))
    have HB34 := Lib.hid hb4
    have hz4 := HB4.out.size
    have hz34 := hb4.size
    clear hb4
    go_wp2_with fail
    refine (rright_any _ ns _ (HR.out.below (HB2.out.trans ((HB4.out.alloc hz4 _).mono hz2)))).mono ?_
    rintro e w5 ⟨rfl, hb5⟩
    rw [HOK.out]
    have HK5 := Lib.hid ((hb5.block w4.heap.size (by simp)).trans (heap_alloc_new w4 _))
    have HB5 := Lib.hid (show Below w2.heap.size w2 w5 from (HB4.out.alloc hz4 _).trans (hb5.mono (by simp; omega)))
    have HB35 := Lib.hid (show Below w3.heap.size w3 w5 from (HB34.out.alloc hz34 _).trans (hb5.mono (by simp; omega)))
    have hz5 := HB5.out.size
    have hz45 := hb5.size
    simp only [World.size_alloc] at hz45
    clear hb5
    go_wp2_with fail
    refine (rleave_any w1.heap.size _ _ es ns node _ (ownsRow_below HX2.out HB5.out) (by omega) HNO.out (HR.out.below (HB2.out.trans (HB5.out.mono hz2))) hm HOK.out).mono ?_
    rintro e w6 hL6
    rw [HLE.out] at hL6
    obtain ⟨rfl, hb6⟩ := hL6
    have HB6 := Lib.hid (HB5.out.trans (hb6.mono hz5))
    have HB36 := Lib.hid (HB35.out.trans (hb6.mono (by omega)))
    have HK6 := Lib.hid ((hb6.block w4.heap.size (by omega)).trans HK5.out)
    have hz6 := HB6.out.size
    have hz46 : w4.heap.size < w6.heap.size := by have := hb6.size; omega
    clear hb6
    go_wp2_with fail
    refine (code_any 11 (by omega) (by omega) _).mono ?_
    rintro e w7 ⟨rfl, rfl⟩
    go_wp2_with fail
    refine wp_loop_rounds 1 ?_
    rw [rounds_succ]
    have HBW := Lib.hid HB6.out
    have HKW := Lib.hid HK6.out
    have hzw : w4.heap.size < w6.heap.size := by omega
    have hzw2 := HBW.out.size
    go_wp2_with fail
    refine (reven_any w1.heap.size _ _ es ns _ (ownsRow_below HX2.out HBW.out) (by omega) (HR.out.below (HB2.out.trans (HBW.out.mono hz2))) (by have := HFW.out; omega) hm).mono ?_
    rintro e w8 ⟨rfl, hb8⟩
    rw [HEV.out, HMV.out, HQ.out]
    have hk8 := (hb8.block w4.heap.size hzw).trans HKW.out
    have z0 := cell_of_row w8 w4.heap.size 0 _ _ _ hk8
    have z1 := cell_of_row w8 w4.heap.size 1 _ _ _ hk8
    have z2 := cell_of_row w8 w4.heap.size 2 _ _ _ hk8
    have z3 := cell_of_row w8 w4.heap.size 3 _ _ _ hk8
    simp at z0 z1 z2 z3
    have h48 : w4.heap.size < w8.heap.size := by have := hb8.size; omega
    have HB8 := Lib.hid (show Below w2.heap.size w2 w8 from HBW.out.trans (hb8.mono hzw2))
    clear hb8 hk8
    go_wp2_with fail
    refine (code_any 0 (by omega) (by omega) _).mono ?_
    rintro e w9 ⟨rfl, rfl⟩
    have hqq : (q == q) = true := by cases q <;> rfl
    go_wp2_with fail
    go_ret
    exact ⟨rfl, HB2.out.trans ((HB8.out.alloc HB8.out.size _).mono hz2)⟩
  · rw [hle] at hL3
    obtain ⟨v3, rfl, ho3, hb3⟩ := hL3
    obtain ⟨a3, c3, rfl⟩ := ownsRow_len ho3
    have HO3 := Lib.hid ho3
    have hbig : (out.length : Int) ≤ 9223372036854775807 := by have := owns_max ho3; unfold maxLen at this; omega
    clear ho3
    have HLE := Lib.hid hle
    have HB3 := Lib.hid hb3
    have hz3 := hb3.size
    clear hb3 hle
    go_wp2_with fail
    refine (peven_any w1.heap.size bm v _ es ns _ (HM2.out.below HB3.out) HNO.out (HR.out.below (HB2.out.trans (HB3.out.mono hz2))) HCAP.out HOK.out (by have := HFW.out; omega)).mono ?_
    rintro e w4 ⟨rfl, hb4⟩
    rw [HEV.out, HMV.out, HQ.out]
    have HB4 := Lib.hid (HB3.out.trans (hb4.mono hz3))
    have HB34 := Lib.hid hb4
    have hz4 := HB4.out.size
    have hz34 := hb4.size
    clear hb4
    go_wp2_with fail
    refine (rright_any _ ns _ (HR.out.below (HB2.out.trans ((HB4.out.alloc hz4 _).mono hz2)))).mono ?_
    rintro e w5 ⟨rfl, hb5⟩
    rw [HOK.out]
    have HK5 := Lib.hid ((hb5.block w4.heap.size (by simp)).trans (heap_alloc_new w4 _))
    have HB5 := Lib.hid (show Below w2.heap.size w2 w5 from (HB4.out.alloc hz4 _).trans (hb5.mono (by simp; omega)))
    have HB35 := Lib.hid (show Below w3.heap.size w3 w5 from (HB34.out.alloc hz34 _).trans (hb5.mono (by simp; omega)))
    have hz5 := HB5.out.size
    have hz45 := hb5.size
    simp only [World.size_alloc] at hz45
    clear hb5
    go_wp2_with fail
    refine (rleave_any w1.heap.size _ _ es ns node _ (ownsRow_below HX2.out HB5.out) (by omega) HNO.out (HR.out.below (HB2.out.trans (HB5.out.mono hz2))) hm HOK.out).mono ?_
    rintro e w6 hL6
    rw [HLE.out] at hL6
    obtain ⟨v6, rfl, ho6, hb6⟩ := hL6
    obtain ⟨a6, c6, rfl⟩ := ownsRow_len ho6
    have HO6 := Lib.hid ho6
    clear ho6
    have HB6 := Lib.hid (HB5.out.trans (hb6.mono hz5))
    have HB36 := Lib.hid (HB35.out.trans (hb6.mono (by omega)))
    have HK6 := Lib.hid ((hb6.block w4.heap.size (by omega)).trans HK5.out)
    have hz6 := HB6.out.size
    have hz46 : w4.heap.size < w6.heap.size := by have := hb6.size; omega
    clear hb6
    have hbne : ((out.length : Int) != (out.length : Int)) = false := by simp
    go_wp2_with fail
    refine (code_any 0 (by omega) (by omega) _).mono ?_
    rintro e w7 ⟨rfl, rfl⟩
    go_wp2_with fail
    obtain ⟨w6', hw6⟩ : ∃ W : World, W = w6 := ⟨_, rfl⟩
    go_loopw [16] (fun i wr => ∃ k : Nat, k ≤ out.length ∧ i = .int .i64 k ∧ Below w6.heap.size w6 wr) (fun i _ => out.length - (intOf i).toNat)
    case atStart => exact ⟨0, Nat.zero_le _, rfl, Below.refl _ _⟩
    case round =>
      obtain ⟨k, hk, rfl, hbw⟩ := hrel
      have HBR := Lib.hid hbw
      have hzr := hbw.size
      clear hbw
      by_cases hlt : k < out.length
      · obtain ⟨x, hx⟩ : ∃ x, out[k]? = some x := ⟨_, List.getElem?_eq_getElem hlt⟩
        obtain ⟨g3, cc3, e3, _, hc3, x0, x1, x2, x3⟩ := row_mv (ownsRow_below HO3.out (HB36.out.trans (HBR.out.mono (by have := HB36.out.size; omega)))) k x hx
        obtain ⟨e3', -, e3''⟩ := sl_inj e3
        subst e3' e3''
        obtain ⟨g6, cc6, e6, _, hc6, y0, y1, y2, y3⟩ := row_mv (ownsRow_below HO6.out HBR.out) k x hx
        obtain ⟨e6', -, e6''⟩ := sl_inj e6
        subst e6' e6''
        have hk0 : (0 : Int) ≤ (k : Int) := by omega
        have hk1 : (k : Int) < (out.length : Int) := by omega
        obtain ⟨xv, xe, xa, xn⟩ := x
        simp only at x0 x1 x2 x3 y0 y1 y2 y3
        clear hx e3 e6
        go_wp2_with fail
        refine wp_region_now0 [3, 7] [(0, 0), (1, 0), (2, 0), (3, 2), (4, 0), (5, 0), (6, 0), (7, 2), (8, 0)] (by kernel_rfl) (by kernel_rfl) rfl (by kernel_rfl) ?_
        refine stepE0 rfl rfl (fun K hK => ?_)
        go_simp
        refine hK _ ?_
        clear hK K
        refine stepE0 rfl rfl (fun K hK => ?_)
        go_simp
        refine hK _ ?_
        clear hK K
        refine stepE0 rfl rfl (fun K hK => ?_)
        go_simp
        refine hK _ ?_
        clear hK K
        refine stepE2 rfl rfl ?_ (fun w1 hS => ?_) (fun K hK => ?_)
        rotate_left
        focus (obtain rfl : w1 = _ := hS; go_simp; rfl)
        go_simp
        refine hK _ ?_
        clear hK K
        refine stepE0 rfl rfl (fun K hK => ?_)
        go_simp
        refine hK _ ?_
        clear hK K
        refine stepE0 rfl rfl (fun K hK => ?_)
        go_simp
        refine hK _ ?_
        clear hK K
        refine stepE0 rfl rfl (fun K hK => ?_)
        go_simp
        refine hK _ ?_
        clear hK K
        refine stepE2 rfl rfl ?_ (fun w1 hS => ?_) (fun K hK => ?_)
        rotate_left
        focus (obtain rfl : w1 = _ := hS; go_simp; rfl)
        go_simp
        refine hK _ ?_
        clear hK K
        refine stepE0 rfl rfl (fun K hK => ?_)
        go_simp
        refine hK _ ?_
        clear hK K
        try refine stepEnil0 ?_
        go_wp2_with fail
        go_roundw
        case rel => exact ⟨k + 1, by omega, by go_num, HBR.out.drew⟩
        case measure => simp [intOf]; omega
      · have HBW := Lib.hid (show Below w2.heap.size w2 wr from HB6.out.trans (HBR.out.mono hz6))
        have HKW := Lib.hid ((HBR.out.block w4.heap.size hz46).trans HK6.out)
        have hzw : w4.heap.size < wr.heap.size := by omega
        have hzw2 := HBW.out.size
        go_wp2_with fail
        refine (reven_any w1.heap.size _ _ es ns _ (ownsRow_below HX2.out HBW.out) (by omega) (HR.out.below (HB2.out.trans (HBW.out.mono hz2))) (by have := HFW.out; omega) hm).mono ?_
        rintro e w8 ⟨rfl, hb8⟩
        rw [HEV.out, HMV.out, HQ.out]
        have hk8 := (hb8.block w4.heap.size hzw).trans HKW.out
        have z0 := cell_of_row w8 w4.heap.size 0 _ _ _ hk8
        have z1 := cell_of_row w8 w4.heap.size 1 _ _ _ hk8
        have z2 := cell_of_row w8 w4.heap.size 2 _ _ _ hk8
        have z3 := cell_of_row w8 w4.heap.size 3 _ _ _ hk8
        simp at z0 z1 z2 z3
        have h48 : w4.heap.size < w8.heap.size := by have := hb8.size; omega
        have HB8 := Lib.hid (show Below w2.heap.size w2 w8 from HBW.out.trans (hb8.mono hzw2))
        clear hb8 hk8
        go_wp2_with fail
        refine (code_any 0 (by omega) (by omega) _).mono ?_
        rintro e w9 ⟨rfl, rfl⟩
        have hqq : (q == q) = true := by cases q <;> rfl
        go_wp2_with fail
        go_ret
        exact ⟨rfl, HB2.out.trans ((HB8.out.alloc HB8.out.size _).mono hz2)⟩
end Go.Proofs.Ytigkcbnlbdiimaa

/- An argument that is a slice of commands: its cells. -/
namespace Go.Proofs.Ytigkcbnlbdiimaa
open Go.RowKit Go.ChangeShapes Go.WideShapes Go.Deep
section
variable {H : Type} {enc : TypeId × Value → H} {w : World} {base : Nat} {spare : Nat → Bool} {held : Bool}
theorem int_of {fuel : Nat} {c : Value} {y : Option (DataW H × List MemPlace)} {n : Nat} (hl : DataW.trod enc Try.prog w base spare held fuel 3 [c] = y) (hy : y.isSome = true) (_h : n = n) : ∃ m, c = .int .i64 m := by
  obtain ⟨x, rfl⟩ := Option.isSome_iff_exists.1 hy
  obtain ⟨m, hm, _⟩ := DataW.trod_int Try.underlying3 hl
  exact ⟨m, by simpa using hm⟩
theorem arr3_of {fuel : Nat} {c0 c1 c2 : Value} {x : DataW H × List MemPlace} (h : DataW.trod enc Try.prog w base spare held fuel 30 [c0, c1, c2] = some x) :
    ∃ a b c, c0 = .int .i64 a ∧ c1 = .int .i64 b ∧ c2 = .int .i64 c := by
  obtain ⟨xs, m, _, _, _, hxl, hi⟩ := DataW.trod_array Try.underlying30 h
  have hC : Try.prog.cellsOf 3 = 1 := by kernel_rfl
  rw [hC] at hi
  have e0 := hi 0 (by omega)
  have e1 := hi 1 (by omega)
  have e2 := hi 2 (by omega)
  simp at e0 e1 e2
  match xs, hxl with
  | [x0, x1, x2], _ =>
    simp at e0 e1 e2
    obtain ⟨a, ha⟩ := int_of e0 rfl (rfl : 0 = 0)
    obtain ⟨b, hb⟩ := int_of e1 rfl (rfl : 0 = 0)
    obtain ⟨c, hc⟩ := int_of e2 rfl (rfl : 0 = 0)
    exact ⟨a, b, c, ha, hb, hc⟩
set_option maxRecDepth 100000 in
theorem cmd_of {fuel : Nat} {cs : List Value} {x : DataW H × List MemPlace} (h : DataW.trod enc Try.prog w base spare held fuel 35 cs = some x) : ∃ c : Cmd, cs = c.row := by
  obtain ⟨xs, n, _, _, hlen, hxl, hf⟩ := DataW.trod_struct Try.underlying35 h
  have hC : Try.prog.cellsOf 35 = 8 := by kernel_rfl
  have hI : Try.prog.cellsOf 3 = 1 := by kernel_rfl
  have hA : Try.prog.cellsOf 30 = 3 := by kernel_rfl
  rw [hC] at hlen
  match cs, hlen with
  | [c0, c1, c2, c3, c4, c5, c6, c7], _ =>
    have e0 := hf 0 _ rfl
    have e1 := hf 1 _ rfl
    have e2 := hf 2 _ rfl
    have e3 := hf 3 _ rfl
    have e4 := hf 4 _ rfl
    have e5 := hf 5 _ rfl
    simp [hI, hA] at e0 e1 e2 e3 e4 e5
    match xs, hxl with
    | [x0, x1, x2, x3, x4, x5], _ =>
      simp at e0 e1 e2 e3 e4 e5
      obtain ⟨a0, rfl⟩ := int_of e0 rfl (rfl : 0 = 0)
      obtain ⟨a1, rfl⟩ := int_of e1 rfl (rfl : 0 = 0)
      obtain ⟨a2, rfl⟩ := int_of e2 rfl (rfl : 0 = 0)
      obtain ⟨a3, rfl⟩ := int_of e3 rfl (rfl : 0 = 0)
      obtain ⟨a4, rfl⟩ := int_of e4 rfl (rfl : 0 = 0)
      obtain ⟨a5, a6, a7, rfl, rfl, rfl⟩ := arr3_of e5
      exact ⟨⟨a0, a1, a2, a3, a4, a5, a6, a7⟩, rfl⟩
/-- The argument. -/
theorem open_cmds {a : Option Addr} {len cap : Nat} {d : DataW H} {p : List MemPlace} (h : DataW.Trod enc Try.prog w base spare held 22 (.slice a len cap) d p) :
    ∃ cs : List Cmd, cs.length = len ∧ (0 < len → ∃ b off, a = some ⟨b, off, none⟩ ∧ b < w.heap.size ∧ ∀ (i : Nat) (c : Cmd), cs[i]? = some c → ∀ j u, c.row[j]? = some u → w.cell? ⟨b, off + i * 8 + j, none⟩ = some u) := by
  obtain ⟨fuel, hf⟩ := h
  rcases open_slice Try.underlying22 hf with ⟨hcs, _⟩ | ⟨x, l, c, m, n, D, Pl, hcs, _, hl, hm, hmm, _, hi⟩
  · simp [Value.cells] at hcs
    obtain ⟨rfl, rfl, rfl⟩ := hcs
    exact ⟨[], rfl, fun h => absurd h (Nat.lt_irrefl 0)⟩
  · simp [Value.cells] at hcs
    obtain ⟨rfl, rfl, rfl⟩ := hcs
    have hml : len ≤ m := by rw [hmm]; split <;> omega
    have hC : Try.prog.cellsOf 35 = 8 := by kernel_rfl
    rw [hC] at hi
    have hone : ∀ i, i < len → ∃ c : Cmd, ∀ j u, c.row[j]? = some u → w.cell? (x.add (i * 8 + j)) = some u := by
      intro i hil
      obtain ⟨cs', hc, ht⟩ := hi i (by omega)
      obtain ⟨c, rfl⟩ := cmd_of ht
      obtain ⟨_, _, hat⟩ := World.cells?_some hc
      refine ⟨c, fun j u hu => ?_⟩
      have hj : j < 8 := (List.getElem?_eq_some_iff.1 hu).1
      rw [← add_add, hat j hj, hu]
    have : Inhabited Cmd := ⟨⟨0, 0, 0, 0, 0, 0, 0, 0⟩⟩
    obtain ⟨f, hfn⟩ := choose_lt hone
    refine ⟨(List.range len).map f, by simp, fun h0 => ?_⟩
    have hc0 := hfn 0 h0 0 _ rfl
    simp [Addr.add] at hc0
    have hspot : x.spot = none := by
      cases hs : x.spot with
      | none => rfl
      | some s => simp [World.cell?, hs] at hc0; split at hc0 <;> simp_all
    have hx : x = ⟨x.block, x.off, none⟩ := by cases x; simp_all
    refine ⟨x.block, x.off, by rw [← hx], World.block_lt_of_cell? w x hc0, fun i c hc j u hu => ?_⟩
    rw [List.getElem?_map] at hc
    cases hr : (List.range len)[i]? with
    | none => rw [hr] at hc; cases hc
    | some i' =>
      have hi' : i' = i ∧ i < len := by
        have := List.getElem?_eq_some_iff.1 hr
        obtain ⟨h1, h2⟩ := this
        simp at h1 h2
        exact ⟨h2.symm, h1⟩
      rw [hr] at hc
      simp at hc
      rw [← hc, hi'.1] at hu
      have h3 := hfn i hi'.2 j u hu
      rw [hx] at h3
      have h4 : (⟨x.block, x.off, none⟩ : Addr).add (i * 8 + j) = ⟨x.block, x.off + i * 8 + j, none⟩ := by
        unfold Addr.add
        split
        · rename_i hz; rw [Nat.add_assoc, hz]; rfl
        · rw [Nat.add_assoc]
      rwa [h4] at h3
end
end Go.Proofs.Ytigkcbnlbdiimaa

/- An argument that is a slice of ints: what it reads as. -/
namespace Go.Proofs.Ytigkcbnlbdiimaa
open Go.RowKit Go.ChangeShapes Go.WideShapes Go.Deep
section
variable {H : Type} {enc : TypeId × Value → H} {w : World} {base : Nat} {spare : Nat → Bool} {held : Bool}
theorem open_ints {a : Option Addr} {len cap : Nat} {d : DataW H} {p : List MemPlace} (h : DataW.Trod enc Try.prog w base spare held 42 (.slice a len cap) d p) :
    ∃ ns : List Int, ns.length = len ∧ Reads w 1 (.slice a len cap) ns.length (ns.map (Value.int .i64)) ∧ len ≤ cap := by
  obtain ⟨fuel, hf⟩ := h
  rcases open_slice Try.underlying42 hf with ⟨hcs, _⟩ | ⟨x, l, c, m, n, D, Pl, hcs, _, hl, hm, hmm, _, hi⟩
  · simp [Value.cells] at hcs
    obtain ⟨rfl, rfl, rfl⟩ := hcs
    exact ⟨[], rfl, ⟨rfl, .inl ⟨rfl, rfl⟩⟩, Nat.le_refl _⟩
  · simp [Value.cells] at hcs
    obtain ⟨rfl, rfl, rfl⟩ := hcs
    have hml : len ≤ m := by rw [hmm]; split <;> omega
    have hC : Try.prog.cellsOf 3 = 1 := by kernel_rfl
    rw [hC] at hi
    have hone : ∀ i, i < len → ∃ c : Int, w.cell? (x.add i) = some (.int .i64 c) := by
      intro i hil
      obtain ⟨cs', hc, ht⟩ := hi i (by omega)
      obtain ⟨hlen, _, hat⟩ := World.cells?_some hc
      match cs', hlen with
      | [c0], _ =>
        obtain ⟨a0, rfl⟩ := int_of ht rfl (rfl : 0 = 0)
        have h0 := hat 0 (by omega)
        rw [Nat.mul_one, show (x.add i).add 0 = x.add i by simp [Addr.add]] at h0
        exact ⟨a0, h0⟩
    obtain ⟨f, hfn⟩ := choose_lt hone
    refine ⟨(List.range len).map f, by simp, ⟨by simp, .inr ⟨x, cap, by simp, by simp; omega, fun j u hu => ?_⟩⟩, hl⟩
    rw [List.map_map, List.getElem?_map] at hu
    cases hr : (List.range len)[j]? with
    | none => rw [hr] at hu; cases hu
    | some i' =>
      have hi' : i' = j ∧ j < len := by
        obtain ⟨h1, h2⟩ := List.getElem?_eq_some_iff.1 hr
        simp at h1 h2
        exact ⟨h2.symm, h1⟩
      rw [hr] at hu
      simp at hu
      rw [← hu, hi'.1]
      exact hfn j hi'.2
end
end Go.Proofs.Ytigkcbnlbdiimaa
