/- Joined texts: PlaceSpread, OpenCmd, OpenInts. -/
import Derived.Test.YtigkcbnlbdiimaaPs5
import Derived.Deep.DeepCutAuto
import Derived.Test.YtigkcbnlbdiimaaRows
import Derived.ProofKit
import Derived.OpenShut
import Derived.Deep.Slices
/- PlaceSpread: the walk. -/
namespace Go.Proofs.Ytigkcbnlbdiimaa
open Go.RowKit
theorem LeaveOut.uni {w w' : World} {r : Option (List Mv)} {e : Ending} (h : LeaveOut w r e w') : ∃ (k : Int) (am : Option Addr) (cm : Nat), (k = 0 ∨ k = 11) ∧ e = .returned (.tuple #[.slice am (r.getD []).length cm, errV k]) ∧ w'.ownsRow w.heap.size 94 4 (.slice am (r.getD []).length cm) (r.getD []).length ((r.getD []).flatMap Mv.row) ∧ Below w.heap.size w w' := by
  cases r with
  | none => exact ⟨11, none, 0, .inr rfl, h.1, World.ownsRow_nil _ _ _ _, h.2⟩
  | some l =>
    obtain ⟨v, h1, h2, h3⟩ := h
    obtain ⟨a, c, rfl⟩ := ownsRow_len h2
    exact ⟨0, a, c, .inl rfl, h1, h2, h3⟩
theorem peven_uni (base bm : Nat) (v va : Value) (es : List Ent) (ns : List Int) (w : World) (h : MapAt w base bm v es) (hno : NodesOk es) (hr : Reads w 1 va ns.length (ns.map (Value.int .i64))) (hcap : ∀ a n c, va = .slice a n c → n ≤ c) (hok : rightB ns = true) (hv : ∀ (i : Nat) (x : Ent), es[i]? = some x → x.vol = (i : Int) + 1) :
    Calls Try.prog 52 #[.pointer (some ⟨bm, 0, none⟩), va] w fun e w' => ∃ (ev : Option Mv) (k : Int), (∀ m, ev = some m → MoveOk es m ∧ k = 0) ∧ (k = 0 ∨ k = 11) ∧ e = .returned (.tuple #[mvVal ev, .bool ev.isSome, errV k]) ∧ Below w.heap.size w w' := by
  by_cases hl : ns.length < 2
  · exact (peven_few base bm v va es ns w h hno hr hcap hok hl).mono fun e w' ⟨he, hb⟩ => ⟨none, 11, fun m e => by (cases e), .inr rfl, he, hb⟩
  · exact (peven_any base bm v va es ns w h hno hr hcap hok (by omega)).mono fun e w' ⟨he, hb⟩ => ⟨evenI es ns, 0, fun m e => ⟨evenI_ok hv e, rfl⟩, .inl rfl, he, hb⟩
theorem hp_alloc {w : World} {k : Nat} {x : Obj} (h : w.heap[k]? = some x) (o : Obj) : (w.alloc o).heap[k]? = some x :=
  (Below.heap_alloc _ _ _ (Array.getElem?_eq_some_iff.1 h).1).trans h
theorem hp_new {w : World} {k : Nat} (o : Obj) (hk : w.heap.size = k) : (w.alloc o).heap[k]? = some o := by
  subst hk
  exact heap_alloc_new w o
theorem reads_of4 {w : World} {v : Value} {n : Nat} {l : List Mv} (h : Reads w 4 v n (l.flatMap Mv.row)) {k : Nat} {x : Mv} (hx : l[k]? = some x) (hn : 0 < n) :
    ∃ b o c, v = .slice (some ⟨b, o, none⟩) n c ∧ b < w.heap.size ∧ w.cell? ⟨b, o + k * 4, none⟩ = some (.int .i64 x.vol) ∧ w.cell? ⟨b, o + k * 4 + 1, none⟩ = some (.int .i64 x.epoch) ∧ w.cell? ⟨b, o + k * 4 + 2, none⟩ = some (.int .i64 x.spot) ∧ w.cell? ⟨b, o + k * 4 + 3, none⟩ = some (.int .i64 x.node) := by
  obtain ⟨hl, ⟨_, h0⟩ | ⟨a, c, rfl, hm, hc⟩⟩ := h
  · omega
  · have h0 : (l.flatMap Mv.row)[0]? = some (l.flatMap Mv.row)[0] := List.getElem?_eq_getElem (by omega)
    have h1 := hc 0 _ h0
    have ha : a = ⟨a.block, a.off, none⟩ := spot_none (by simpa [Addr.add] using h1)
    have hb := World.block_lt_of_cell? w _ h1
    have key : ∀ j u, j < 4 → x.row[j]? = some u → w.cell? ⟨a.block, a.off + (k * 4 + j), none⟩ = some u := fun j u hj hu => by
      have h2 := hc (k * 4 + j) u (by rw [getElem?_flatMap_row Mv.row 4 Mv.row_len l k j hj, hx]; exact hu)
      have e : a.add (k * 4 + j) = ⟨a.block, a.off + (k * 4 + j), none⟩ := by
        rw [ha]
        unfold Addr.add
        split
        · rename_i hz; rw [hz]; rfl
        · rfl
      rw [← e]
      exact h2
    exact ⟨a.block, a.off, c, by rw [← ha], by simpa [Addr.add] using hb, key 0 _ (by omega) rfl, key 1 _ (by omega) rfl, key 2 _ (by omega) rfl, key 3 _ (by omega) rfl⟩
theorem strOf_bytes (xs : List UInt8) : strOfNums (xs.map fun b => (b.toNat : Int)) = ⟨xs.toArray⟩ := by
  unfold strOfNums
  rw [List.map_map]
  congr 2
  conv => rhs; rw [← List.map_id xs]
  refine List.map_congr_left fun b _ => ?_
  simp
theorem conv_row {w : World} {base n : Nat} {e : TypeId} {v : Value} {xs : List UInt8} (h : w.ownsRow base e 1 v n (xs.map bv)) : (convert 44 9 v).run Try.prog w = .ok (.string ⟨xs.toArray⟩) w := by
  have hn : xs.length = n := by have := h.1; simpa using this
  rcases h.2 with ⟨rfl, h0⟩ | ⟨g, cap, cur, rfl, hg, hh, h1, h2, h3⟩
  · have hx : xs = [] := List.eq_nil_of_length_eq_zero (by omega)
    subst hx
    exact run_convert_bytes_nil w 44 5 Try.underlying44 Try.underlying5 0 0 9 Try.underlying9
  · have := run_convert_bytes_arg w 44 5 Try.underlying44 Try.underlying5 g 0 n cap (xs.map fun b => (b.toNat : Int)) (by simp [hn]) (fun i hi => by
      rw [Nat.zero_add, h.cellAt i (by omega), List.getElem?_map]
      have hi' : i < xs.length := by omega
      rw [List.getElem?_eq_getElem hi']
      simp [hi', bv]) 9 Try.underlying9
    rw [this, strOf_bytes]
theorem lit_m {w : World} {base k : Nat} (hk : w.heap.size = k) (hb : base ≤ k) : (w.alloc (.cells #[] 94)).ownsRow base 94 4 (.slice (some ⟨k, 0, none⟩) 0 0) 0 [] := by
  subst hk
  exact World.ownsRow_lit w #[] 0 hb (by unfold maxLen; omega) rfl
theorem Mv.ones (l : List Mv) : ∀ u ∈ l.flatMap Mv.row, u.oneCell' = true := by
  intro u hu
  obtain ⟨m, _, hm⟩ := List.mem_flatMap.1 hu
  unfold Mv.row at hm
  simp only [List.mem_cons, List.not_mem_nil, or_false] at hm
  rcases hm with rfl | rfl | rfl | rfl <;> rfl
theorem leaveF_few {node : Int} {ns : List Int} : ∀ (f k : Nat) (l : List Ent) (out : List Mv), leaveF node ns f k l = some out → out.length ≤ f
  | 0, k, l, out, h => by
    simp only [leaveF, Option.some.injEq] at h
    subst h
    exact Nat.le_refl _
  | f + 1, k, l, out, h => by
    rw [leaveF] at h
    cases hx : l[k]? with
    | none =>
      rw [hx] at h
      simp only [Option.some.injEq] at h
      subst h
      exact Nat.zero_le _
    | some x =>
      rw [hx] at h
      dsimp only at h
      split at h
      · cases hmay : mayOf l ns x with
        | nil => rw [hmay] at h; cases h
        | cons t r =>
          rw [hmay] at h
          dsimp only at h
          cases hr : leaveF node ns f (k + 1) (l.set k (x.mv node t)) with
          | none => rw [hr] at h; cases h
          | some out' =>
            rw [hr] at h
            simp only [Option.map_some, Option.some.injEq] at h
            subst h
            have := leaveF_few f (k + 1) _ out' hr
            simp
            omega
      · have := leaveF_few f (k + 1) l out h
        omega
theorem leave_few (es : List Ent) (node : Int) (ns : List Int) : ((leaveI es node ns).getD []).length ≤ es.length := by
  cases h : leaveI es node ns with
  | none => exact Nat.zero_le _
  | some out => exact leaveF_few _ _ _ out h
theorem cells4 {w : World} {b : Nat} {T : TypeId} {v0 v1 v2 v3 : Value} (h : w.heap[b]? = some (.cells #[v0, v1, v2, v3] T (0, 0))) : w.cell? ⟨b, 0, none⟩ = some v0 ∧ w.cell? ⟨b, 1, none⟩ = some v1 ∧ w.cell? ⟨b, 2, none⟩ = some v2 ∧ w.cell? ⟨b, 3, none⟩ = some v3 := by
  have e := fun j => cell_of_row w b j _ _ _ h
  exact ⟨e 0, e 1, e 2, e 3⟩
set_option maxRecDepth 100000 in
set_option maxHeartbeats 8000000 in
theorem spread_any (ao : Option Addr) (n cap : Nat) (cs : List Cmd) (va : Value) (ns : List Int) (node : Int) (w : World) (hl : cs.length = n) (hn : n ≤ 60) (hA : 0 < n → ∃ b off, ao = some ⟨b, off, none⟩ ∧ b < w.heap.size ∧ CmdsAt w b off cs)
    (hr : Reads w 1 va ns.length (ns.map (Value.int .i64))) (hcap : ∀ a n c, va = .slice a n c → n ≤ c) (hok : rightB ns = true) :
    Calls Try.prog 13 #[.slice ao n cap, va, .int .i64 node] w fun e w' => e = .returned (.bool true) ∧ Below w.heap.size w w' := by
  obtain ⟨an, capn, rfl⟩ := reads_len hr
  have hm := (right_nodes hok).1
  have HL := Lib.hid hl
  have HA := Lib.hid hA
  have HR := Lib.hid hr
  have HCAP := Lib.hid hcap
  have HOK := Lib.hid hok
  have hd60 : decide ((60 : Int) < (n : Int)) = false := by simp; omega
  have hd64 : decide ((64 : Int) < (ns.length : Int)) = false := by simp; omega
  obtain ⟨i0, hi, hz0, hz1, hz2⟩ := info_parts move_info
  have HI := Lib.hid hi
  have HZ0 := Lib.hid hz0
  have HZ1 := Lib.hid hz1
  have HZ2 := Lib.hid hz2
  clear hi hz0 hz1 hz2
  clear hl hA hr hcap hok
  go_enter Try.func13, Try.ntmps13
  go_wp2_with fail
  refine (alive27 _).mono ?_
  rintro e w1 ⟨rfl, hb1⟩
  have HB1 := Lib.hid hb1
  have hz1 := hb1.size
  clear hb1
  go_wp2_with fail
  refine (rright_any _ ns _ (HR.out.below HB1.out)).mono ?_
  rintro e wq ⟨rfl, hbq⟩
  rw [HOK.out]
  have HBQ := Lib.hid (HB1.out.trans (hbq.mono hz1))
  have hzq := HBQ.out.size
  clear hbq
  go_wp2_with fail
  refine (made_any ao n cap cs _ HL.out hn (fun h0 => by obtain ⟨b, off, h1, h2, h3⟩ := HA.out h0; exact ⟨b, off, h1, by omega, CmdsAt.below h3 HBQ.out h2⟩)).mono ?_
  rintro e w2 ⟨bm, v, xv, rfl, hm2, hx2, hb2⟩
  obtain ⟨es, hes⟩ : ∃ es, es = doAll [] cs := ⟨_, rfl⟩
  have hfew : es.length ≤ 60 := by have := doAll_few cs []; rw [← hes] at this; simp at this; have := HL.out; omega
  have hno : NodesOk es := by rw [hes]; exact nodes_all cs [] nodes_nil
  rw [← hes] at hm2 hx2
  obtain ⟨ax, cx, rfl⟩ := ownsRow_len hx2
  have HM2 := Lib.hid hm2
  have HNO := Lib.hid hno
  have HES := Lib.hid hes
  have HB2 := Lib.hid (HBQ.out.trans (hb2.mono hzq))
  have hz2 := HB2.out.size
  clear hm2 hx2 hno hb2 hes
  obtain ⟨so, hso⟩ : ∃ so, so = sortI (fun k => (loadN es k : Int)) ns := ⟨_, rfl⟩
  have HLEN := Lib.hid (show so.length = ns.length by rw [hso]; simp [sortI])
  have HSO := Lib.hid hso
  clear hso
  go_wp2_with fail
  refine (porder_any wq.heap.size bm v _ es ns _ HM2.out HNO.out (HR.out.below HB2.out) HCAP.out HOK.out).mono ?_
  rintro e w3 ⟨v3, rfl, ho3, hb3⟩
  rw [← HSO.out] at ho3
  obtain ⟨a3, c3, rfl⟩ := ownsRow_len ho3
  have HO3 := Lib.hid ho3
  have HM3 := Lib.hid (HM2.out.below hb3)
  have HB3 := Lib.hid (HB2.out.trans (hb3.mono hz2))
  have hz3 := HB3.out.size
  clear ho3 hb3
  go_wp2_with fail
  refine (code_any 0 (by omega) (by omega) _).mono ?_
  rintro e w9 ⟨rfl, rfl⟩
  go_wp2_with fail
  go_loopw [11] (fun i wr => ∃ k : Nat, k ≤ ns.length ∧ i = .int .i64 k ∧ Below w3.heap.size w3 wr) (fun i _ => ns.length - (intOf i).toNat)
  case atStart => exact ⟨0, Nat.zero_le _, rfl, Below.refl _ _⟩
  case round =>
    obtain ⟨k, hk, rfl, hbr⟩ := hrel
    have HBR := Lib.hid hbr
    have hzr := hbr.size
    clear hbr
    by_cases hlt : k < ns.length
    · obtain ⟨x, hx⟩ : ∃ x, so[k]? = some x := ⟨_, List.getElem?_eq_getElem (by rw [HLEN.out]; exact hlt)⟩
      obtain ⟨g3, rfl⟩ : ∃ g, a3 = some ⟨g, 0, none⟩ := by
        rcases HO3.out.2 with ⟨e, h0⟩ | ⟨g, _, _, e, _⟩
        · omega
        · simp only [Value.slice.injEq] at e
          exact ⟨g, e.1⟩
      have HX := Lib.hid hx
      have HCX := Lib.hid (show ∀ W, Below w3.heap.size w3 W → ∀ (j : Nat) (y : Int), so[j]? = some y → W.cell? ⟨g3, j, none⟩ = some (.int .i64 y) from fun W hW j y hy => by
        rw [(ownsRow_below HO3.out hW).cellAt j (by have := (List.getElem?_eq_some_iff.1 hy).1; rw [HLEN.out] at this; omega), List.getElem?_map, hy]
        rfl)
      have hg3 := (HO3.out.lt g3 rfl).2
      have hk0 : (0 : Int) ≤ (k : Int) := by omega
      have hk1 : (k : Int) < (ns.length : Int) := by omega
      clear hx
      go_wp2_with fail
      obtain ⟨wo, rfl⟩ : ∃ W : World, W = wr := ⟨_, rfl⟩
      go_loopw [12, 13] (fun h i wr => ∃ m : Nat, m ≤ ns.length ∧ i = .int .i64 m ∧ h = .int .i64 ((ns.take m).countP (fun z => z == x)) ∧ Below wo.heap.size wo wr) (fun _ i _ => ns.length - (intOf i).toNat)
      case atStart => exact ⟨0, Nat.zero_le _, rfl, by simp, Below.refl _ _⟩
      case round =>
        obtain ⟨m, hm2, rfl, rfl, hbm⟩ := hrel
        have HBM := Lib.hid hbm
        have hzm := hbm.size
        have HB4 := Lib.hid (HBR.out.trans (hbm.mono hzr))
        clear hbm
        by_cases hmlt : m < ns.length
        · obtain ⟨b2, o2, c2, e2, hbl2, _, hn2⟩ := ints_at (HR.out.below (HB3.out.trans (HB4.out.mono hz3))) (by omega)
          obtain ⟨rfl, -, rfl⟩ := sl_inj e2
          obtain ⟨y, hy⟩ : ∃ y, ns[m]? = some y := ⟨_, List.getElem?_eq_getElem hmlt⟩
          have hcy := hn2 m hmlt
          rw [show ns.getD m 0 = y by simp [List.getD, hy]] at hcy
          have hcx := HCX.out wr HB4.out k x HX.out
          have hg3r : g3 < wr.heap.size := by omega
          have HSN := Lib.hid (hit_snoc ns x y m hy)
          have hcl := List.countP_le_length (p := fun z => z == x) (l := ns.take m)
          have hct : (ns.take m).length ≤ 64 := by rw [List.length_take]; omega
          have hm0 : (0 : Int) ≤ (m : Int) := by omega
          have hm1 : (m : Int) < (ns.length : Int) := by omega
          obtain ⟨ct, hctd⟩ : ∃ ct, ct = (ns.take m).countP (fun z => z == x) := ⟨_, rfl⟩
          rw [← hctd] at HSN hcl ⊢
          clear e2 hn2 hy hctd
          go_wp2_with fail
          refine wp_region_now0 [3, 7] [(0, 0), (1, 0), (2, 0), (3, 2), (4, 0), (5, 0), (6, 0), (7, 2), (8, 0)] (by kernel_rfl) (by kernel_rfl) rfl (by kernel_rfl) ?_
          refine stepE0 rfl rfl (fun K hK => ?_)
          go_simp
          refine hK _ ?_
          clear hK K
          refine stepE0 rfl rfl (fun K hK => ?_)
          go_simp
          refine hK _ ?_
          clear hK K
          refine stepE0 rfl rfl (fun K hK => ?_)
          go_simp
          refine hK _ ?_
          clear hK K
          refine stepE2 rfl rfl ?_ (fun w1 hS => ?_) (fun K hK => ?_)
          rotate_left
          focus (obtain rfl : w1 = _ := hS; go_simp; rfl)
          go_simp
          refine hK _ ?_
          clear hK K
          refine stepE0 rfl rfl (fun K hK => ?_)
          go_simp
          refine hK _ ?_
          clear hK K
          refine stepE0 rfl rfl (fun K hK => ?_)
          go_simp
          refine hK _ ?_
          clear hK K
          refine stepE0 rfl rfl (fun K hK => ?_)
          go_simp
          refine hK _ ?_
          clear hK K
          refine stepE2 rfl rfl ?_ (fun w1 hS => ?_) (fun K hK => ?_)
          rotate_left
          focus (obtain rfl : w1 = _ := hS; go_simp; rfl)
          go_simp
          refine hK _ ?_
          clear hK K
          refine stepE0 rfl rfl (fun K hK => ?_)
          go_simp
          refine hK _ ?_
          clear hK K
          try refine stepEnil0 ?_
          by_cases hyx : y = x
          · subst hyx
            go_wp2_with fail
            go_roundw
            case rel => exact ⟨m + 1, by omega, by go_num, by rw [HSN.out]; simp, HBM.out.drew⟩
            case measure => simp [intOf]; omega
          · have hyf : (y == x) = false := by simpa using hyx
            go_wp2_with fail
            go_roundw
            case rel => exact ⟨m + 1, by omega, by go_num, by rw [HSN.out]; simp [hyx], HBM.out.drew⟩
            case measure => simp [intOf]; omega
        · have hmn : decide ((m : Int) < (ns.length : Int)) = false := by simp; omega
          have hcnt : (ns.take m).countP (fun z => z == x) = 1 := by
            rw [List.take_of_length_le (by omega)]
            exact sort_hit HOK.out (by rw [← HSO.out]; exact HX.out)
          rw [hcnt]
          clear hcnt
          go_wp2_with fail
          by_cases hkz : k = 0
          · have HKZ := Lib.hid hkz
            have hkf : decide ((0 : Int) < (k : Int)) = false := by simp; omega
            have hkf2 : decide (0 < k) = false := by simp; omega
            clear hkz
            as_aux_lemma =>
            refine wp_region_mask0 (fun w1 => w1 = _) [11, 17, 26, 32, 40, 44] [0, 1, 3, 7, 15, 31, 63, 63, 63, 319, 959, 1983, 4095, 63, 63, 63, 49215, 114751, 262143, 524287, 1048575, 2097151, 2097151, 2097151, 10485759, 31457279, 65011711, 134217727, 2097151, 2097151, 2097151, 1612709887, 3760193535, 8589934591, 17179869183, 34359738367, 68719476735, 68719476735, 206158430207, 549755813887, 1099511627775, 68719476735, 68719476735, 6665789243391, 15461882265599, 35184372088831, 70368744177663, 140737488355327, 281474976710655, 562949953421311] (.op 0 0 (.op 1 0 (.op 2 0 (.op 3 0 (.op 4 0 (.op 5 0 (.op 6 0 (.op 7 0 (.op 8 0 (.op 9 0 (.op 10 0 (.op 11 2 (.op 13 0 (.op 14 0 (.op 15 0 (.op 16 0 (.op 17 2 (.op 12 1 (.op 18 1 (.op 19 0 (.op 20 0 (.op 21 0 (.op 22 0 (.op 23 0 (.op 24 0 (.op 25 0 (.op 26 2 (.op 28 0 (.op 29 0 (.op 30 0 (.op 31 0 (.op 32 2 (.op 27 1 (.op 33 1 (.op 34 0 (.op 35 0 (.op 36 0 (.op 37 0 (.op 38 0 (.op 39 0 (.op 40 2 (.op 41 0 (.op 42 0 (.op 43 0 (.op 44 2 (.op 45 0 (.op 46 0 (.op 47 0 (.op 48 0 (.op 49 0 .nil)))))))))))))))))))))))))))))))))))))))))))))))))) (by kernel_rfl) (by kernel_rfl) rfl (by kernel_rfl) (by kernel_rfl) rfl ?_
            refine stepM0 rfl rfl (fun K hK => ?_)
            go_simp
            refine hK _ ?_
            clear hK K
            refine stepM0 rfl rfl (fun K hK => ?_)
            go_simp
            refine hK _ ?_
            clear hK K
            refine stepM0 rfl rfl (fun K hK => ?_)
            go_simp
            refine hK _ ?_
            clear hK K
            refine stepM0 rfl rfl (fun K hK => ?_)
            go_simp
            refine hK _ ?_
            clear hK K
            refine stepM0 rfl rfl (fun K hK => ?_)
            go_simp
            refine hK _ ?_
            clear hK K
            refine stepM0 rfl rfl (fun K hK => ?_)
            go_simp
            refine hK _ ?_
            clear hK K
            refine stepMy0 rfl rfl (fun K hK => ?_)
            go_simp
            refine hK _ ?_
            clear hK K
            refine stepMy0 rfl rfl (fun K hK => ?_)
            go_simp
            refine hK _ ?_
            clear hK K
            refine stepMy0 rfl rfl (fun K hK => ?_)
            go_simp
            refine hK _ ?_
            clear hK K
            refine stepMy0 rfl rfl (fun K hK => ?_)
            go_simp
            refine hK _ ?_
            clear hK K
            refine stepMy0 rfl rfl (fun K hK => ?_)
            go_simp
            refine hK _ ?_
            clear hK K
            refine stepMy2 rfl rfl (fun K hK => ?_)
            go_simp
            refine hK _ ?_
            clear hK K
            refine stepMy0 rfl rfl (fun K hK => ?_)
            go_simp
            refine hK _ ?_
            clear hK K
            refine stepMy0 rfl rfl (fun K hK => ?_)
            go_simp
            refine hK _ ?_
            clear hK K
            refine stepMy0 rfl rfl (fun K hK => ?_)
            go_simp
            refine hK _ ?_
            clear hK K
            refine stepMy0 rfl rfl (fun K hK => ?_)
            go_simp
            refine hK _ ?_
            clear hK K
            refine stepMy2 rfl rfl (fun K hK => ?_)
            go_simp
            refine hK _ ?_
            clear hK K
            refine stepMy1 rfl rfl (fun K hK => ?_)
            go_simp
            refine hK _ ?_
            clear hK K
            refine stepMy1 rfl rfl (fun K hK => ?_)
            go_simp
            refine hK _ ?_
            clear hK K
            refine stepMy0 rfl rfl (fun K hK => ?_)
            go_simp
            refine hK _ ?_
            clear hK K
            refine stepMy0 rfl rfl (fun K hK => ?_)
            go_simp
            refine hK _ ?_
            clear hK K
            refine stepMy0 rfl rfl (fun K hK => ?_)
            go_simp
            refine hK _ ?_
            clear hK K
            refine stepMy0 rfl rfl (fun K hK => ?_)
            go_simp
            refine hK _ ?_
            clear hK K
            refine stepMy0 rfl rfl (fun K hK => ?_)
            go_simp
            refine hK _ ?_
            clear hK K
            refine stepMy0 rfl rfl (fun K hK => ?_)
            go_simp
            refine hK _ ?_
            clear hK K
            refine stepMy0 rfl rfl (fun K hK => ?_)
            go_simp
            refine hK _ ?_
            clear hK K
            refine stepMy2 rfl rfl (fun K hK => ?_)
            go_simp
            refine hK _ ?_
            clear hK K
            refine stepMy0 rfl rfl (fun K hK => ?_)
            go_simp
            refine hK _ ?_
            clear hK K
            refine stepMy0 rfl rfl (fun K hK => ?_)
            go_simp
            refine hK _ ?_
            clear hK K
            refine stepMy0 rfl rfl (fun K hK => ?_)
            go_simp
            refine hK _ ?_
            clear hK K
            refine stepMy0 rfl rfl (fun K hK => ?_)
            go_simp
            refine hK _ ?_
            clear hK K
            refine stepMy2 rfl rfl (fun K hK => ?_)
            go_simp
            refine hK _ ?_
            clear hK K
            refine stepMy1 rfl rfl (fun K hK => ?_)
            go_simp
            refine hK _ ?_
            clear hK K
            refine stepMy1 rfl rfl (fun K hK => ?_)
            go_simp
            refine hK _ ?_
            clear hK K
            refine stepMy0 rfl rfl (fun K hK => ?_)
            go_simp
            refine hK _ ?_
            clear hK K
            refine stepMy0 rfl rfl (fun K hK => ?_)
            go_simp
            refine hK _ ?_
            clear hK K
            refine stepMy0 rfl rfl (fun K hK => ?_)
            go_simp
            refine hK _ ?_
            clear hK K
            refine stepMy0 rfl rfl (fun K hK => ?_)
            go_simp
            refine hK _ ?_
            clear hK K
            refine stepMy0 rfl rfl (fun K hK => ?_)
            go_simp
            refine hK _ ?_
            clear hK K
            refine stepMy0 rfl rfl (fun K hK => ?_)
            go_simp
            refine hK _ ?_
            clear hK K
            refine stepMy2 rfl rfl (fun K hK => ?_)
            go_simp
            refine hK _ ?_
            clear hK K
            refine stepMy0 rfl rfl (fun K hK => ?_)
            go_simp
            refine hK _ ?_
            clear hK K
            refine stepMy0 rfl rfl (fun K hK => ?_)
            go_simp
            refine hK _ ?_
            clear hK K
            refine stepMy0 rfl rfl (fun K hK => ?_)
            go_simp
            refine hK _ ?_
            clear hK K
            refine stepMy2 rfl rfl (fun K hK => ?_)
            go_simp
            refine hK _ ?_
            clear hK K
            refine stepMy0 rfl rfl (fun K hK => ?_)
            go_simp
            refine hK _ ?_
            clear hK K
            refine stepMy0 rfl rfl (fun K hK => ?_)
            go_simp
            refine hK _ ?_
            clear hK K
            refine stepMy0 rfl rfl (fun K hK => ?_)
            go_simp
            refine hK _ ?_
            clear hK K
            refine stepM0 rfl rfl (fun K hK => ?_)
            go_simp
            refine hK _ ?_
            clear hK K
            refine stepM0 rfl rfl (fun K hK => ?_)
            go_simp
            refine hK _ ?_
            clear hK K
            try refine stepMnil0 ?_
            go_wp2_with fail
            go_roundw
            case rel => exact ⟨k + 1, by omega, by go_num, HB4.out.drew⟩
            case measure => simp [intOf]; omega
          · obtain ⟨j, hj⟩ : ∃ j, k = j + 1 := ⟨k - 1, by omega⟩
            have hkt : (0 : Int) < (k : Int) := by omega
            have hkt2 : 0 < k := by omega
            have hk11 : (1 : Int) ≤ (k : Int) := by omega
            obtain ⟨x0, hx0⟩ : ∃ x0, so[j]? = some x0 := ⟨_, List.getElem?_eq_getElem (by rw [HLEN.out]; omega)⟩
            have HX0 := Lib.hid hx0
            have hrise := sort_rise HOK.out (by rw [← HSO.out]; exact hx0) (by rw [← HSO.out, ← hj]; exact HX.out)
            have hj0 : (0 : Int) ≤ (k : Int) - 1 := by omega
            have hj1 : (k : Int) - 1 < (ns.length : Int) := by omega
            have hjw : IntKind.i64.wrap ((k : Int) - 1) = (k : Int) - 1 := IntWalk.i64_in _ (by omega)
            have hjt : ((k : Int) - 1).toNat = j := by omega
            have hcs := HCX.out wr HB4.out j x0 hx0
            have hct := HCX.out wr HB4.out k x HX.out
            have hg3r : g3 < wr.heap.size := by omega
            have hgt : decide ((loadN es x : Int) < (loadN es x0 : Int)) = false := by simp; omega
            have hgt2 : decide (loadN es x < loadN es x0) = false := by simp; omega
            have hz4 := HB4.out.size
            clear hx0
            by_cases heq : loadN es x0 = loadN es x
            · have hxx : decide (x ≤ x0) = false := by simp; omega
              have hee : ((loadN es x0 : Int) == (loadN es x : Int)) = true := by simp [heq]
              have hee2 : (loadN es x0 == loadN es x) = true := by simp [heq]
              clear hrise hj heq hkz
              as_aux_lemma =>
              obtain ⟨SS, HSD⟩ : ∃ SS : World → Prop, Hid (SS = fun w' => w'.cell? ⟨g3, j, none⟩ = some (.int .i64 x0) ∧ w'.cell? ⟨g3, k, none⟩ = some (.int .i64 x) ∧ g3 < w'.heap.size) := ⟨_, Lib.hid rfl⟩
              refine wp_region_mask0 SS [11, 17, 26, 32, 40, 44] [0, 1, 3, 7, 15, 31, 63, 63, 63, 319, 959, 1983, 4095, 63, 63, 63, 49215, 114751, 262143, 524287, 1048575, 2097151, 2097151, 2097151, 10485759, 31457279, 65011711, 134217727, 2097151, 2097151, 2097151, 1612709887, 3760193535, 8589934591, 17179869183, 34359738367, 68719476735, 68719476735, 206158430207, 549755813887, 1099511627775, 68719476735, 68719476735, 6665789243391, 15461882265599, 35184372088831, 70368744177663, 140737488355327, 281474976710655, 562949953421311] (.op 0 0 (.op 1 0 (.op 2 0 (.op 3 0 (.op 4 0 (.op 5 0 (.op 6 0 (.op 7 0 (.op 8 0 (.op 9 0 (.op 10 0 (.op 11 2 (.op 13 0 (.op 14 0 (.op 15 0 (.op 16 0 (.op 17 2 (.op 12 1 (.op 18 1 (.op 19 0 (.op 20 0 (.op 21 0 (.op 22 0 (.op 23 0 (.op 24 0 (.op 25 0 (.op 26 2 (.op 28 0 (.op 29 0 (.op 30 0 (.op 31 0 (.op 32 2 (.op 27 1 (.op 33 1 (.op 34 0 (.op 35 0 (.op 36 0 (.op 37 0 (.op 38 0 (.op 39 0 (.op 40 2 (.op 41 0 (.op 42 0 (.op 43 0 (.op 44 2 (.op 45 0 (.op 46 0 (.op 47 0 (.op 48 0 (.op 49 0 .nil)))))))))))))))))))))))))))))))))))))))))))))))))) (by kernel_rfl) (by kernel_rfl) rfl (by kernel_rfl) (by kernel_rfl) ?_ ?_
              focus (rw [HSD.out]; exact ⟨hcs, hct, hg3r⟩)
              refine stepM0 rfl rfl (fun K hK => ?_)
              go_simp
              refine hK _ ?_
              clear hK K
              refine stepM0 rfl rfl (fun K hK => ?_)
              go_simp
              refine hK _ ?_
              clear hK K
              refine stepM0 rfl rfl (fun K hK => ?_)
              go_simp
              refine hK _ ?_
              clear hK K
              refine stepM0 rfl rfl (fun K hK => ?_)
              go_simp
              refine hK _ ?_
              clear hK K
              refine stepM0 rfl rfl (fun K hK => ?_)
              go_simp
              refine hK _ ?_
              clear hK K
              refine stepM0 rfl rfl (fun K hK => ?_)
              go_simp
              refine hK _ ?_
              clear hK K
              refine stepM0 rfl rfl (fun K hK => ?_)
              go_simp
              refine hK _ ?_
              clear hK K
              refine stepM0 rfl rfl (fun K hK => ?_)
              go_simp
              refine hK _ ?_
              clear hK K
              refine stepM0 rfl rfl (fun K hK => ?_)
              go_simp
              refine hK _ ?_
              clear hK K
              refine stepM0 rfl rfl (fun K hK => ?_)
              go_simp
              refine hK _ ?_
              clear hK K
              refine stepM0 rfl rfl (fun K hK => ?_)
              go_simp
              refine hK _ ?_
              clear hK K
              refine stepM2 rfl rfl ?_ (fun w1 hS => ?_) (fun K hK => ?_)
              rotate_left
              focus (rw [HSD.out] at hS; obtain ⟨s0, s1, s2⟩ := hS; go_simp; rfl)
              go_simp
              refine hK _ ?_
              clear hK K
              refine stepM0 rfl rfl (fun K hK => ?_)
              go_simp
              refine hK _ ?_
              clear hK K
              refine stepM0 rfl rfl (fun K hK => ?_)
              go_simp
              refine hK _ ?_
              clear hK K
              refine stepM0 rfl rfl (fun K hK => ?_)
              go_simp
              refine hK _ ?_
              clear hK K
              refine stepM0 rfl rfl (fun K hK => ?_)
              go_simp
              refine hK _ ?_
              clear hK K
              refine stepM2 rfl rfl ?_ (fun w1 hS => ?_) (fun K hK => ?_)
              rotate_left
              focus (rw [HSD.out] at hS; obtain ⟨s0, s1, s2⟩ := hS; go_simp; rfl)
              go_simp
              refine hK _ ?_
              clear hK K
              refine stepM1S rfl rfl (fun K hK => ?_)
              (go_wp2_with fail; refine Calls.mono (pload_any wq.heap.size bm v es x0 _ (HM3.out.below (show Below w3.heap.size w3 _ from Below.trans HB4.out (by repeat (first | (with_reducible exact Below.refl _ _) | (with_reducible refine Below.setCell ?_ ?_ _) | (with_reducible refine Below.alloc ?_ ?_ _) | (with_reducible refine Below.drewN ?_ _) | (with_reducible refine Below.drew ?_) | (with_reducible exact Nat.le_refl _) | (focus (simp only [World.size_alloc, World.size_setCell, World.size_drew, World.size_drewN]; omega)) | omega | exact Nat.le_refl _ | (focus (simp; done)) | (focus (simp; omega))))))) ?_; rintro e wr1 ⟨rfl, hb9⟩; have HW12 := Lib.hid (show Below w3.heap.size w3 wr1 from Below.trans (show Below w3.heap.size w3 _ from Below.trans HB4.out (by repeat (first | (with_reducible exact Below.refl _ _) | (with_reducible refine Below.setCell ?_ ?_ _) | (with_reducible refine Below.alloc ?_ ?_ _) | (with_reducible refine Below.drewN ?_ _) | (with_reducible refine Below.drew ?_) | (with_reducible exact Nat.le_refl _) | (focus (simp only [World.size_alloc, World.size_setCell, World.size_drew, World.size_drewN]; omega)) | omega | exact Nat.le_refl _ | (focus (simp; done)) | (focus (simp; omega))))) (hb9.mono (by first | omega | (simp; done) | (simp; omega)))); have hcs12 := HCX.out wr1 HW12.out j x0 HX0.out; have hct12 := HCX.out wr1 HW12.out k x HX.out; have hzz12 := HW12.out.size; clear hb9; go_wp2)
              refine ⟨by rw [HSD.out]; exact (⟨hcs12, hct12, by omega⟩), ?_⟩
              refine stepM1S rfl rfl (fun K hK => ?_)
              (go_wp2_with fail; refine Calls.mono (pload_any wq.heap.size bm v es x _ (HM3.out.below (show Below w3.heap.size w3 _ from Below.trans HW12.out (by repeat (first | (with_reducible exact Below.refl _ _) | (with_reducible refine Below.setCell ?_ ?_ _) | (with_reducible refine Below.alloc ?_ ?_ _) | (with_reducible refine Below.drewN ?_ _) | (with_reducible refine Below.drew ?_) | (with_reducible exact Nat.le_refl _) | (focus (simp only [World.size_alloc, World.size_setCell, World.size_drew, World.size_drewN]; omega)) | omega | exact Nat.le_refl _ | (focus (simp; done)) | (focus (simp; omega))))))) ?_; rintro e wr2 ⟨rfl, hb9⟩; have HW18 := Lib.hid (show Below w3.heap.size w3 wr2 from Below.trans (show Below w3.heap.size w3 _ from Below.trans HW12.out (by repeat (first | (with_reducible exact Below.refl _ _) | (with_reducible refine Below.setCell ?_ ?_ _) | (with_reducible refine Below.alloc ?_ ?_ _) | (with_reducible refine Below.drewN ?_ _) | (with_reducible refine Below.drew ?_) | (with_reducible exact Nat.le_refl _) | (focus (simp only [World.size_alloc, World.size_setCell, World.size_drew, World.size_drewN]; omega)) | omega | exact Nat.le_refl _ | (focus (simp; done)) | (focus (simp; omega))))) (hb9.mono (by first | omega | (simp; done) | (simp; omega)))); have hcs18 := HCX.out wr2 HW18.out j x0 HX0.out; have hct18 := HCX.out wr2 HW18.out k x HX.out; have hzz18 := HW18.out.size; clear hb9; go_wp2)
              refine ⟨by rw [HSD.out]; exact (⟨hcs18, hct18, by omega⟩), ?_⟩
              refine stepM0 rfl rfl (fun K hK => ?_)
              go_simp
              refine hK _ ?_
              clear hK K
              refine stepM0 rfl rfl (fun K hK => ?_)
              go_simp
              refine hK _ ?_
              clear hK K
              refine stepM0 rfl rfl (fun K hK => ?_)
              go_simp
              refine hK _ ?_
              clear hK K
              refine stepM0 rfl rfl (fun K hK => ?_)
              go_simp
              refine hK _ ?_
              clear hK K
              refine stepM0 rfl rfl (fun K hK => ?_)
              go_simp
              refine hK _ ?_
              clear hK K
              refine stepM0 rfl rfl (fun K hK => ?_)
              go_simp
              refine hK _ ?_
              clear hK K
              refine stepM0 rfl rfl (fun K hK => ?_)
              go_simp
              refine hK _ ?_
              clear hK K
              refine stepM2 rfl rfl ?_ (fun w1 hS => ?_) (fun K hK => ?_)
              rotate_left
              focus (rw [HSD.out] at hS; obtain ⟨s0, s1, s2⟩ := hS; go_simp; rfl)
              go_simp
              refine hK _ ?_
              clear hK K
              refine stepM0 rfl rfl (fun K hK => ?_)
              go_simp
              refine hK _ ?_
              clear hK K
              refine stepM0 rfl rfl (fun K hK => ?_)
              go_simp
              refine hK _ ?_
              clear hK K
              refine stepM0 rfl rfl (fun K hK => ?_)
              go_simp
              refine hK _ ?_
              clear hK K
              refine stepM0 rfl rfl (fun K hK => ?_)
              go_simp
              refine hK _ ?_
              clear hK K
              refine stepM2 rfl rfl ?_ (fun w1 hS => ?_) (fun K hK => ?_)
              rotate_left
              focus (rw [HSD.out] at hS; obtain ⟨s0, s1, s2⟩ := hS; go_simp; rfl)
              go_simp
              refine hK _ ?_
              clear hK K
              refine stepM1S rfl rfl (fun K hK => ?_)
              (go_wp2_with fail; refine Calls.mono (pload_any wq.heap.size bm v es x0 _ (HM3.out.below (show Below w3.heap.size w3 _ from Below.trans HW18.out (by repeat (first | (with_reducible exact Below.refl _ _) | (with_reducible refine Below.setCell ?_ ?_ _) | (with_reducible refine Below.alloc ?_ ?_ _) | (with_reducible refine Below.drewN ?_ _) | (with_reducible refine Below.drew ?_) | (with_reducible exact Nat.le_refl _) | (focus (simp only [World.size_alloc, World.size_setCell, World.size_drew, World.size_drewN]; omega)) | omega | exact Nat.le_refl _ | (focus (simp; done)) | (focus (simp; omega))))))) ?_; rintro e wr3 ⟨rfl, hb9⟩; have HW27 := Lib.hid (show Below w3.heap.size w3 wr3 from Below.trans (show Below w3.heap.size w3 _ from Below.trans HW18.out (by repeat (first | (with_reducible exact Below.refl _ _) | (with_reducible refine Below.setCell ?_ ?_ _) | (with_reducible refine Below.alloc ?_ ?_ _) | (with_reducible refine Below.drewN ?_ _) | (with_reducible refine Below.drew ?_) | (with_reducible exact Nat.le_refl _) | (focus (simp only [World.size_alloc, World.size_setCell, World.size_drew, World.size_drewN]; omega)) | omega | exact Nat.le_refl _ | (focus (simp; done)) | (focus (simp; omega))))) (hb9.mono (by first | omega | (simp; done) | (simp; omega)))); have hcs27 := HCX.out wr3 HW27.out j x0 HX0.out; have hct27 := HCX.out wr3 HW27.out k x HX.out; have hzz27 := HW27.out.size; clear hb9; go_wp2)
              refine ⟨by rw [HSD.out]; exact (⟨hcs27, hct27, by omega⟩), ?_⟩
              refine stepM1S rfl rfl (fun K hK => ?_)
              (go_wp2_with fail; refine Calls.mono (pload_any wq.heap.size bm v es x _ (HM3.out.below (show Below w3.heap.size w3 _ from Below.trans HW27.out (by repeat (first | (with_reducible exact Below.refl _ _) | (with_reducible refine Below.setCell ?_ ?_ _) | (with_reducible refine Below.alloc ?_ ?_ _) | (with_reducible refine Below.drewN ?_ _) | (with_reducible refine Below.drew ?_) | (with_reducible exact Nat.le_refl _) | (focus (simp only [World.size_alloc, World.size_setCell, World.size_drew, World.size_drewN]; omega)) | omega | exact Nat.le_refl _ | (focus (simp; done)) | (focus (simp; omega))))))) ?_; rintro e wr4 ⟨rfl, hb9⟩; have HW33 := Lib.hid (show Below w3.heap.size w3 wr4 from Below.trans (show Below w3.heap.size w3 _ from Below.trans HW27.out (by repeat (first | (with_reducible exact Below.refl _ _) | (with_reducible refine Below.setCell ?_ ?_ _) | (with_reducible refine Below.alloc ?_ ?_ _) | (with_reducible refine Below.drewN ?_ _) | (with_reducible refine Below.drew ?_) | (with_reducible exact Nat.le_refl _) | (focus (simp only [World.size_alloc, World.size_setCell, World.size_drew, World.size_drewN]; omega)) | omega | exact Nat.le_refl _ | (focus (simp; done)) | (focus (simp; omega))))) (hb9.mono (by first | omega | (simp; done) | (simp; omega)))); have hcs33 := HCX.out wr4 HW33.out j x0 HX0.out; have hct33 := HCX.out wr4 HW33.out k x HX.out; have hzz33 := HW33.out.size; clear hb9; go_wp2)
              refine ⟨by rw [HSD.out]; exact (⟨hcs33, hct33, by omega⟩), ?_⟩
              refine stepM0 rfl rfl (fun K hK => ?_)
              go_simp
              refine hK _ ?_
              clear hK K
              refine stepM0 rfl rfl (fun K hK => ?_)
              go_simp
              refine hK _ ?_
              clear hK K
              refine stepM0 rfl rfl (fun K hK => ?_)
              go_simp
              refine hK _ ?_
              clear hK K
              refine stepM0 rfl rfl (fun K hK => ?_)
              go_simp
              refine hK _ ?_
              clear hK K
              refine stepM0 rfl rfl (fun K hK => ?_)
              go_simp
              refine hK _ ?_
              clear hK K
              refine stepM0 rfl rfl (fun K hK => ?_)
              go_simp
              refine hK _ ?_
              clear hK K
              refine stepM2 rfl rfl ?_ (fun w1 hS => ?_) (fun K hK => ?_)
              rotate_left
              focus (rw [HSD.out] at hS; obtain ⟨s0, s1, s2⟩ := hS; go_simp; rfl)
              go_simp
              refine hK _ ?_
              clear hK K
              refine stepM0 rfl rfl (fun K hK => ?_)
              go_simp
              refine hK _ ?_
              clear hK K
              refine stepM0 rfl rfl (fun K hK => ?_)
              go_simp
              refine hK _ ?_
              clear hK K
              refine stepM0 rfl rfl (fun K hK => ?_)
              go_simp
              refine hK _ ?_
              clear hK K
              refine stepM2 rfl rfl ?_ (fun w1 hS => ?_) (fun K hK => ?_)
              rotate_left
              focus (rw [HSD.out] at hS; obtain ⟨s0, s1, s2⟩ := hS; go_simp; rfl)
              go_simp
              refine hK _ ?_
              clear hK K
              refine stepM0 rfl rfl (fun K hK => ?_)
              go_simp
              refine hK _ ?_
              clear hK K
              refine stepM0 rfl rfl (fun K hK => ?_)
              go_simp
              refine hK _ ?_
              clear hK K
              refine stepM0 rfl rfl (fun K hK => ?_)
              go_simp
              refine hK _ ?_
              clear hK K
              refine stepM0 rfl rfl (fun K hK => ?_)
              go_simp
              refine hK _ ?_
              clear hK K
              refine stepM0 rfl rfl (fun K hK => ?_)
              go_simp
              refine hK _ ?_
              clear hK K
              try refine stepMnil0 ?_
              clear HSD SS
              go_wp2_with fail
              go_roundw
              case rel => exact ⟨k + 1, by omega, by go_num, HW33.out⟩
              case measure => simp [intOf]; omega
            · have hee : ((loadN es x0 : Int) == (loadN es x : Int)) = false := by simp; omega
              have hee2 : (loadN es x0 == loadN es x) = false := by simp; omega
              clear hrise hj heq hkz
              as_aux_lemma =>
              obtain ⟨SS, HSD⟩ : ∃ SS : World → Prop, Hid (SS = fun w' => w'.cell? ⟨g3, j, none⟩ = some (.int .i64 x0) ∧ w'.cell? ⟨g3, k, none⟩ = some (.int .i64 x) ∧ g3 < w'.heap.size) := ⟨_, Lib.hid rfl⟩
              refine wp_region_mask0 SS [11, 17, 26, 32, 40, 44] [0, 1, 3, 7, 15, 31, 63, 63, 63, 319, 959, 1983, 4095, 63, 63, 63, 49215, 114751, 262143, 524287, 1048575, 2097151, 2097151, 2097151, 10485759, 31457279, 65011711, 134217727, 2097151, 2097151, 2097151, 1612709887, 3760193535, 8589934591, 17179869183, 34359738367, 68719476735, 68719476735, 206158430207, 549755813887, 1099511627775, 68719476735, 68719476735, 6665789243391, 15461882265599, 35184372088831, 70368744177663, 140737488355327, 281474976710655, 562949953421311] (.op 0 0 (.op 1 0 (.op 2 0 (.op 3 0 (.op 4 0 (.op 5 0 (.op 6 0 (.op 7 0 (.op 8 0 (.op 9 0 (.op 10 0 (.op 11 2 (.op 13 0 (.op 14 0 (.op 15 0 (.op 16 0 (.op 17 2 (.op 12 1 (.op 18 1 (.op 19 0 (.op 20 0 (.op 21 0 (.op 22 0 (.op 23 0 (.op 24 0 (.op 25 0 (.op 26 2 (.op 28 0 (.op 29 0 (.op 30 0 (.op 31 0 (.op 32 2 (.op 27 1 (.op 33 1 (.op 34 0 (.op 35 0 (.op 36 0 (.op 37 0 (.op 38 0 (.op 39 0 (.op 40 2 (.op 41 0 (.op 42 0 (.op 43 0 (.op 44 2 (.op 45 0 (.op 46 0 (.op 47 0 (.op 48 0 (.op 49 0 .nil)))))))))))))))))))))))))))))))))))))))))))))))))) (by kernel_rfl) (by kernel_rfl) rfl (by kernel_rfl) (by kernel_rfl) ?_ ?_
              focus (rw [HSD.out]; exact ⟨hcs, hct, hg3r⟩)
              refine stepM0 rfl rfl (fun K hK => ?_)
              go_simp
              refine hK _ ?_
              clear hK K
              refine stepM0 rfl rfl (fun K hK => ?_)
              go_simp
              refine hK _ ?_
              clear hK K
              refine stepM0 rfl rfl (fun K hK => ?_)
              go_simp
              refine hK _ ?_
              clear hK K
              refine stepM0 rfl rfl (fun K hK => ?_)
              go_simp
              refine hK _ ?_
              clear hK K
              refine stepM0 rfl rfl (fun K hK => ?_)
              go_simp
              refine hK _ ?_
              clear hK K
              refine stepM0 rfl rfl (fun K hK => ?_)
              go_simp
              refine hK _ ?_
              clear hK K
              refine stepM0 rfl rfl (fun K hK => ?_)
              go_simp
              refine hK _ ?_
              clear hK K
              refine stepM0 rfl rfl (fun K hK => ?_)
              go_simp
              refine hK _ ?_
              clear hK K
              refine stepM0 rfl rfl (fun K hK => ?_)
              go_simp
              refine hK _ ?_
              clear hK K
              refine stepM0 rfl rfl (fun K hK => ?_)
              go_simp
              refine hK _ ?_
              clear hK K
              refine stepM0 rfl rfl (fun K hK => ?_)
              go_simp
              refine hK _ ?_
              clear hK K
              refine stepM2 rfl rfl ?_ (fun w1 hS => ?_) (fun K hK => ?_)
              rotate_left
              focus (rw [HSD.out] at hS; obtain ⟨s0, s1, s2⟩ := hS; go_simp; rfl)
              go_simp
              refine hK _ ?_
              clear hK K
              refine stepM0 rfl rfl (fun K hK => ?_)
              go_simp
              refine hK _ ?_
              clear hK K
              refine stepM0 rfl rfl (fun K hK => ?_)
              go_simp
              refine hK _ ?_
              clear hK K
              refine stepM0 rfl rfl (fun K hK => ?_)
              go_simp
              refine hK _ ?_
              clear hK K
              refine stepM0 rfl rfl (fun K hK => ?_)
              go_simp
              refine hK _ ?_
              clear hK K
              refine stepM2 rfl rfl ?_ (fun w1 hS => ?_) (fun K hK => ?_)
              rotate_left
              focus (rw [HSD.out] at hS; obtain ⟨s0, s1, s2⟩ := hS; go_simp; rfl)
              go_simp
              refine hK _ ?_
              clear hK K
              refine stepM1S rfl rfl (fun K hK => ?_)
              (go_wp2_with fail; refine Calls.mono (pload_any wq.heap.size bm v es x0 _ (HM3.out.below (show Below w3.heap.size w3 _ from Below.trans HB4.out (by repeat (first | (with_reducible exact Below.refl _ _) | (with_reducible refine Below.setCell ?_ ?_ _) | (with_reducible refine Below.alloc ?_ ?_ _) | (with_reducible refine Below.drewN ?_ _) | (with_reducible refine Below.drew ?_) | (with_reducible exact Nat.le_refl _) | (focus (simp only [World.size_alloc, World.size_setCell, World.size_drew, World.size_drewN]; omega)) | omega | exact Nat.le_refl _ | (focus (simp; done)) | (focus (simp; omega))))))) ?_; rintro e wr1 ⟨rfl, hb9⟩; have HW12 := Lib.hid (show Below w3.heap.size w3 wr1 from Below.trans (show Below w3.heap.size w3 _ from Below.trans HB4.out (by repeat (first | (with_reducible exact Below.refl _ _) | (with_reducible refine Below.setCell ?_ ?_ _) | (with_reducible refine Below.alloc ?_ ?_ _) | (with_reducible refine Below.drewN ?_ _) | (with_reducible refine Below.drew ?_) | (with_reducible exact Nat.le_refl _) | (focus (simp only [World.size_alloc, World.size_setCell, World.size_drew, World.size_drewN]; omega)) | omega | exact Nat.le_refl _ | (focus (simp; done)) | (focus (simp; omega))))) (hb9.mono (by first | omega | (simp; done) | (simp; omega)))); have hcs12 := HCX.out wr1 HW12.out j x0 HX0.out; have hct12 := HCX.out wr1 HW12.out k x HX.out; have hzz12 := HW12.out.size; clear hb9; go_wp2)
              refine ⟨by rw [HSD.out]; exact (⟨hcs12, hct12, by omega⟩), ?_⟩
              refine stepM1S rfl rfl (fun K hK => ?_)
              (go_wp2_with fail; refine Calls.mono (pload_any wq.heap.size bm v es x _ (HM3.out.below (show Below w3.heap.size w3 _ from Below.trans HW12.out (by repeat (first | (with_reducible exact Below.refl _ _) | (with_reducible refine Below.setCell ?_ ?_ _) | (with_reducible refine Below.alloc ?_ ?_ _) | (with_reducible refine Below.drewN ?_ _) | (with_reducible refine Below.drew ?_) | (with_reducible exact Nat.le_refl _) | (focus (simp only [World.size_alloc, World.size_setCell, World.size_drew, World.size_drewN]; omega)) | omega | exact Nat.le_refl _ | (focus (simp; done)) | (focus (simp; omega))))))) ?_; rintro e wr2 ⟨rfl, hb9⟩; have HW18 := Lib.hid (show Below w3.heap.size w3 wr2 from Below.trans (show Below w3.heap.size w3 _ from Below.trans HW12.out (by repeat (first | (with_reducible exact Below.refl _ _) | (with_reducible refine Below.setCell ?_ ?_ _) | (with_reducible refine Below.alloc ?_ ?_ _) | (with_reducible refine Below.drewN ?_ _) | (with_reducible refine Below.drew ?_) | (with_reducible exact Nat.le_refl _) | (focus (simp only [World.size_alloc, World.size_setCell, World.size_drew, World.size_drewN]; omega)) | omega | exact Nat.le_refl _ | (focus (simp; done)) | (focus (simp; omega))))) (hb9.mono (by first | omega | (simp; done) | (simp; omega)))); have hcs18 := HCX.out wr2 HW18.out j x0 HX0.out; have hct18 := HCX.out wr2 HW18.out k x HX.out; have hzz18 := HW18.out.size; clear hb9; go_wp2)
              refine ⟨by rw [HSD.out]; exact (⟨hcs18, hct18, by omega⟩), ?_⟩
              refine stepM0 rfl rfl (fun K hK => ?_)
              go_simp
              refine hK _ ?_
              clear hK K
              refine stepM0 rfl rfl (fun K hK => ?_)
              go_simp
              refine hK _ ?_
              clear hK K
              refine stepM0 rfl rfl (fun K hK => ?_)
              go_simp
              refine hK _ ?_
              clear hK K
              refine stepM0 rfl rfl (fun K hK => ?_)
              go_simp
              refine hK _ ?_
              clear hK K
              refine stepM0 rfl rfl (fun K hK => ?_)
              go_simp
              refine hK _ ?_
              clear hK K
              refine stepM0 rfl rfl (fun K hK => ?_)
              go_simp
              refine hK _ ?_
              clear hK K
              refine stepM0 rfl rfl (fun K hK => ?_)
              go_simp
              refine hK _ ?_
              clear hK K
              refine stepM2 rfl rfl ?_ (fun w1 hS => ?_) (fun K hK => ?_)
              rotate_left
              focus (rw [HSD.out] at hS; obtain ⟨s0, s1, s2⟩ := hS; go_simp; rfl)
              go_simp
              refine hK _ ?_
              clear hK K
              refine stepM0 rfl rfl (fun K hK => ?_)
              go_simp
              refine hK _ ?_
              clear hK K
              refine stepM0 rfl rfl (fun K hK => ?_)
              go_simp
              refine hK _ ?_
              clear hK K
              refine stepM0 rfl rfl (fun K hK => ?_)
              go_simp
              refine hK _ ?_
              clear hK K
              refine stepM0 rfl rfl (fun K hK => ?_)
              go_simp
              refine hK _ ?_
              clear hK K
              refine stepM2 rfl rfl ?_ (fun w1 hS => ?_) (fun K hK => ?_)
              rotate_left
              focus (rw [HSD.out] at hS; obtain ⟨s0, s1, s2⟩ := hS; go_simp; rfl)
              go_simp
              refine hK _ ?_
              clear hK K
              refine stepM1S rfl rfl (fun K hK => ?_)
              (go_wp2_with fail; refine Calls.mono (pload_any wq.heap.size bm v es x0 _ (HM3.out.below (show Below w3.heap.size w3 _ from Below.trans HW18.out (by repeat (first | (with_reducible exact Below.refl _ _) | (with_reducible refine Below.setCell ?_ ?_ _) | (with_reducible refine Below.alloc ?_ ?_ _) | (with_reducible refine Below.drewN ?_ _) | (with_reducible refine Below.drew ?_) | (with_reducible exact Nat.le_refl _) | (focus (simp only [World.size_alloc, World.size_setCell, World.size_drew, World.size_drewN]; omega)) | omega | exact Nat.le_refl _ | (focus (simp; done)) | (focus (simp; omega))))))) ?_; rintro e wr3 ⟨rfl, hb9⟩; have HW27 := Lib.hid (show Below w3.heap.size w3 wr3 from Below.trans (show Below w3.heap.size w3 _ from Below.trans HW18.out (by repeat (first | (with_reducible exact Below.refl _ _) | (with_reducible refine Below.setCell ?_ ?_ _) | (with_reducible refine Below.alloc ?_ ?_ _) | (with_reducible refine Below.drewN ?_ _) | (with_reducible refine Below.drew ?_) | (with_reducible exact Nat.le_refl _) | (focus (simp only [World.size_alloc, World.size_setCell, World.size_drew, World.size_drewN]; omega)) | omega | exact Nat.le_refl _ | (focus (simp; done)) | (focus (simp; omega))))) (hb9.mono (by first | omega | (simp; done) | (simp; omega)))); have hcs27 := HCX.out wr3 HW27.out j x0 HX0.out; have hct27 := HCX.out wr3 HW27.out k x HX.out; have hzz27 := HW27.out.size; clear hb9; go_wp2)
              refine ⟨by rw [HSD.out]; exact (⟨hcs27, hct27, by omega⟩), ?_⟩
              refine stepM1S rfl rfl (fun K hK => ?_)
              (go_wp2_with fail; refine Calls.mono (pload_any wq.heap.size bm v es x _ (HM3.out.below (show Below w3.heap.size w3 _ from Below.trans HW27.out (by repeat (first | (with_reducible exact Below.refl _ _) | (with_reducible refine Below.setCell ?_ ?_ _) | (with_reducible refine Below.alloc ?_ ?_ _) | (with_reducible refine Below.drewN ?_ _) | (with_reducible refine Below.drew ?_) | (with_reducible exact Nat.le_refl _) | (focus (simp only [World.size_alloc, World.size_setCell, World.size_drew, World.size_drewN]; omega)) | omega | exact Nat.le_refl _ | (focus (simp; done)) | (focus (simp; omega))))))) ?_; rintro e wr4 ⟨rfl, hb9⟩; have HW33 := Lib.hid (show Below w3.heap.size w3 wr4 from Below.trans (show Below w3.heap.size w3 _ from Below.trans HW27.out (by repeat (first | (with_reducible exact Below.refl _ _) | (with_reducible refine Below.setCell ?_ ?_ _) | (with_reducible refine Below.alloc ?_ ?_ _) | (with_reducible refine Below.drewN ?_ _) | (with_reducible refine Below.drew ?_) | (with_reducible exact Nat.le_refl _) | (focus (simp only [World.size_alloc, World.size_setCell, World.size_drew, World.size_drewN]; omega)) | omega | exact Nat.le_refl _ | (focus (simp; done)) | (focus (simp; omega))))) (hb9.mono (by first | omega | (simp; done) | (simp; omega)))); have hcs33 := HCX.out wr4 HW33.out j x0 HX0.out; have hct33 := HCX.out wr4 HW33.out k x HX.out; have hzz33 := HW33.out.size; clear hb9; go_wp2)
              refine ⟨by rw [HSD.out]; exact (⟨hcs33, hct33, by omega⟩), ?_⟩
              refine stepM0 rfl rfl (fun K hK => ?_)
              go_simp
              refine hK _ ?_
              clear hK K
              refine stepM0 rfl rfl (fun K hK => ?_)
              go_simp
              refine hK _ ?_
              clear hK K
              refine stepMy0 rfl rfl (fun K hK => ?_)
              go_simp
              refine hK _ ?_
              clear hK K
              refine stepMy0 rfl rfl (fun K hK => ?_)
              go_simp
              refine hK _ ?_
              clear hK K
              refine stepMy0 rfl rfl (fun K hK => ?_)
              go_simp
              refine hK _ ?_
              clear hK K
              refine stepMy0 rfl rfl (fun K hK => ?_)
              go_simp
              refine hK _ ?_
              clear hK K
              refine stepMy2 rfl rfl (fun K hK => ?_)
              go_simp
              refine hK _ ?_
              clear hK K
              refine stepMy0 rfl rfl (fun K hK => ?_)
              go_simp
              refine hK _ ?_
              clear hK K
              refine stepMy0 rfl rfl (fun K hK => ?_)
              go_simp
              refine hK _ ?_
              clear hK K
              refine stepMy0 rfl rfl (fun K hK => ?_)
              go_simp
              refine hK _ ?_
              clear hK K
              refine stepMy2 rfl rfl (fun K hK => ?_)
              go_simp
              refine hK _ ?_
              clear hK K
              refine stepMy0 rfl rfl (fun K hK => ?_)
              go_simp
              refine hK _ ?_
              clear hK K
              refine stepM0 rfl rfl (fun K hK => ?_)
              go_simp
              refine hK _ ?_
              clear hK K
              refine stepM0 rfl rfl (fun K hK => ?_)
              go_simp
              refine hK _ ?_
              clear hK K
              refine stepM0 rfl rfl (fun K hK => ?_)
              go_simp
              refine hK _ ?_
              clear hK K
              refine stepM0 rfl rfl (fun K hK => ?_)
              go_simp
              refine hK _ ?_
              clear hK K
              try refine stepMnil0 ?_
              clear HSD SS
              go_wp2_with fail
              go_roundw
              case rel => exact ⟨k + 1, by omega, by go_num, HW33.out⟩
              case measure => simp [intOf]; omega
    · have hkn : decide ((k : Int) < (ns.length : Int)) = false := by simp; omega
      have hcl : cs.length = n := HL.out
      have hgood : Good (1 + (cs.length : Int)) es := by
        rw [HES.out]
        exact good_all cs 1 [] (fun i x hx => by simp at hx) (by omega) (by omega)
      have HGOOD := Lib.hid hgood
      have hvol : ∀ (i : Nat) (x : Ent), es[i]? = some x → x.vol = (i : Int) + 1 := fun i x hx => (hgood i x hx).1
      have HVOL := Lib.hid hvol
      have HML := Lib.hid (show ∀ m ∈ (leaveI es node ns).getD [], MoveOk es m from fun m hm => by
        cases hle : leaveI es node ns with
        | none => rw [hle] at hm; cases hm
        | some out => rw [hle] at hm; exact leaveI_ok hvol hle m hm)
      clear hgood hvol
      obtain ⟨L, hLd⟩ : ∃ L, L = (leaveI es node ns).getD [] := ⟨_, rfl⟩
      rw [← hLd] at HML
      have HLD := Lib.hid hLd
      clear hLd
      have HM4 := Lib.hid (HM3.out.below HBR.out)
      have HB4 := Lib.hid (HB3.out.trans (HBR.out.mono hz3))
      have hz4 := HB4.out.size
      have hs1 := HBR.out.size
      obtain ⟨wo, rfl⟩ : ∃ W : World, W = wr := ⟨_, rfl⟩
      go_wp2_with fail
      refine (bytes_any wq.heap.size bm v es (1 + (cs.length : Int)) _ HM4.out HGOOD.out (by omega)).mono ?_
      rintro e wa ⟨vb, rfl, hob, hba⟩
      obtain ⟨ab, cb, rfl⟩ := ownsRow_len hob
      have HOB := Lib.hid hob
      have HMA := Lib.hid (HM4.out.below hba)
      have HBA := Lib.hid (HB4.out.trans (hba.mono hz4))
      have hza := HBA.out.size
      have hs2 := hba.size
      clear hob hba
      go_wp2_with fail
      refine (pleave_any wq.heap.size bm v _ es ns node _ HMA.out HNO.out (HR.out.below HBA.out) HCAP.out HOK.out).mono ?_
      rintro e wb hL
      obtain ⟨k5, am, cm, hk5, rfl, hol, hbb⟩ := hL.uni
      rw [← HLD.out] at hol ⊢
      have HOL := Lib.hid hol
      have HMB := Lib.hid (HMA.out.below hbb)
      have HOBB := Lib.hid (ownsRow_below HOB.out hbb)
      have HBB := Lib.hid (HBA.out.trans (hbb.mono hza))
      have hzb := HBB.out.size
      have hs3 := hbb.size
      have HK5 := Lib.hid hk5
      have hlenL : L.length ≤ 60 := by have := leave_few es node ns; rw [← HLD.out] at this; omega
      clear hol hbb hk5 hL
      go_wp2_with fail
      refine (peven_uni wq.heap.size bm v _ es ns _ HMB.out HNO.out (HR.out.below HBB.out) HCAP.out HOK.out HVOL.out).mono ?_
      rintro e we ⟨ev, k6, hev, hk6, rfl, hbc⟩
      have HMC := Lib.hid (HMB.out.below hbc)
      have HOBC := Lib.hid (ownsRow_below HOBB.out hbc)
      have HOLC := Lib.hid (ownsRow_below HOL.out hbc)
      have HBC := Lib.hid (HBB.out.trans (hbc.mono hzb))
      have hzc := HBC.out.size
      have hs4 := hbc.size
      clear hbc
      rcases ev with _ | ⟨ev0, ev1, ev2, ev3⟩
      · rw [show mvVal none = .agg #[.int .i64 0, .int .i64 0, .int .i64 0, .int .i64 0] from rfl, show (none : Option Mv).isSome = false from rfl]
        clear hev hk6
        obtain ⟨L', hL'⟩ : ∃ L', L' = L := ⟨_, rfl⟩
        obtain ⟨nl, hnl⟩ : ∃ nl, nl = L.length := ⟨_, rfl⟩
        obtain ⟨wL, hwL⟩ : ∃ wL, wL = we.alloc (.cells #[.int .i64 0, .int .i64 0, .int .i64 0, .int .i64 0] 94) := ⟨_, rfl⟩
        have HNL := Lib.hid (show L'.length = nl by rw [hL', hnl])
        have hbl : Below we.heap.size we wL := by rw [hwL]; exact (Below.refl _ _).alloc (Nat.le_refl _) _
        have HRL := Lib.hid (show Reads wL 4 (.slice am nl cm) nl (L'.flatMap Mv.row) by rw [hL', hnl]; exact reads_of_owns (ownsRow_below HOLC.out hbl))
        have HOKL := Lib.hid (show ∀ m ∈ L', MoveOk es m by rw [hL']; exact HML.out)
        have HMX := Lib.hid (HMC.out.below hbl)
        have HOBX := Lib.hid (ownsRow_below HOBC.out hbl)
        have HBX := Lib.hid (HBC.out.trans (hbl.mono hzc))
        have hzX := HBX.out.size
        have hnl60 : nl ≤ 61 := by omega
        go_upto_region 23 with fail
        rw [← hnl, ← hwL]
        clear hnl hwL hL' hbl
        go_wp2_with fail
        go_loopw [20] (fun i wr => ∃ j : Nat, j ≤ nl ∧ i = .int .i64 j ∧ Below wL.heap.size wL wr) (fun i _ => nl - (intOf i).toNat)
        case atStart => exact ⟨0, Nat.zero_le _, rfl, Below.refl _ _⟩
        case round =>
          obtain ⟨j, hj, rfl, hbr⟩ := hrel
          have HBR3 := Lib.hid hbr
          have hzr3 := hbr.size
          clear hbr
          by_cases hlt3 : j < nl
          · obtain ⟨x, hx⟩ : ∃ x, L'[j]? = some x := ⟨_, List.getElem?_eq_getElem (by rw [HNL.out]; exact hlt3)⟩
            obtain ⟨i, y, hy, hvx, hey, hno', hs0, hs2'⟩ := HOKL.out x (List.mem_of_getElem? hx)
            obtain ⟨g, o, c, e, hgl, q1, q2, q3, q4⟩ := reads_of4 (HRL.out.below HBR3.out) hx (by omega)
            obtain ⟨rfl, -, rfl⟩ := sl_inj e
            obtain ⟨xv, xe, xa, xn⟩ := x
            obtain ⟨yv, ye, n0, n1, n2, ys⟩ := y
            simp only at q1 q2 q3 q4 hvx hey hs0 hs2'
            subst hvx hey
            have HY := Lib.hid hy
            simp only [hasB, Bool.or_eq_false_iff] at hno'
            obtain ⟨⟨hn0, hn1⟩, hn2⟩ := hno'
            have hsa : decide (xa < 0) = false := by simp; omega
            have hsb : decide (2 < xa) = false := by simp; omega
            have hj0 : (0 : Int) ≤ (j : Int) := by omega
            have hj1 : (j : Int) < (nl : Int) := by omega
            clear hx hy e hs0 hs2'
            go_wp2_with fail
            refine (find_yes wq.heap.size bm v es i _ _ (HMX.out.below HBR3.out) HY.out).mono ?_
            rintro e w7 ⟨rfl, hb7⟩
            have HB7 := Lib.hid (HBR3.out.trans (hb7.mono hzr3))
            have hz7 := HB7.out.size
            have hg7 : g < w7.heap.size := by have := hb7.size; omega
            have r2 := (hb7.cell (p := ⟨g, o + j * 4 + 1, none⟩) hgl).trans q2
            have r3 := (hb7.cell (p := ⟨g, o + j * 4 + 2, none⟩) hgl).trans q3
            have r4 := (hb7.cell (p := ⟨g, o + j * 4 + 3, none⟩) hgl).trans q4
            clear hb7 q1 q2 q3 q4
            go_wp2_with fail
            as_aux_lemma =>
            obtain ⟨SS, HSD⟩ : ∃ SS : World → Prop, Hid (SS = fun w' => w'.cell? ⟨w7.heap.size, 1, none⟩ = some (.int .i64 ye) ∧ w'.cell? ⟨w7.heap.size, 2, none⟩ = some (.int .i64 n0) ∧ w'.cell? ⟨w7.heap.size, 3, none⟩ = some (.int .i64 n1) ∧ w'.cell? ⟨w7.heap.size, 4, none⟩ = some (.int .i64 n2) ∧ w'.cell? ⟨g, o + j * 4 + 1, none⟩ = some (.int .i64 ye) ∧ w'.cell? ⟨g, o + j * 4 + 2, none⟩ = some (.int .i64 xa) ∧ w'.cell? ⟨g, o + j * 4 + 3, none⟩ = some (.int .i64 xn)) := ⟨_, Lib.hid rfl⟩
            refine wp_region_mask0 SS [5, 10, 16, 21, 27, 32, 38, 43, 51, 59] [0, 1, 3, 7, 15, 31, 15, 15, 207, 463, 975, 2047, 4095, 8191, 16383, 32767, 65535, 16383, 16383, 409599, 933887, 1982463, 4194303, 8388607, 16777215, 33554431, 67108863, 134217727, 33554431, 33554431, 838860799, 1912602623, 4060086271, 8589934591, 17179869183, 34359738367, 68719476735, 137438953471, 274877906943, 68719476735, 68719476735, 1717986918399, 3917010173951, 8315056685055, 17592186044415, 35184372088831, 70368744177663, 140737488355327, 140737488355327, 562949953421311, 1125899906842623, 2251799813685247, 4503599627370495, 9007199254740991, 18014398509481983, 36028797018963967, 36028797018963967, 144115188075855871, 288230376151711743, 576460752303423487, 1152921504606846975, 2305843009213693951] (.op 0 0 (.op 1 1 (.op 2 0 (.op 3 0 (.op 4 0 (.op 5 2 (.op 6 0 (.op 7 0 (.op 8 0 (.op 9 0 (.op 10 2 (.op 11 0 (.op 12 0 (.op 13 0 (.op 14 0 (.op 15 0 (.op 16 2 (.op 17 0 (.op 18 0 (.op 19 0 (.op 20 0 (.op 21 2 (.op 22 0 (.op 23 0 (.op 24 0 (.op 25 0 (.op 26 0 (.op 27 2 (.op 28 0 (.op 29 0 (.op 30 0 (.op 31 0 (.op 32 2 (.op 33 0 (.op 34 0 (.op 35 0 (.op 36 0 (.op 37 0 (.op 38 2 (.op 39 0 (.op 40 0 (.op 41 0 (.op 42 0 (.op 43 2 (.op 44 0 (.op 45 0 (.op 46 0 (.op 47 0 (.op 48 0 (.op 49 0 (.op 50 0 (.op 51 2 (.op 52 0 (.op 53 0 (.op 54 0 (.op 55 0 (.op 56 0 (.op 57 0 (.op 58 0 (.op 59 2 (.op 60 0 (.op 61 0 .nil)))))))))))))))))))))))))))))))))))))))))))))))))))))))))))))) (by kernel_rfl) (by kernel_rfl) rfl (by kernel_rfl) (by kernel_rfl) ?_ ?_
            focus (rw [HSD.out]; refine ⟨?_, ?_, ?_, ?_, ?_, ?_, ?_⟩ <;> go_simp)
            refine stepM0 rfl rfl (fun K hK => ?_)
            go_simp
            refine hK _ ?_
            clear hK K
            refine stepM1S rfl rfl (fun K hK => ?_)
            (go_wp2_with fail; refine Calls.mono (code_any 0 (by omega) (by omega) _) ?_; rintro e w8 ⟨rfl, rfl⟩; go_wp2)
            refine ⟨by rw [HSD.out]; exact (by refine ⟨?_, ?_, ?_, ?_, ?_, ?_, ?_⟩ <;> go_simp), ?_⟩
            refine stepM0 rfl rfl (fun K hK => ?_)
            go_simp
            refine hK _ ?_
            clear hK K
            refine stepM0 rfl rfl (fun K hK => ?_)
            go_simp
            refine hK _ ?_
            clear hK K
            refine stepM0 rfl rfl (fun K hK => ?_)
            go_simp
            refine hK _ ?_
            clear hK K
            refine stepM2 rfl rfl ?_ (fun w1 hS => ?_) (fun K hK => ?_)
            rotate_left
            focus (rw [HSD.out] at hS; obtain ⟨s0, s1, s2, s3, s4, s5, s6⟩ := hS; go_simp; rfl)
            go_simp
            refine hK _ ?_
            clear hK K
            refine stepM0 rfl rfl (fun K hK => ?_)
            go_simp
            refine hK _ ?_
            clear hK K
            refine stepM0 rfl rfl (fun K hK => ?_)
            go_simp
            refine hK _ ?_
            clear hK K
            refine stepM0 rfl rfl (fun K hK => ?_)
            go_simp
            refine hK _ ?_
            clear hK K
            refine stepM0 rfl rfl (fun K hK => ?_)
            go_simp
            refine hK _ ?_
            clear hK K
            refine stepM2 rfl rfl ?_ (fun w1 hS => ?_) (fun K hK => ?_)
            rotate_left
            focus (rw [HSD.out] at hS; obtain ⟨s0, s1, s2, s3, s4, s5, s6⟩ := hS; go_simp; rfl)
            go_simp
            refine hK _ ?_
            clear hK K
            refine stepM0 rfl rfl (fun K hK => ?_)
            go_simp
            refine hK _ ?_
            clear hK K
            refine stepM0 rfl rfl (fun K hK => ?_)
            go_simp
            refine hK _ ?_
            clear hK K
            refine stepM0 rfl rfl (fun K hK => ?_)
            go_simp
            refine hK _ ?_
            clear hK K
            refine stepM0 rfl rfl (fun K hK => ?_)
            go_simp
            refine hK _ ?_
            clear hK K
            refine stepM0 rfl rfl (fun K hK => ?_)
            go_simp
            refine hK _ ?_
            clear hK K
            refine stepM2 rfl rfl ?_ (fun w1 hS => ?_) (fun K hK => ?_)
            rotate_left
            focus (rw [HSD.out] at hS; obtain ⟨s0, s1, s2, s3, s4, s5, s6⟩ := hS; go_simp; rfl)
            go_simp
            refine hK _ ?_
            clear hK K
            refine stepM0 rfl rfl (fun K hK => ?_)
            go_simp
            refine hK _ ?_
            clear hK K
            refine stepM0 rfl rfl (fun K hK => ?_)
            go_simp
            refine hK _ ?_
            clear hK K
            refine stepM0 rfl rfl (fun K hK => ?_)
            go_simp
            refine hK _ ?_
            clear hK K
            refine stepM0 rfl rfl (fun K hK => ?_)
            go_simp
            refine hK _ ?_
            clear hK K
            refine stepM2 rfl rfl ?_ (fun w1 hS => ?_) (fun K hK => ?_)
            rotate_left
            focus (rw [HSD.out] at hS; obtain ⟨s0, s1, s2, s3, s4, s5, s6⟩ := hS; go_simp; rfl)
            go_simp
            refine hK _ ?_
            clear hK K
            refine stepM0 rfl rfl (fun K hK => ?_)
            go_simp
            refine hK _ ?_
            clear hK K
            refine stepM0 rfl rfl (fun K hK => ?_)
            go_simp
            refine hK _ ?_
            clear hK K
            refine stepM0 rfl rfl (fun K hK => ?_)
            go_simp
            refine hK _ ?_
            clear hK K
            refine stepM0 rfl rfl (fun K hK => ?_)
            go_simp
            refine hK _ ?_
            clear hK K
            refine stepM0 rfl rfl (fun K hK => ?_)
            go_simp
            refine hK _ ?_
            clear hK K
            refine stepM2 rfl rfl ?_ (fun w1 hS => ?_) (fun K hK => ?_)
            rotate_left
            focus (rw [HSD.out] at hS; obtain ⟨s0, s1, s2, s3, s4, s5, s6⟩ := hS; go_simp; rfl)
            go_simp
            refine hK _ ?_
            clear hK K
            refine stepM0 rfl rfl (fun K hK => ?_)
            go_simp
            refine hK _ ?_
            clear hK K
            refine stepM0 rfl rfl (fun K hK => ?_)
            go_simp
            refine hK _ ?_
            clear hK K
            refine stepM0 rfl rfl (fun K hK => ?_)
            go_simp
            refine hK _ ?_
            clear hK K
            refine stepM0 rfl rfl (fun K hK => ?_)
            go_simp
            refine hK _ ?_
            clear hK K
            refine stepM2 rfl rfl ?_ (fun w1 hS => ?_) (fun K hK => ?_)
            rotate_left
            focus (rw [HSD.out] at hS; obtain ⟨s0, s1, s2, s3, s4, s5, s6⟩ := hS; go_simp; rfl)
            go_simp
            refine hK _ ?_
            clear hK K
            refine stepM0 rfl rfl (fun K hK => ?_)
            go_simp
            refine hK _ ?_
            clear hK K
            refine stepM0 rfl rfl (fun K hK => ?_)
            go_simp
            refine hK _ ?_
            clear hK K
            refine stepM0 rfl rfl (fun K hK => ?_)
            go_simp
            refine hK _ ?_
            clear hK K
            refine stepM0 rfl rfl (fun K hK => ?_)
            go_simp
            refine hK _ ?_
            clear hK K
            refine stepM0 rfl rfl (fun K hK => ?_)
            go_simp
            refine hK _ ?_
            clear hK K
            refine stepM2 rfl rfl ?_ (fun w1 hS => ?_) (fun K hK => ?_)
            rotate_left
            focus (rw [HSD.out] at hS; obtain ⟨s0, s1, s2, s3, s4, s5, s6⟩ := hS; go_simp; rfl)
            go_simp
            refine hK _ ?_
            clear hK K
            refine stepM0 rfl rfl (fun K hK => ?_)
            go_simp
            refine hK _ ?_
            clear hK K
            refine stepM0 rfl rfl (fun K hK => ?_)
            go_simp
            refine hK _ ?_
            clear hK K
            refine stepM0 rfl rfl (fun K hK => ?_)
            go_simp
            refine hK _ ?_
            clear hK K
            refine stepM0 rfl rfl (fun K hK => ?_)
            go_simp
            refine hK _ ?_
            clear hK K
            refine stepM2 rfl rfl ?_ (fun w1 hS => ?_) (fun K hK => ?_)
            rotate_left
            focus (rw [HSD.out] at hS; obtain ⟨s0, s1, s2, s3, s4, s5, s6⟩ := hS; go_simp; rfl)
            go_simp
            refine hK _ ?_
            clear hK K
            refine stepM0 rfl rfl (fun K hK => ?_)
            go_simp
            refine hK _ ?_
            clear hK K
            refine stepM0 rfl rfl (fun K hK => ?_)
            go_simp
            refine hK _ ?_
            clear hK K
            refine stepM0 rfl rfl (fun K hK => ?_)
            go_simp
            refine hK _ ?_
            clear hK K
            refine stepM0 rfl rfl (fun K hK => ?_)
            go_simp
            refine hK _ ?_
            clear hK K
            refine stepM0 rfl rfl (fun K hK => ?_)
            go_simp
            refine hK _ ?_
            clear hK K
            refine stepM0 rfl rfl (fun K hK => ?_)
            go_simp
            refine hK _ ?_
            clear hK K
            refine stepM0 rfl rfl (fun K hK => ?_)
            go_simp
            refine hK _ ?_
            clear hK K
            refine stepM2 rfl rfl ?_ (fun w1 hS => ?_) (fun K hK => ?_)
            rotate_left
            focus (rw [HSD.out] at hS; obtain ⟨s0, s1, s2, s3, s4, s5, s6⟩ := hS; go_simp; rfl)
            go_simp
            refine hK _ ?_
            clear hK K
            refine stepM0 rfl rfl (fun K hK => ?_)
            go_simp
            refine hK _ ?_
            clear hK K
            refine stepM0 rfl rfl (fun K hK => ?_)
            go_simp
            refine hK _ ?_
            clear hK K
            refine stepM0 rfl rfl (fun K hK => ?_)
            go_simp
            refine hK _ ?_
            clear hK K
            refine stepM0 rfl rfl (fun K hK => ?_)
            go_simp
            refine hK _ ?_
            clear hK K
            refine stepM0 rfl rfl (fun K hK => ?_)
            go_simp
            refine hK _ ?_
            clear hK K
            refine stepM0 rfl rfl (fun K hK => ?_)
            go_simp
            refine hK _ ?_
            clear hK K
            refine stepM0 rfl rfl (fun K hK => ?_)
            go_simp
            refine hK _ ?_
            clear hK K
            refine stepM2 rfl rfl ?_ (fun w1 hS => ?_) (fun K hK => ?_)
            rotate_left
            focus (rw [HSD.out] at hS; obtain ⟨s0, s1, s2, s3, s4, s5, s6⟩ := hS; go_simp; rfl)
            go_simp
            refine hK _ ?_
            clear hK K
            refine stepM0 rfl rfl (fun K hK => ?_)
            go_simp
            refine hK _ ?_
            clear hK K
            refine stepM0 rfl rfl (fun K hK => ?_)
            go_simp
            refine hK _ ?_
            clear hK K
            try refine stepMnil0 ?_
            clear HSD SS
            go_wp2_with fail
            go_roundw
            case rel => exact ⟨j + 1, by omega, by go_num, Below.trans HB7.out (by repeat (first | (with_reducible exact Below.refl _ _) | (with_reducible refine Below.setCell ?_ ?_ _) | (with_reducible refine Below.alloc ?_ ?_ _) | (with_reducible refine Below.drewN ?_ _) | (with_reducible refine Below.drew ?_) | (with_reducible exact Nat.le_refl _) | (focus (simp only [World.size_alloc, World.size_setCell, World.size_drew, World.size_drewN]; omega)) | omega | exact Nat.le_refl _ | (focus (simp; done)) | (focus (simp; omega))))⟩
            case measure => simp [intOf]; omega
          · have hjn : decide ((j : Int) < (nl : Int)) = false := by simp; omega
            have hcv := conv_row (ownsRow_below HOBX.out HBR3.out)
            have HBW := Lib.hid (HBX.out.trans (HBR3.out.mono hzX))
            have hzw := HBW.out.size
            have HMW := Lib.hid (HMX.out.below HBR3.out)
            go_wp2_with fail
            rcases HK5.out with rfl | rfl
            · as_aux_lemma =>
              obtain ⟨SS, HSD⟩ : ∃ SS : World → Prop, Hid (SS = fun w' => (convert 44 9 (.slice ab (mapBytes es).length cb)).run Try.prog w' = .ok (.string ⟨(mapBytes es).toArray⟩) w') := ⟨_, Lib.hid rfl⟩
              refine wp_region_mask0 SS [1] [0, 1, 0, 4, 12, 31, 63, 127, 255, 511, 1023, 2047, 4095, 8191, 16383, 32767, 65535] (.op 0 0 (.op 1 2 (.op 2 0 (.op 3 1 (.op 4 1 (.op 5 0 (.op 6 0 (.op 7 0 (.op 8 1 (.op 9 0 (.op 10 0 (.op 11 0 (.op 12 1 (.op 13 0 (.op 14 0 (.op 15 0 (.op 16 0 .nil))))))))))))))))) (by kernel_rfl) (by kernel_rfl) rfl (by kernel_rfl) (by kernel_rfl) ?_ ?_
              focus (rw [HSD.out]; exact conv_row (ownsRow_below HOBX.out HBR3.out.drew))
              refine stepM0 rfl rfl (fun K hK => ?_)
              go_simp
              refine hK _ ?_
              clear hK K
              refine stepM2 rfl rfl ?_ (fun w1 hS => ?_) (fun K hK => ?_)
              rotate_left
              focus (rw [HSD.out] at hS; skip; go_simp; rfl)
              go_simp
              refine hK _ ?_
              clear hK K
              refine stepM0 rfl rfl (fun K hK => ?_)
              go_simp
              refine hK _ ?_
              clear hK K
              refine stepM1S rfl rfl (fun K hK => ?_)
              (go_wp2_with fail; refine Calls.mono (bytes_any wq.heap.size bm v es (1 + (cs.length : Int)) _ (HMW.out.below (by repeat (first | (with_reducible exact Below.refl _ _) | (with_reducible refine Below.setCell ?_ ?_ _) | (with_reducible refine Below.alloc ?_ ?_ _) | (with_reducible refine Below.drewN ?_ _) | (with_reducible refine Below.drew ?_) | (with_reducible exact Nat.le_refl _) | (focus (simp only [World.size_alloc, World.size_setCell, World.size_drew, World.size_drewN]; omega)) | omega | exact Nat.le_refl _ | (focus (simp; done)) | (focus (simp; omega))))) HGOOD.out (by omega)) ?_; rintro e w8 ⟨vb2, rfl, hob2, hb8⟩; have hcv2 := conv_row hob2; have hcv3 := conv_row (ownsRow_below HOBX.out (HBR3.out.trans (Below.trans (by repeat (first | (with_reducible exact Below.refl _ _) | (with_reducible refine Below.setCell ?_ ?_ _) | (with_reducible refine Below.alloc ?_ ?_ _) | (with_reducible refine Below.drewN ?_ _) | (with_reducible refine Below.drew ?_) | (with_reducible exact Nat.le_refl _) | (focus (simp only [World.size_alloc, World.size_setCell, World.size_drew, World.size_drewN]; omega)) | omega | exact Nat.le_refl _ | (focus (simp; done)) | (focus (simp; omega)))) (hb8.mono (by first | omega | (simp; done) | (simp; omega)))))); have HB8 := Lib.hid (HBW.out.trans (Below.trans (by repeat (first | (with_reducible exact Below.refl _ _) | (with_reducible refine Below.setCell ?_ ?_ _) | (with_reducible refine Below.alloc ?_ ?_ _) | (with_reducible refine Below.drewN ?_ _) | (with_reducible refine Below.drew ?_) | (with_reducible exact Nat.le_refl _) | (focus (simp only [World.size_alloc, World.size_setCell, World.size_drew, World.size_drewN]; omega)) | omega | exact Nat.le_refl _ | (focus (simp; done)) | (focus (simp; omega)))) (hb8.mono (by first | omega | (simp; done) | (simp; omega))))); clear hob2 hb8; go_wp2)
              refine ⟨by rw [HSD.out]; exact (hcv3), ?_⟩
              refine stepM1S rfl rfl (fun K hK => ?_)
              go_wp2
              refine ⟨by rw [HSD.out]; exact (hcv3), ?_⟩
              refine stepM0 rfl rfl (fun K hK => ?_)
              go_simp
              refine hK _ ?_
              clear hK K
              refine stepM0 rfl rfl (fun K hK => ?_)
              go_simp
              refine hK _ ?_
              clear hK K
              refine stepM0 rfl rfl (fun K hK => ?_)
              go_simp
              refine hK _ ?_
              clear hK K
              refine stepM1 rfl rfl (by kernel_rfl) (fun K hK => ?_)
              (go_wp2_with fail; refine Calls.mono (code_any 0 (by omega) (by omega) _) ?_; rintro e w9 ⟨rfl, rfl⟩; go_wp2)
              refine stepM0 rfl rfl (fun K hK => ?_)
              go_simp
              refine hK _ ?_
              clear hK K
              refine stepM0 rfl rfl (fun K hK => ?_)
              go_simp
              refine hK _ ?_
              clear hK K
              refine stepMy0 rfl rfl (fun K hK => ?_)
              go_simp
              refine hK _ ?_
              clear hK K
              refine stepMy1 rfl rfl (fun K hK => ?_)
              go_simp
              refine hK _ ?_
              clear hK K
              refine stepMy0 rfl rfl (fun K hK => ?_)
              go_simp
              refine hK _ ?_
              clear hK K
              refine stepM0 rfl rfl (fun K hK => ?_)
              go_simp
              refine hK _ ?_
              clear hK K
              refine stepM0 rfl rfl (fun K hK => ?_)
              go_simp
              refine hK _ ?_
              clear hK K
              refine stepM0 rfl rfl (fun K hK => ?_)
              go_simp
              refine hK _ ?_
              clear hK K
              try refine stepMnil0 ?_
              clear HSD SS
              go_wp2_with fail
              go_ret
              exact ⟨rfl, HB8.out⟩
            · as_aux_lemma =>
              obtain ⟨SS, HSD⟩ : ∃ SS : World → Prop, Hid (SS = fun w' => (convert 44 9 (.slice ab (mapBytes es).length cb)).run Try.prog w' = .ok (.string ⟨(mapBytes es).toArray⟩) w') := ⟨_, Lib.hid rfl⟩
              refine wp_region_mask0 SS [1] [0, 1, 0, 4, 12, 31, 63, 127, 255, 511, 1023, 2047, 4095, 8191, 16383, 32767, 65535] (.op 0 0 (.op 1 2 (.op 2 0 (.op 3 1 (.op 4 1 (.op 5 0 (.op 6 0 (.op 7 0 (.op 8 1 (.op 9 0 (.op 10 0 (.op 11 0 (.op 12 1 (.op 13 0 (.op 14 0 (.op 15 0 (.op 16 0 .nil))))))))))))))))) (by kernel_rfl) (by kernel_rfl) rfl (by kernel_rfl) (by kernel_rfl) ?_ ?_
              focus (rw [HSD.out]; exact conv_row (ownsRow_below HOBX.out HBR3.out.drew))
              refine stepM0 rfl rfl (fun K hK => ?_)
              go_simp
              refine hK _ ?_
              clear hK K
              refine stepM2 rfl rfl ?_ (fun w1 hS => ?_) (fun K hK => ?_)
              rotate_left
              focus (rw [HSD.out] at hS; skip; go_simp; rfl)
              go_simp
              refine hK _ ?_
              clear hK K
              refine stepM0 rfl rfl (fun K hK => ?_)
              go_simp
              refine hK _ ?_
              clear hK K
              refine stepM1S rfl rfl (fun K hK => ?_)
              (go_wp2_with fail; refine Calls.mono (bytes_any wq.heap.size bm v es (1 + (cs.length : Int)) _ (HMW.out.below (by repeat (first | (with_reducible exact Below.refl _ _) | (with_reducible refine Below.setCell ?_ ?_ _) | (with_reducible refine Below.alloc ?_ ?_ _) | (with_reducible refine Below.drewN ?_ _) | (with_reducible refine Below.drew ?_) | (with_reducible exact Nat.le_refl _) | (focus (simp only [World.size_alloc, World.size_setCell, World.size_drew, World.size_drewN]; omega)) | omega | exact Nat.le_refl _ | (focus (simp; done)) | (focus (simp; omega))))) HGOOD.out (by omega)) ?_; rintro e w8 ⟨vb2, rfl, hob2, hb8⟩; have hcv2 := conv_row hob2; have hcv3 := conv_row (ownsRow_below HOBX.out (HBR3.out.trans (Below.trans (by repeat (first | (with_reducible exact Below.refl _ _) | (with_reducible refine Below.setCell ?_ ?_ _) | (with_reducible refine Below.alloc ?_ ?_ _) | (with_reducible refine Below.drewN ?_ _) | (with_reducible refine Below.drew ?_) | (with_reducible exact Nat.le_refl _) | (focus (simp only [World.size_alloc, World.size_setCell, World.size_drew, World.size_drewN]; omega)) | omega | exact Nat.le_refl _ | (focus (simp; done)) | (focus (simp; omega)))) (hb8.mono (by first | omega | (simp; done) | (simp; omega)))))); have HB8 := Lib.hid (HBW.out.trans (Below.trans (by repeat (first | (with_reducible exact Below.refl _ _) | (with_reducible refine Below.setCell ?_ ?_ _) | (with_reducible refine Below.alloc ?_ ?_ _) | (with_reducible refine Below.drewN ?_ _) | (with_reducible refine Below.drew ?_) | (with_reducible exact Nat.le_refl _) | (focus (simp only [World.size_alloc, World.size_setCell, World.size_drew, World.size_drewN]; omega)) | omega | exact Nat.le_refl _ | (focus (simp; done)) | (focus (simp; omega)))) (hb8.mono (by first | omega | (simp; done) | (simp; omega))))); clear hob2 hb8; go_wp2)
              refine ⟨by rw [HSD.out]; exact (hcv3), ?_⟩
              refine stepM1S rfl rfl (fun K hK => ?_)
              go_wp2
              refine ⟨by rw [HSD.out]; exact (hcv3), ?_⟩
              refine stepM0 rfl rfl (fun K hK => ?_)
              go_simp
              refine hK _ ?_
              clear hK K
              refine stepM0 rfl rfl (fun K hK => ?_)
              go_simp
              refine hK _ ?_
              clear hK K
              refine stepM0 rfl rfl (fun K hK => ?_)
              go_simp
              refine hK _ ?_
              clear hK K
              refine stepM1 rfl rfl (by kernel_rfl) (fun K hK => ?_)
              (go_wp2_with fail; refine Calls.mono (code_any 11 (by omega) (by omega) _) ?_; rintro e w9 ⟨rfl, rfl⟩; go_wp2)
              refine stepM0 rfl rfl (fun K hK => ?_)
              go_simp
              refine hK _ ?_
              clear hK K
              refine stepM0 rfl rfl (fun K hK => ?_)
              go_simp
              refine hK _ ?_
              clear hK K
              refine stepM0 rfl rfl (fun K hK => ?_)
              go_simp
              refine hK _ ?_
              clear hK K
              refine stepM1 rfl rfl (by kernel_rfl) (fun K hK => ?_)
              (go_wp2_with fail; refine Calls.mono (code_any 11 (by omega) (by omega) _) ?_; rintro e w9 ⟨rfl, rfl⟩; go_wp2)
              refine stepM0 rfl rfl (fun K hK => ?_)
              go_simp
              refine hK _ ?_
              clear hK K
              refine stepM0 rfl rfl (fun K hK => ?_)
              go_simp
              refine hK _ ?_
              clear hK K
              refine stepM0 rfl rfl (fun K hK => ?_)
              go_simp
              refine hK _ ?_
              clear hK K
              refine stepM0 rfl rfl (fun K hK => ?_)
              go_simp
              refine hK _ ?_
              clear hK K
              try refine stepMnil0 ?_
              clear HSD SS
              go_wp2_with fail
              go_ret
              exact ⟨rfl, HB8.out⟩
      · obtain ⟨hevo, rfl⟩ := hev _ rfl
        have HEVO := Lib.hid hevo
        rw [show mvVal (some ⟨ev0, ev1, ev2, ev3⟩) = .agg #[.int .i64 ev0, .int .i64 ev1, .int .i64 ev2, .int .i64 ev3] from rfl, show (some (⟨ev0, ev1, ev2, ev3⟩ : Mv)).isSome = true from rfl]
        clear hev hk6 hevo
        go_wp2_with fail
        refine (code_any 0 (by omega) (by omega) _).mono ?_
        rintro e w9 ⟨rfl, rfl⟩
        go_upto_region 24 with fail
        go_cut [15] (fun vv wx => ∃ (a' : Option Addr) (c' : Nat), vv = .slice a' (L.length + 1) c' ∧ wx.ownsRow we.heap.size 94 4 (.slice a' (L.length + 1) c') (L.length + 1) ((L ++ [(⟨ev0, ev1, ev2, ev3⟩ : Mv)]).flatMap Mv.row) ∧ Below we.heap.size we wx)
        case first =>
          as_aux_lemma =>
          obtain ⟨SS, HSD⟩ : ∃ SS : World → Prop, Hid (SS = fun w' => w'.heap[we.heap.size]? = some (.cells #[.int .i64 ev0, .int .i64 ev1, .int .i64 ev2, .int .i64 ev3] 94 (0, 0))) := ⟨_, Lib.hid rfl⟩
          refine wp_region_mask0 SS [3] [0, 0, 3, 0, 8, 31, 63] (.op 1 0 (.op 3 2 (.two 0 (.two 2 (.op 4 1 (.op 5 1 (.op 6 0 .nil))) 4 (.op 2 1 (.op 5 1 (.op 6 0 .nil)))) 4 (.op 0 1 (.op 2 1 (.op 5 1 (.op 6 0 .nil))))))) (by kernel_rfl) (by kernel_rfl) rfl (by kernel_rfl) (by kernel_rfl) ?_ ?_
          focus (rw [HSD.out]; exact heap_alloc_new we _)
          refine stepM0 rfl rfl (fun K hK => ?_)
          go_simp
          refine hK _ ?_
          clear hK K
          refine stepM2 rfl rfl ?_ (fun w1 hS => ?_) (fun K hK => ?_)
          rotate_left
          focus (rw [HSD.out] at hS; obtain ⟨s0, s1, s2, s3⟩ := cells4 hS; go_simp; rfl)
          go_simp
          refine hK _ ?_
          clear hK K
          refine stepMtwo ?_ ?_ (by kernel_rfl) (by kernel_rfl)
          ·
            refine stepM1S rfl rfl (fun K hK => ?_)
            go_wp2
            refine ⟨by rw [HSD.out]; exact ((by exact hp_alloc (heap_alloc_new we _) _)), ?_⟩
            refine stepMtwo ?_ ?_ (by kernel_rfl) (by kernel_rfl)
            ·
              refine stepM1S rfl rfl (fun K hK => ?_)
              (refine wp_append_reads _ _ _ 90 rfl we.heap.size 94 i0 (.agg #[.int .i64 0, .int .i64 0, .int .i64 0, .int .i64 0]) 4 32 Try.underlying90 HI.out HZ0.out HZ1.out HZ2.out rfl (by decide) (.slice (some ⟨we.heap.size + 1, 0, none⟩) 0 0) 0 [] rfl (lit_m (by simp) (by omega)) (.slice am L.length cm) L.length (L.flatMap Mv.row) rfl (reads_of_owns (ownsRow_below HOLC.out (by repeat (first | (with_reducible exact Below.refl _ _) | (with_reducible refine Below.setCell ?_ ?_ _) | (with_reducible refine Below.alloc ?_ ?_ _) | (with_reducible refine Below.drewN ?_ _) | (with_reducible refine Below.drew ?_) | (with_reducible exact Nat.le_refl _) | (focus (simp only [World.size_alloc, World.size_setCell, World.size_drew, World.size_drewN]; omega)) | omega | exact Nat.le_refl _ | (focus (simp; done)) | (focus (simp; omega)))))) (Mv.ones L) (by unfold maxLen; omega) (by omega) (by first | omega | (simp; done) | (simp; omega)) ?_; intro v1 w1' hown1 hgrow1 hat1; have hzq1 := hgrow1.size; simp only [World.size_alloc, World.size_drew] at hzq1; have hbx1 := (hgrow1.block we.heap.size (by first | omega | (simp; done) | (simp; omega)) (by simp [Value.ownBlock])).trans (by exact hp_alloc (heap_alloc_new we _) _); have HO1 := Lib.hid hown1; have HG1 := Lib.hid hgrow1; clear hown1 hgrow1 hat1; go_wp2)
              refine ⟨by rw [HSD.out]; exact ((by exact hbx1)), ?_⟩
              refine stepM1 rfl rfl (by kernel_rfl) (fun K hK => ?_)
              go_wp2
              refine stepM1 rfl rfl (by kernel_rfl) (fun K hK => ?_)
              (refine wp_append_lies _ _ _ 90 rfl we.heap.size 94 i0 (.agg #[.int .i64 0, .int .i64 0, .int .i64 0, .int .i64 0]) 4 32 Try.underlying90 HI.out HZ0.out HZ1.out HZ2.out rfl (by decide) v1 (0 + L.length) ([] ++ L.flatMap Mv.row) rfl (HO1.out.alloc _) ⟨w1'.heap.size, 0, none⟩ 1 1 [.int .i64 ev0, .int .i64 ev1, .int .i64 ev2, .int .i64 ev3] rfl rfl (World.news_of_block (cs := #[.int .i64 ev0, .int .i64 ev1, .int .i64 ev2, .int .i64 ev3]) (t := 94) (fr := (0, 0)) (heap_alloc_new w1' _)) (by simp [Value.oneCell']) (by omega) (by unfold maxLen; omega) (by omega) (by first | omega | (simp; done) | (simp; omega)) _ rfl ?_; intro gg cap2 w2' hown2 hgrow2 hat2 hlt2; go_wp2)
              refine stepM0 rfl rfl (fun K hK => ?_)
              go_simp
              refine hK _ ?_
              clear hK K
              try refine stepMnil0 ?_
              clear HSD SS
              go_wp2_with fail
              go_meet
              refine ⟨_, _, rfl, by simpa [Mv.row] using hown2, ?_⟩
              refine Below.grown ?_ hgrow2 (by first | omega | (simp; done) | (simp; omega)) (fun q hq => (HO1.out.lt q hq).1)
              first | exact Below.grown (by repeat (first | (with_reducible exact Below.refl _ _) | (with_reducible refine Below.setCell ?_ ?_ _) | (with_reducible refine Below.alloc ?_ ?_ _) | (with_reducible refine Below.drewN ?_ _) | (with_reducible refine Below.drew ?_) | (with_reducible exact Nat.le_refl _) | (focus (simp only [World.size_alloc, World.size_setCell, World.size_drew, World.size_drewN]; omega)) | omega | exact Nat.le_refl _ | (focus (simp; done)) | (focus (simp; omega)))) HG1.out (by first | omega | (simp; done) | (simp; omega)) (by simp [Value.ownBlock]) | exact (Below.grown (by repeat (first | (with_reducible exact Below.refl _ _) | (with_reducible refine Below.setCell ?_ ?_ _) | (with_reducible refine Below.alloc ?_ ?_ _) | (with_reducible refine Below.drewN ?_ _) | (with_reducible refine Below.drew ?_) | (with_reducible exact Nat.le_refl _) | (focus (simp only [World.size_alloc, World.size_setCell, World.size_drew, World.size_drewN]; omega)) | omega | exact Nat.le_refl _ | (focus (simp; done)) | (focus (simp; omega)))) HG1.out (by first | omega | (simp; done) | (simp; omega)) (by simp [Value.ownBlock])).alloc (by omega) _
            ·
              refine stepM1 rfl rfl (by kernel_rfl) (fun K hK => ?_)
              go_wp2
              refine stepM1S rfl rfl (fun K hK => ?_)
              (refine wp_append_reads _ _ _ 90 rfl we.heap.size 94 i0 (.agg #[.int .i64 0, .int .i64 0, .int .i64 0, .int .i64 0]) 4 32 Try.underlying90 HI.out HZ0.out HZ1.out HZ2.out rfl (by decide) (.slice (some ⟨we.heap.size + 1, 0, none⟩) 0 0) 0 [] rfl ((lit_m (w := (we.alloc (.cells #[.int .i64 ev0, .int .i64 ev1, .int .i64 ev2, .int .i64 ev3] 94))) (k := we.heap.size + 1) (by simp) (by omega)).alloc (.cells #[.int .i64 ev0, .int .i64 ev1, .int .i64 ev2, .int .i64 ev3] 94)) (.slice am L.length cm) L.length (L.flatMap Mv.row) rfl (reads_of_owns (ownsRow_below HOLC.out (by repeat (first | (with_reducible exact Below.refl _ _) | (with_reducible refine Below.setCell ?_ ?_ _) | (with_reducible refine Below.alloc ?_ ?_ _) | (with_reducible refine Below.drewN ?_ _) | (with_reducible refine Below.drew ?_) | (with_reducible exact Nat.le_refl _) | (focus (simp only [World.size_alloc, World.size_setCell, World.size_drew, World.size_drewN]; omega)) | omega | exact Nat.le_refl _ | (focus (simp; done)) | (focus (simp; omega)))))) (Mv.ones L) (by unfold maxLen; omega) (by omega) (by first | omega | (simp; done) | (simp; omega)) ?_; intro v1 w1' hown1 hgrow1 hat1; have hzq1 := hgrow1.size; simp only [World.size_alloc, World.size_drew] at hzq1; have hbx1 := (hgrow1.block we.heap.size (by first | omega | (simp; done) | (simp; omega)) (by simp [Value.ownBlock])).trans (by exact hp_alloc (hp_alloc (heap_alloc_new we _) _) _); have hev1 := (hgrow1.block (we.heap.size + 2) (by first | omega | (simp; done) | (simp; omega)) (by simp [Value.ownBlock])).trans (by exact hp_new (w := (we.alloc (.cells #[.int .i64 ev0, .int .i64 ev1, .int .i64 ev2, .int .i64 ev3] 94)).alloc (.cells #[] 94)) (.cells #[.int .i64 ev0, .int .i64 ev1, .int .i64 ev2, .int .i64 ev3] 94) (by simp)); have HO1 := Lib.hid hown1; have HG1 := Lib.hid hgrow1; clear hown1 hgrow1 hat1; go_wp2)
              refine ⟨by rw [HSD.out]; exact ((by exact hbx1)), ?_⟩
              refine stepM1 rfl rfl (by kernel_rfl) (fun K hK => ?_)
              (refine wp_append_lies _ _ _ 90 rfl we.heap.size 94 i0 (.agg #[.int .i64 0, .int .i64 0, .int .i64 0, .int .i64 0]) 4 32 Try.underlying90 HI.out HZ0.out HZ1.out HZ2.out rfl (by decide) v1 (0 + L.length) ([] ++ L.flatMap Mv.row) rfl HO1.out ⟨we.heap.size + 2, 0, none⟩ 1 1 [.int .i64 ev0, .int .i64 ev1, .int .i64 ev2, .int .i64 ev3] rfl rfl (World.news_of_block (cs := #[.int .i64 ev0, .int .i64 ev1, .int .i64 ev2, .int .i64 ev3]) (t := 94) (fr := (0, 0)) hev1) (by simp [Value.oneCell']) (by omega) (by unfold maxLen; omega) (by omega) (by first | omega | (simp; done) | (simp; omega)) _ rfl ?_; intro gg cap2 w2' hown2 hgrow2 hat2 hlt2; go_wp2)
              refine stepM0 rfl rfl (fun K hK => ?_)
              go_simp
              refine hK _ ?_
              clear hK K
              try refine stepMnil0 ?_
              clear HSD SS
              go_wp2_with fail
              go_meet
              refine ⟨_, _, rfl, by simpa [Mv.row] using hown2, ?_⟩
              refine Below.grown ?_ hgrow2 (by first | omega | (simp; done) | (simp; omega)) (fun q hq => (HO1.out.lt q hq).1)
              first | exact Below.grown (by repeat (first | (with_reducible exact Below.refl _ _) | (with_reducible refine Below.setCell ?_ ?_ _) | (with_reducible refine Below.alloc ?_ ?_ _) | (with_reducible refine Below.drewN ?_ _) | (with_reducible refine Below.drew ?_) | (with_reducible exact Nat.le_refl _) | (focus (simp only [World.size_alloc, World.size_setCell, World.size_drew, World.size_drewN]; omega)) | omega | exact Nat.le_refl _ | (focus (simp; done)) | (focus (simp; omega)))) HG1.out (by first | omega | (simp; done) | (simp; omega)) (by simp [Value.ownBlock]) | exact (Below.grown (by repeat (first | (with_reducible exact Below.refl _ _) | (with_reducible refine Below.setCell ?_ ?_ _) | (with_reducible refine Below.alloc ?_ ?_ _) | (with_reducible refine Below.drewN ?_ _) | (with_reducible refine Below.drew ?_) | (with_reducible exact Nat.le_refl _) | (focus (simp only [World.size_alloc, World.size_setCell, World.size_drew, World.size_drewN]; omega)) | omega | exact Nat.le_refl _ | (focus (simp; done)) | (focus (simp; omega)))) HG1.out (by first | omega | (simp; done) | (simp; omega)) (by simp [Value.ownBlock])).alloc (by omega) _
          ·
            refine stepM1 rfl rfl (by kernel_rfl) (fun K hK => ?_)
            go_wp2
            refine stepM1S rfl rfl (fun K hK => ?_)
            go_wp2
            refine ⟨by rw [HSD.out]; exact ((by exact hp_alloc (hp_alloc (heap_alloc_new we _) _) _)), ?_⟩
            refine stepM1S rfl rfl (fun K hK => ?_)
            (refine wp_append_reads _ _ _ 90 rfl we.heap.size 94 i0 (.agg #[.int .i64 0, .int .i64 0, .int .i64 0, .int .i64 0]) 4 32 Try.underlying90 HI.out HZ0.out HZ1.out HZ2.out rfl (by decide) (.slice (some ⟨we.heap.size + 2, 0, none⟩) 0 0) 0 [] rfl (lit_m (by simp) (by omega)) (.slice am L.length cm) L.length (L.flatMap Mv.row) rfl (reads_of_owns (ownsRow_below HOLC.out (by repeat (first | (with_reducible exact Below.refl _ _) | (with_reducible refine Below.setCell ?_ ?_ _) | (with_reducible refine Below.alloc ?_ ?_ _) | (with_reducible refine Below.drewN ?_ _) | (with_reducible refine Below.drew ?_) | (with_reducible exact Nat.le_refl _) | (focus (simp only [World.size_alloc, World.size_setCell, World.size_drew, World.size_drewN]; omega)) | omega | exact Nat.le_refl _ | (focus (simp; done)) | (focus (simp; omega)))))) (Mv.ones L) (by unfold maxLen; omega) (by omega) (by first | omega | (simp; done) | (simp; omega)) ?_; intro v1 w1' hown1 hgrow1 hat1; have hzq1 := hgrow1.size; simp only [World.size_alloc, World.size_drew] at hzq1; have hbx1 := (hgrow1.block we.heap.size (by first | omega | (simp; done) | (simp; omega)) (by simp [Value.ownBlock])).trans (by exact hp_alloc (hp_alloc (heap_alloc_new we _) _) _); have hev1 := (hgrow1.block (we.heap.size + 1) (by first | omega | (simp; done) | (simp; omega)) (by simp [Value.ownBlock])).trans (by exact hp_alloc (hp_new (w := (we.alloc (.cells #[.int .i64 ev0, .int .i64 ev1, .int .i64 ev2, .int .i64 ev3] 94))) (.cells #[.int .i64 ev0, .int .i64 ev1, .int .i64 ev2, .int .i64 ev3] 94) (by simp)) _); have HO1 := Lib.hid hown1; have HG1 := Lib.hid hgrow1; clear hown1 hgrow1 hat1; go_wp2)
            refine ⟨by rw [HSD.out]; exact ((by exact hbx1)), ?_⟩
            refine stepM1 rfl rfl (by kernel_rfl) (fun K hK => ?_)
            (refine wp_append_lies _ _ _ 90 rfl we.heap.size 94 i0 (.agg #[.int .i64 0, .int .i64 0, .int .i64 0, .int .i64 0]) 4 32 Try.underlying90 HI.out HZ0.out HZ1.out HZ2.out rfl (by decide) v1 (0 + L.length) ([] ++ L.flatMap Mv.row) rfl HO1.out ⟨we.heap.size + 1, 0, none⟩ 1 1 [.int .i64 ev0, .int .i64 ev1, .int .i64 ev2, .int .i64 ev3] rfl rfl (World.news_of_block (cs := #[.int .i64 ev0, .int .i64 ev1, .int .i64 ev2, .int .i64 ev3]) (t := 94) (fr := (0, 0)) hev1) (by simp [Value.oneCell']) (by omega) (by unfold maxLen; omega) (by omega) (by first | omega | (simp; done) | (simp; omega)) _ rfl ?_; intro gg cap2 w2' hown2 hgrow2 hat2 hlt2; go_wp2)
            refine stepM0 rfl rfl (fun K hK => ?_)
            go_simp
            refine hK _ ?_
            clear hK K
            try refine stepMnil0 ?_
            clear HSD SS
            go_wp2_with fail
            go_meet
            refine ⟨_, _, rfl, by simpa [Mv.row] using hown2, ?_⟩
            refine Below.grown ?_ hgrow2 (by first | omega | (simp; done) | (simp; omega)) (fun q hq => (HO1.out.lt q hq).1)
            first | exact Below.grown (by repeat (first | (with_reducible exact Below.refl _ _) | (with_reducible refine Below.setCell ?_ ?_ _) | (with_reducible refine Below.alloc ?_ ?_ _) | (with_reducible refine Below.drewN ?_ _) | (with_reducible refine Below.drew ?_) | (with_reducible exact Nat.le_refl _) | (focus (simp only [World.size_alloc, World.size_setCell, World.size_drew, World.size_drewN]; omega)) | omega | exact Nat.le_refl _ | (focus (simp; done)) | (focus (simp; omega)))) HG1.out (by first | omega | (simp; done) | (simp; omega)) (by simp [Value.ownBlock]) | exact (Below.grown (by repeat (first | (with_reducible exact Below.refl _ _) | (with_reducible refine Below.setCell ?_ ?_ _) | (with_reducible refine Below.alloc ?_ ?_ _) | (with_reducible refine Below.drewN ?_ _) | (with_reducible refine Below.drew ?_) | (with_reducible exact Nat.le_refl _) | (focus (simp only [World.size_alloc, World.size_setCell, World.size_drew, World.size_drewN]; omega)) | omega | exact Nat.le_refl _ | (focus (simp; done)) | (focus (simp; omega)))) HG1.out (by first | omega | (simp; done) | (simp; omega)) (by simp [Value.ownBlock])).alloc (by omega) _
        case rest =>
          as_aux_lemma =>
          obtain ⟨a', c', rfl, ho', hb'⟩ := hcut
          obtain ⟨L', hL'⟩ : ∃ L', L' = L ++ [(⟨ev0, ev1, ev2, ev3⟩ : Mv)] := ⟨_, rfl⟩
          obtain ⟨nl, hnl⟩ : ∃ nl, nl = L.length + 1 := ⟨_, rfl⟩
          obtain ⟨wL, hwL⟩ : ∃ wL : World, wL = wc := ⟨_, rfl⟩
          rw [← hnl, ← hL', ← hwL] at ho'
          rw [← hwL] at hb'
          rw [← hnl, ← hwL]
          have HNL := Lib.hid (show L'.length = nl by rw [hL', hnl]; simp)
          have HRL := Lib.hid (reads_of_owns ho')
          have HOKL := Lib.hid (show ∀ m ∈ L', MoveOk es m by
            rw [hL']
            intro m hm
            rcases List.mem_append.1 hm with hm | hm
            · exact HML.out m hm
            · obtain rfl : m = _ := List.mem_singleton.1 hm
              exact HEVO.out)
          have HMX := Lib.hid (HMC.out.below hb')
          have HOBX := Lib.hid (ownsRow_below HOBC.out hb')
          have HBX := Lib.hid (HBC.out.trans (hb'.mono hzc))
          have hzX := HBX.out.size
          have hnl60 : nl ≤ 61 := by omega
          clear hnl hwL hL' ho' hb'
          go_wp2_with fail
          go_loopw [20] (fun i wr => ∃ j : Nat, j ≤ nl ∧ i = .int .i64 j ∧ Below wL.heap.size wL wr) (fun i _ => nl - (intOf i).toNat)
          case atStart => exact ⟨0, Nat.zero_le _, rfl, Below.refl _ _⟩
          case round =>
            obtain ⟨j, hj, rfl, hbr⟩ := hrel
            have HBR3 := Lib.hid hbr
            have hzr3 := hbr.size
            clear hbr
            by_cases hlt3 : j < nl
            · obtain ⟨x, hx⟩ : ∃ x, L'[j]? = some x := ⟨_, List.getElem?_eq_getElem (by rw [HNL.out]; exact hlt3)⟩
              obtain ⟨i, y, hy, hvx, hey, hno', hs0, hs2'⟩ := HOKL.out x (List.mem_of_getElem? hx)
              obtain ⟨g, o, c, e, hgl, q1, q2, q3, q4⟩ := reads_of4 (HRL.out.below HBR3.out) hx (by omega)
              obtain ⟨rfl, -, rfl⟩ := sl_inj e
              obtain ⟨xv, xe, xa, xn⟩ := x
              obtain ⟨yv, ye, n0, n1, n2, ys⟩ := y
              simp only at q1 q2 q3 q4 hvx hey hs0 hs2'
              subst hvx hey
              have HY := Lib.hid hy
              simp only [hasB, Bool.or_eq_false_iff] at hno'
              obtain ⟨⟨hn0, hn1⟩, hn2⟩ := hno'
              have hsa : decide (xa < 0) = false := by simp; omega
              have hsb : decide (2 < xa) = false := by simp; omega
              have hj0 : (0 : Int) ≤ (j : Int) := by omega
              have hj1 : (j : Int) < (nl : Int) := by omega
              clear hx hy e hs0 hs2'
              go_wp2_with fail
              refine (find_yes wq.heap.size bm v es i _ _ (HMX.out.below HBR3.out) HY.out).mono ?_
              rintro e w7 ⟨rfl, hb7⟩
              have HB7 := Lib.hid (HBR3.out.trans (hb7.mono hzr3))
              have hz7 := HB7.out.size
              have hg7 : g < w7.heap.size := by have := hb7.size; omega
              have r2 := (hb7.cell (p := ⟨g, o + j * 4 + 1, none⟩) hgl).trans q2
              have r3 := (hb7.cell (p := ⟨g, o + j * 4 + 2, none⟩) hgl).trans q3
              have r4 := (hb7.cell (p := ⟨g, o + j * 4 + 3, none⟩) hgl).trans q4
              clear hb7 q1 q2 q3 q4
              go_wp2_with fail
              as_aux_lemma =>
              obtain ⟨SS, HSD⟩ : ∃ SS : World → Prop, Hid (SS = fun w' => w'.cell? ⟨w7.heap.size, 1, none⟩ = some (.int .i64 ye) ∧ w'.cell? ⟨w7.heap.size, 2, none⟩ = some (.int .i64 n0) ∧ w'.cell? ⟨w7.heap.size, 3, none⟩ = some (.int .i64 n1) ∧ w'.cell? ⟨w7.heap.size, 4, none⟩ = some (.int .i64 n2) ∧ w'.cell? ⟨g, o + j * 4 + 1, none⟩ = some (.int .i64 ye) ∧ w'.cell? ⟨g, o + j * 4 + 2, none⟩ = some (.int .i64 xa) ∧ w'.cell? ⟨g, o + j * 4 + 3, none⟩ = some (.int .i64 xn)) := ⟨_, Lib.hid rfl⟩
              refine wp_region_mask0 SS [5, 10, 16, 21, 27, 32, 38, 43, 51, 59] [0, 1, 3, 7, 15, 31, 15, 15, 207, 463, 975, 2047, 4095, 8191, 16383, 32767, 65535, 16383, 16383, 409599, 933887, 1982463, 4194303, 8388607, 16777215, 33554431, 67108863, 134217727, 33554431, 33554431, 838860799, 1912602623, 4060086271, 8589934591, 17179869183, 34359738367, 68719476735, 137438953471, 274877906943, 68719476735, 68719476735, 1717986918399, 3917010173951, 8315056685055, 17592186044415, 35184372088831, 70368744177663, 140737488355327, 140737488355327, 562949953421311, 1125899906842623, 2251799813685247, 4503599627370495, 9007199254740991, 18014398509481983, 36028797018963967, 36028797018963967, 144115188075855871, 288230376151711743, 576460752303423487, 1152921504606846975, 2305843009213693951] (.op 0 0 (.op 1 1 (.op 2 0 (.op 3 0 (.op 4 0 (.op 5 2 (.op 6 0 (.op 7 0 (.op 8 0 (.op 9 0 (.op 10 2 (.op 11 0 (.op 12 0 (.op 13 0 (.op 14 0 (.op 15 0 (.op 16 2 (.op 17 0 (.op 18 0 (.op 19 0 (.op 20 0 (.op 21 2 (.op 22 0 (.op 23 0 (.op 24 0 (.op 25 0 (.op 26 0 (.op 27 2 (.op 28 0 (.op 29 0 (.op 30 0 (.op 31 0 (.op 32 2 (.op 33 0 (.op 34 0 (.op 35 0 (.op 36 0 (.op 37 0 (.op 38 2 (.op 39 0 (.op 40 0 (.op 41 0 (.op 42 0 (.op 43 2 (.op 44 0 (.op 45 0 (.op 46 0 (.op 47 0 (.op 48 0 (.op 49 0 (.op 50 0 (.op 51 2 (.op 52 0 (.op 53 0 (.op 54 0 (.op 55 0 (.op 56 0 (.op 57 0 (.op 58 0 (.op 59 2 (.op 60 0 (.op 61 0 .nil)))))))))))))))))))))))))))))))))))))))))))))))))))))))))))))) (by kernel_rfl) (by kernel_rfl) rfl (by kernel_rfl) (by kernel_rfl) ?_ ?_
              focus (rw [HSD.out]; refine ⟨?_, ?_, ?_, ?_, ?_, ?_, ?_⟩ <;> go_simp)
              refine stepM0 rfl rfl (fun K hK => ?_)
              go_simp
              refine hK _ ?_
              clear hK K
              refine stepM1S rfl rfl (fun K hK => ?_)
              (go_wp2_with fail; refine Calls.mono (code_any 0 (by omega) (by omega) _) ?_; rintro e w8 ⟨rfl, rfl⟩; go_wp2)
              refine ⟨by rw [HSD.out]; exact (by refine ⟨?_, ?_, ?_, ?_, ?_, ?_, ?_⟩ <;> go_simp), ?_⟩
              refine stepM0 rfl rfl (fun K hK => ?_)
              go_simp
              refine hK _ ?_
              clear hK K
              refine stepM0 rfl rfl (fun K hK => ?_)
              go_simp
              refine hK _ ?_
              clear hK K
              refine stepM0 rfl rfl (fun K hK => ?_)
              go_simp
              refine hK _ ?_
              clear hK K
              refine stepM2 rfl rfl ?_ (fun w1 hS => ?_) (fun K hK => ?_)
              rotate_left
              focus (rw [HSD.out] at hS; obtain ⟨s0, s1, s2, s3, s4, s5, s6⟩ := hS; go_simp; rfl)
              go_simp
              refine hK _ ?_
              clear hK K
              refine stepM0 rfl rfl (fun K hK => ?_)
              go_simp
              refine hK _ ?_
              clear hK K
              refine stepM0 rfl rfl (fun K hK => ?_)
              go_simp
              refine hK _ ?_
              clear hK K
              refine stepM0 rfl rfl (fun K hK => ?_)
              go_simp
              refine hK _ ?_
              clear hK K
              refine stepM0 rfl rfl (fun K hK => ?_)
              go_simp
              refine hK _ ?_
              clear hK K
              refine stepM2 rfl rfl ?_ (fun w1 hS => ?_) (fun K hK => ?_)
              rotate_left
              focus (rw [HSD.out] at hS; obtain ⟨s0, s1, s2, s3, s4, s5, s6⟩ := hS; go_simp; rfl)
              go_simp
              refine hK _ ?_
              clear hK K
              refine stepM0 rfl rfl (fun K hK => ?_)
              go_simp
              refine hK _ ?_
              clear hK K
              refine stepM0 rfl rfl (fun K hK => ?_)
              go_simp
              refine hK _ ?_
              clear hK K
              refine stepM0 rfl rfl (fun K hK => ?_)
              go_simp
              refine hK _ ?_
              clear hK K
              refine stepM0 rfl rfl (fun K hK => ?_)
              go_simp
              refine hK _ ?_
              clear hK K
              refine stepM0 rfl rfl (fun K hK => ?_)
              go_simp
              refine hK _ ?_
              clear hK K
              refine stepM2 rfl rfl ?_ (fun w1 hS => ?_) (fun K hK => ?_)
              rotate_left
              focus (rw [HSD.out] at hS; obtain ⟨s0, s1, s2, s3, s4, s5, s6⟩ := hS; go_simp; rfl)
              go_simp
              refine hK _ ?_
              clear hK K
              refine stepM0 rfl rfl (fun K hK => ?_)
              go_simp
              refine hK _ ?_
              clear hK K
              refine stepM0 rfl rfl (fun K hK => ?_)
              go_simp
              refine hK _ ?_
              clear hK K
              refine stepM0 rfl rfl (fun K hK => ?_)
              go_simp
              refine hK _ ?_
              clear hK K
              refine stepM0 rfl rfl (fun K hK => ?_)
              go_simp
              refine hK _ ?_
              clear hK K
              refine stepM2 rfl rfl ?_ (fun w1 hS => ?_) (fun K hK => ?_)
              rotate_left
              focus (rw [HSD.out] at hS; obtain ⟨s0, s1, s2, s3, s4, s5, s6⟩ := hS; go_simp; rfl)
              go_simp
              refine hK _ ?_
              clear hK K
              refine stepM0 rfl rfl (fun K hK => ?_)
              go_simp
              refine hK _ ?_
              clear hK K
              refine stepM0 rfl rfl (fun K hK => ?_)
              go_simp
              refine hK _ ?_
              clear hK K
              refine stepM0 rfl rfl (fun K hK => ?_)
              go_simp
              refine hK _ ?_
              clear hK K
              refine stepM0 rfl rfl (fun K hK => ?_)
              go_simp
              refine hK _ ?_
              clear hK K
              refine stepM0 rfl rfl (fun K hK => ?_)
              go_simp
              refine hK _ ?_
              clear hK K
              refine stepM2 rfl rfl ?_ (fun w1 hS => ?_) (fun K hK => ?_)
              rotate_left
              focus (rw [HSD.out] at hS; obtain ⟨s0, s1, s2, s3, s4, s5, s6⟩ := hS; go_simp; rfl)
              go_simp
              refine hK _ ?_
              clear hK K
              refine stepM0 rfl rfl (fun K hK => ?_)
              go_simp
              refine hK _ ?_
              clear hK K
              refine stepM0 rfl rfl (fun K hK => ?_)
              go_simp
              refine hK _ ?_
              clear hK K
              refine stepM0 rfl rfl (fun K hK => ?_)
              go_simp
              refine hK _ ?_
              clear hK K
              refine stepM0 rfl rfl (fun K hK => ?_)
              go_simp
              refine hK _ ?_
              clear hK K
              refine stepM2 rfl rfl ?_ (fun w1 hS => ?_) (fun K hK => ?_)
              rotate_left
              focus (rw [HSD.out] at hS; obtain ⟨s0, s1, s2, s3, s4, s5, s6⟩ := hS; go_simp; rfl)
              go_simp
              refine hK _ ?_
              clear hK K
              refine stepM0 rfl rfl (fun K hK => ?_)
              go_simp
              refine hK _ ?_
              clear hK K
              refine stepM0 rfl rfl (fun K hK => ?_)
              go_simp
              refine hK _ ?_
              clear hK K
              refine stepM0 rfl rfl (fun K hK => ?_)
              go_simp
              refine hK _ ?_
              clear hK K
              refine stepM0 rfl rfl (fun K hK => ?_)
              go_simp
              refine hK _ ?_
              clear hK K
              refine stepM0 rfl rfl (fun K hK => ?_)
              go_simp
              refine hK _ ?_
              clear hK K
              refine stepM2 rfl rfl ?_ (fun w1 hS => ?_) (fun K hK => ?_)
              rotate_left
              focus (rw [HSD.out] at hS; obtain ⟨s0, s1, s2, s3, s4, s5, s6⟩ := hS; go_simp; rfl)
              go_simp
              refine hK _ ?_
              clear hK K
              refine stepM0 rfl rfl (fun K hK => ?_)
              go_simp
              refine hK _ ?_
              clear hK K
              refine stepM0 rfl rfl (fun K hK => ?_)
              go_simp
              refine hK _ ?_
              clear hK K
              refine stepM0 rfl rfl (fun K hK => ?_)
              go_simp
              refine hK _ ?_
              clear hK K
              refine stepM0 rfl rfl (fun K hK => ?_)
              go_simp
              refine hK _ ?_
              clear hK K
              refine stepM2 rfl rfl ?_ (fun w1 hS => ?_) (fun K hK => ?_)
              rotate_left
              focus (rw [HSD.out] at hS; obtain ⟨s0, s1, s2, s3, s4, s5, s6⟩ := hS; go_simp; rfl)
              go_simp
              refine hK _ ?_
              clear hK K
              refine stepM0 rfl rfl (fun K hK => ?_)
              go_simp
              refine hK _ ?_
              clear hK K
              refine stepM0 rfl rfl (fun K hK => ?_)
              go_simp
              refine hK _ ?_
              clear hK K
              refine stepM0 rfl rfl (fun K hK => ?_)
              go_simp
              refine hK _ ?_
              clear hK K
              refine stepM0 rfl rfl (fun K hK => ?_)
              go_simp
              refine hK _ ?_
              clear hK K
              refine stepM0 rfl rfl (fun K hK => ?_)
              go_simp
              refine hK _ ?_
              clear hK K
              refine stepM0 rfl rfl (fun K hK => ?_)
              go_simp
              refine hK _ ?_
              clear hK K
              refine stepM0 rfl rfl (fun K hK => ?_)
              go_simp
              refine hK _ ?_
              clear hK K
              refine stepM2 rfl rfl ?_ (fun w1 hS => ?_) (fun K hK => ?_)
              rotate_left
              focus (rw [HSD.out] at hS; obtain ⟨s0, s1, s2, s3, s4, s5, s6⟩ := hS; go_simp; rfl)
              go_simp
              refine hK _ ?_
              clear hK K
              refine stepM0 rfl rfl (fun K hK => ?_)
              go_simp
              refine hK _ ?_
              clear hK K
              refine stepM0 rfl rfl (fun K hK => ?_)
              go_simp
              refine hK _ ?_
              clear hK K
              refine stepM0 rfl rfl (fun K hK => ?_)
              go_simp
              refine hK _ ?_
              clear hK K
              refine stepM0 rfl rfl (fun K hK => ?_)
              go_simp
              refine hK _ ?_
              clear hK K
              refine stepM0 rfl rfl (fun K hK => ?_)
              go_simp
              refine hK _ ?_
              clear hK K
              refine stepM0 rfl rfl (fun K hK => ?_)
              go_simp
              refine hK _ ?_
              clear hK K
              refine stepM0 rfl rfl (fun K hK => ?_)
              go_simp
              refine hK _ ?_
              clear hK K
              refine stepM2 rfl rfl ?_ (fun w1 hS => ?_) (fun K hK => ?_)
              rotate_left
              focus (rw [HSD.out] at hS; obtain ⟨s0, s1, s2, s3, s4, s5, s6⟩ := hS; go_simp; rfl)
              go_simp
              refine hK _ ?_
              clear hK K
              refine stepM0 rfl rfl (fun K hK => ?_)
              go_simp
              refine hK _ ?_
              clear hK K
              refine stepM0 rfl rfl (fun K hK => ?_)
              go_simp
              refine hK _ ?_
              clear hK K
              try refine stepMnil0 ?_
              clear HSD SS
              go_wp2_with fail
              go_roundw
              case rel => exact ⟨j + 1, by omega, by go_num, Below.trans HB7.out (by repeat (first | (with_reducible exact Below.refl _ _) | (with_reducible refine Below.setCell ?_ ?_ _) | (with_reducible refine Below.alloc ?_ ?_ _) | (with_reducible refine Below.drewN ?_ _) | (with_reducible refine Below.drew ?_) | (with_reducible exact Nat.le_refl _) | (focus (simp only [World.size_alloc, World.size_setCell, World.size_drew, World.size_drewN]; omega)) | omega | exact Nat.le_refl _ | (focus (simp; done)) | (focus (simp; omega))))⟩
              case measure => simp [intOf]; omega
            · have hjn : decide ((j : Int) < (nl : Int)) = false := by simp; omega
              have hcv := conv_row (ownsRow_below HOBX.out HBR3.out)
              have HBW := Lib.hid (HBX.out.trans (HBR3.out.mono hzX))
              have hzw := HBW.out.size
              have HMW := Lib.hid (HMX.out.below HBR3.out)
              go_wp2_with fail
              rcases HK5.out with rfl | rfl
              · as_aux_lemma =>
                obtain ⟨SS, HSD⟩ : ∃ SS : World → Prop, Hid (SS = fun w' => (convert 44 9 (.slice ab (mapBytes es).length cb)).run Try.prog w' = .ok (.string ⟨(mapBytes es).toArray⟩) w') := ⟨_, Lib.hid rfl⟩
                refine wp_region_mask0 SS [1] [0, 1, 0, 4, 12, 31, 63, 127, 255, 511, 1023, 2047, 4095, 8191, 16383, 32767, 65535] (.op 0 0 (.op 1 2 (.op 2 0 (.op 3 1 (.op 4 1 (.op 5 0 (.op 6 0 (.op 7 0 (.op 8 1 (.op 9 0 (.op 10 0 (.op 11 0 (.op 12 1 (.op 13 0 (.op 14 0 (.op 15 0 (.op 16 0 .nil))))))))))))))))) (by kernel_rfl) (by kernel_rfl) rfl (by kernel_rfl) (by kernel_rfl) ?_ ?_
                focus (rw [HSD.out]; exact conv_row (ownsRow_below HOBX.out HBR3.out.drew))
                refine stepM0 rfl rfl (fun K hK => ?_)
                go_simp
                refine hK _ ?_
                clear hK K
                refine stepM2 rfl rfl ?_ (fun w1 hS => ?_) (fun K hK => ?_)
                rotate_left
                focus (rw [HSD.out] at hS; skip; go_simp; rfl)
                go_simp
                refine hK _ ?_
                clear hK K
                refine stepM0 rfl rfl (fun K hK => ?_)
                go_simp
                refine hK _ ?_
                clear hK K
                refine stepM1S rfl rfl (fun K hK => ?_)
                (go_wp2_with fail; refine Calls.mono (bytes_any wq.heap.size bm v es (1 + (cs.length : Int)) _ (HMW.out.below (by repeat (first | (with_reducible exact Below.refl _ _) | (with_reducible refine Below.setCell ?_ ?_ _) | (with_reducible refine Below.alloc ?_ ?_ _) | (with_reducible refine Below.drewN ?_ _) | (with_reducible refine Below.drew ?_) | (with_reducible exact Nat.le_refl _) | (focus (simp only [World.size_alloc, World.size_setCell, World.size_drew, World.size_drewN]; omega)) | omega | exact Nat.le_refl _ | (focus (simp; done)) | (focus (simp; omega))))) HGOOD.out (by omega)) ?_; rintro e w8 ⟨vb2, rfl, hob2, hb8⟩; have hcv2 := conv_row hob2; have hcv3 := conv_row (ownsRow_below HOBX.out (HBR3.out.trans (Below.trans (by repeat (first | (with_reducible exact Below.refl _ _) | (with_reducible refine Below.setCell ?_ ?_ _) | (with_reducible refine Below.alloc ?_ ?_ _) | (with_reducible refine Below.drewN ?_ _) | (with_reducible refine Below.drew ?_) | (with_reducible exact Nat.le_refl _) | (focus (simp only [World.size_alloc, World.size_setCell, World.size_drew, World.size_drewN]; omega)) | omega | exact Nat.le_refl _ | (focus (simp; done)) | (focus (simp; omega)))) (hb8.mono (by first | omega | (simp; done) | (simp; omega)))))); have HB8 := Lib.hid (HBW.out.trans (Below.trans (by repeat (first | (with_reducible exact Below.refl _ _) | (with_reducible refine Below.setCell ?_ ?_ _) | (with_reducible refine Below.alloc ?_ ?_ _) | (with_reducible refine Below.drewN ?_ _) | (with_reducible refine Below.drew ?_) | (with_reducible exact Nat.le_refl _) | (focus (simp only [World.size_alloc, World.size_setCell, World.size_drew, World.size_drewN]; omega)) | omega | exact Nat.le_refl _ | (focus (simp; done)) | (focus (simp; omega)))) (hb8.mono (by first | omega | (simp; done) | (simp; omega))))); clear hob2 hb8; go_wp2)
                refine ⟨by rw [HSD.out]; exact (hcv3), ?_⟩
                refine stepM1S rfl rfl (fun K hK => ?_)
                go_wp2
                refine ⟨by rw [HSD.out]; exact (hcv3), ?_⟩
                refine stepM0 rfl rfl (fun K hK => ?_)
                go_simp
                refine hK _ ?_
                clear hK K
                refine stepM0 rfl rfl (fun K hK => ?_)
                go_simp
                refine hK _ ?_
                clear hK K
                refine stepM0 rfl rfl (fun K hK => ?_)
                go_simp
                refine hK _ ?_
                clear hK K
                refine stepM1 rfl rfl (by kernel_rfl) (fun K hK => ?_)
                (go_wp2_with fail; refine Calls.mono (code_any 0 (by omega) (by omega) _) ?_; rintro e w9 ⟨rfl, rfl⟩; go_wp2)
                refine stepM0 rfl rfl (fun K hK => ?_)
                go_simp
                refine hK _ ?_
                clear hK K
                refine stepM0 rfl rfl (fun K hK => ?_)
                go_simp
                refine hK _ ?_
                clear hK K
                refine stepMy0 rfl rfl (fun K hK => ?_)
                go_simp
                refine hK _ ?_
                clear hK K
                refine stepMy1 rfl rfl (fun K hK => ?_)
                go_simp
                refine hK _ ?_
                clear hK K
                refine stepMy0 rfl rfl (fun K hK => ?_)
                go_simp
                refine hK _ ?_
                clear hK K
                refine stepM0 rfl rfl (fun K hK => ?_)
                go_simp
                refine hK _ ?_
                clear hK K
                refine stepM0 rfl rfl (fun K hK => ?_)
                go_simp
                refine hK _ ?_
                clear hK K
                refine stepM0 rfl rfl (fun K hK => ?_)
                go_simp
                refine hK _ ?_
                clear hK K
                try refine stepMnil0 ?_
                clear HSD SS
                go_wp2_with fail
                go_ret
                exact ⟨rfl, HB8.out⟩
              · as_aux_lemma =>
                obtain ⟨SS, HSD⟩ : ∃ SS : World → Prop, Hid (SS = fun w' => (convert 44 9 (.slice ab (mapBytes es).length cb)).run Try.prog w' = .ok (.string ⟨(mapBytes es).toArray⟩) w') := ⟨_, Lib.hid rfl⟩
                refine wp_region_mask0 SS [1] [0, 1, 0, 4, 12, 31, 63, 127, 255, 511, 1023, 2047, 4095, 8191, 16383, 32767, 65535] (.op 0 0 (.op 1 2 (.op 2 0 (.op 3 1 (.op 4 1 (.op 5 0 (.op 6 0 (.op 7 0 (.op 8 1 (.op 9 0 (.op 10 0 (.op 11 0 (.op 12 1 (.op 13 0 (.op 14 0 (.op 15 0 (.op 16 0 .nil))))))))))))))))) (by kernel_rfl) (by kernel_rfl) rfl (by kernel_rfl) (by kernel_rfl) ?_ ?_
                focus (rw [HSD.out]; exact conv_row (ownsRow_below HOBX.out HBR3.out.drew))
                refine stepM0 rfl rfl (fun K hK => ?_)
                go_simp
                refine hK _ ?_
                clear hK K
                refine stepM2 rfl rfl ?_ (fun w1 hS => ?_) (fun K hK => ?_)
                rotate_left
                focus (rw [HSD.out] at hS; skip; go_simp; rfl)
                go_simp
                refine hK _ ?_
                clear hK K
                refine stepM0 rfl rfl (fun K hK => ?_)
                go_simp
                refine hK _ ?_
                clear hK K
                refine stepM1S rfl rfl (fun K hK => ?_)
                (go_wp2_with fail; refine Calls.mono (bytes_any wq.heap.size bm v es (1 + (cs.length : Int)) _ (HMW.out.below (by repeat (first | (with_reducible exact Below.refl _ _) | (with_reducible refine Below.setCell ?_ ?_ _) | (with_reducible refine Below.alloc ?_ ?_ _) | (with_reducible refine Below.drewN ?_ _) | (with_reducible refine Below.drew ?_) | (with_reducible exact Nat.le_refl _) | (focus (simp only [World.size_alloc, World.size_setCell, World.size_drew, World.size_drewN]; omega)) | omega | exact Nat.le_refl _ | (focus (simp; done)) | (focus (simp; omega))))) HGOOD.out (by omega)) ?_; rintro e w8 ⟨vb2, rfl, hob2, hb8⟩; have hcv2 := conv_row hob2; have hcv3 := conv_row (ownsRow_below HOBX.out (HBR3.out.trans (Below.trans (by repeat (first | (with_reducible exact Below.refl _ _) | (with_reducible refine Below.setCell ?_ ?_ _) | (with_reducible refine Below.alloc ?_ ?_ _) | (with_reducible refine Below.drewN ?_ _) | (with_reducible refine Below.drew ?_) | (with_reducible exact Nat.le_refl _) | (focus (simp only [World.size_alloc, World.size_setCell, World.size_drew, World.size_drewN]; omega)) | omega | exact Nat.le_refl _ | (focus (simp; done)) | (focus (simp; omega)))) (hb8.mono (by first | omega | (simp; done) | (simp; omega)))))); have HB8 := Lib.hid (HBW.out.trans (Below.trans (by repeat (first | (with_reducible exact Below.refl _ _) | (with_reducible refine Below.setCell ?_ ?_ _) | (with_reducible refine Below.alloc ?_ ?_ _) | (with_reducible refine Below.drewN ?_ _) | (with_reducible refine Below.drew ?_) | (with_reducible exact Nat.le_refl _) | (focus (simp only [World.size_alloc, World.size_setCell, World.size_drew, World.size_drewN]; omega)) | omega | exact Nat.le_refl _ | (focus (simp; done)) | (focus (simp; omega)))) (hb8.mono (by first | omega | (simp; done) | (simp; omega))))); clear hob2 hb8; go_wp2)
                refine ⟨by rw [HSD.out]; exact (hcv3), ?_⟩
                refine stepM1S rfl rfl (fun K hK => ?_)
                go_wp2
                refine ⟨by rw [HSD.out]; exact (hcv3), ?_⟩
                refine stepM0 rfl rfl (fun K hK => ?_)
                go_simp
                refine hK _ ?_
                clear hK K
                refine stepM0 rfl rfl (fun K hK => ?_)
                go_simp
                refine hK _ ?_
                clear hK K
                refine stepM0 rfl rfl (fun K hK => ?_)
                go_simp
                refine hK _ ?_
                clear hK K
                refine stepM1 rfl rfl (by kernel_rfl) (fun K hK => ?_)
                (go_wp2_with fail; refine Calls.mono (code_any 11 (by omega) (by omega) _) ?_; rintro e w9 ⟨rfl, rfl⟩; go_wp2)
                refine stepM0 rfl rfl (fun K hK => ?_)
                go_simp
                refine hK _ ?_
                clear hK K
                refine stepM0 rfl rfl (fun K hK => ?_)
                go_simp
                refine hK _ ?_
                clear hK K
                refine stepM0 rfl rfl (fun K hK => ?_)
                go_simp
                refine hK _ ?_
                clear hK K
                refine stepM1 rfl rfl (by kernel_rfl) (fun K hK => ?_)
                (go_wp2_with fail; refine Calls.mono (code_any 11 (by omega) (by omega) _) ?_; rintro e w9 ⟨rfl, rfl⟩; go_wp2)
                refine stepM0 rfl rfl (fun K hK => ?_)
                go_simp
                refine hK _ ?_
                clear hK K
                refine stepM0 rfl rfl (fun K hK => ?_)
                go_simp
                refine hK _ ?_
                clear hK K
                refine stepM0 rfl rfl (fun K hK => ?_)
                go_simp
                refine hK _ ?_
                clear hK K
                refine stepM0 rfl rfl (fun K hK => ?_)
                go_simp
                refine hK _ ?_
                clear hK K
                try refine stepMnil0 ?_
                clear HSD SS
                go_wp2_with fail
                go_ret
                exact ⟨rfl, HB8.out⟩
end Go.Proofs.Ytigkcbnlbdiimaa

/- An argument that is a slice of commands: its cells. -/
namespace Go.Proofs.Ytigkcbnlbdiimaa
open Go.RowKit Go.ChangeShapes Go.WideShapes Go.Deep
section
variable {H : Type} {enc : TypeId × Value → H} {w : World} {base : Nat} {spare : Nat → Bool} {held : Bool}
theorem int_of {fuel : Nat} {c : Value} {y : Option (DataW H × List MemPlace)} {n : Nat} (hl : DataW.trod enc Try.prog w base spare held fuel 3 [c] = y) (hy : y.isSome = true) (_h : n = n) : ∃ m, c = .int .i64 m := by
  obtain ⟨x, rfl⟩ := Option.isSome_iff_exists.1 hy
  obtain ⟨m, hm, _⟩ := DataW.trod_int Try.underlying3 hl
  exact ⟨m, by simpa using hm⟩
theorem arr3_of {fuel : Nat} {c0 c1 c2 : Value} {x : DataW H × List MemPlace} (h : DataW.trod enc Try.prog w base spare held fuel 30 [c0, c1, c2] = some x) :
    ∃ a b c, c0 = .int .i64 a ∧ c1 = .int .i64 b ∧ c2 = .int .i64 c := by
  obtain ⟨xs, m, _, _, _, hxl, hi⟩ := DataW.trod_array Try.underlying30 h
  have hC : Try.prog.cellsOf 3 = 1 := by kernel_rfl
  rw [hC] at hi
  have e0 := hi 0 (by omega)
  have e1 := hi 1 (by omega)
  have e2 := hi 2 (by omega)
  simp at e0 e1 e2
  match xs, hxl with
  | [x0, x1, x2], _ =>
    simp at e0 e1 e2
    obtain ⟨a, ha⟩ := int_of e0 rfl (rfl : 0 = 0)
    obtain ⟨b, hb⟩ := int_of e1 rfl (rfl : 0 = 0)
    obtain ⟨c, hc⟩ := int_of e2 rfl (rfl : 0 = 0)
    exact ⟨a, b, c, ha, hb, hc⟩
set_option maxRecDepth 100000 in
theorem cmd_of {fuel : Nat} {cs : List Value} {x : DataW H × List MemPlace} (h : DataW.trod enc Try.prog w base spare held fuel 35 cs = some x) : ∃ c : Cmd, cs = c.row := by
  obtain ⟨xs, n, _, _, hlen, hxl, hf⟩ := DataW.trod_struct Try.underlying35 h
  have hC : Try.prog.cellsOf 35 = 8 := by kernel_rfl
  have hI : Try.prog.cellsOf 3 = 1 := by kernel_rfl
  have hA : Try.prog.cellsOf 30 = 3 := by kernel_rfl
  rw [hC] at hlen
  match cs, hlen with
  | [c0, c1, c2, c3, c4, c5, c6, c7], _ =>
    have e0 := hf 0 _ rfl
    have e1 := hf 1 _ rfl
    have e2 := hf 2 _ rfl
    have e3 := hf 3 _ rfl
    have e4 := hf 4 _ rfl
    have e5 := hf 5 _ rfl
    simp [hI, hA] at e0 e1 e2 e3 e4 e5
    match xs, hxl with
    | [x0, x1, x2, x3, x4, x5], _ =>
      simp at e0 e1 e2 e3 e4 e5
      obtain ⟨a0, rfl⟩ := int_of e0 rfl (rfl : 0 = 0)
      obtain ⟨a1, rfl⟩ := int_of e1 rfl (rfl : 0 = 0)
      obtain ⟨a2, rfl⟩ := int_of e2 rfl (rfl : 0 = 0)
      obtain ⟨a3, rfl⟩ := int_of e3 rfl (rfl : 0 = 0)
      obtain ⟨a4, rfl⟩ := int_of e4 rfl (rfl : 0 = 0)
      obtain ⟨a5, a6, a7, rfl, rfl, rfl⟩ := arr3_of e5
      exact ⟨⟨a0, a1, a2, a3, a4, a5, a6, a7⟩, rfl⟩
/-- The argument. -/
theorem open_cmds {a : Option Addr} {len cap : Nat} {d : DataW H} {p : List MemPlace} (h : DataW.Trod enc Try.prog w base spare held 22 (.slice a len cap) d p) :
    ∃ cs : List Cmd, cs.length = len ∧ (0 < len → ∃ b off, a = some ⟨b, off, none⟩ ∧ b < w.heap.size ∧ ∀ (i : Nat) (c : Cmd), cs[i]? = some c → ∀ j u, c.row[j]? = some u → w.cell? ⟨b, off + i * 8 + j, none⟩ = some u) := by
  obtain ⟨fuel, hf⟩ := h
  rcases open_slice Try.underlying22 hf with ⟨hcs, _⟩ | ⟨x, l, c, m, n, D, Pl, hcs, _, hl, hm, hmm, _, hi⟩
  · simp [Value.cells] at hcs
    obtain ⟨rfl, rfl, rfl⟩ := hcs
    exact ⟨[], rfl, fun h => absurd h (Nat.lt_irrefl 0)⟩
  · simp [Value.cells] at hcs
    obtain ⟨rfl, rfl, rfl⟩ := hcs
    have hml : len ≤ m := by rw [hmm]; split <;> omega
    have hC : Try.prog.cellsOf 35 = 8 := by kernel_rfl
    rw [hC] at hi
    have hone : ∀ i, i < len → ∃ c : Cmd, ∀ j u, c.row[j]? = some u → w.cell? (x.add (i * 8 + j)) = some u := by
      intro i hil
      obtain ⟨cs', hc, ht⟩ := hi i (by omega)
      obtain ⟨c, rfl⟩ := cmd_of ht
      obtain ⟨_, _, hat⟩ := World.cells?_some hc
      refine ⟨c, fun j u hu => ?_⟩
      have hj : j < 8 := (List.getElem?_eq_some_iff.1 hu).1
      rw [← add_add, hat j hj, hu]
    have : Inhabited Cmd := ⟨⟨0, 0, 0, 0, 0, 0, 0, 0⟩⟩
    obtain ⟨f, hfn⟩ := choose_lt hone
    refine ⟨(List.range len).map f, by simp, fun h0 => ?_⟩
    have hc0 := hfn 0 h0 0 _ rfl
    simp [Addr.add] at hc0
    have hspot : x.spot = none := by
      cases hs : x.spot with
      | none => rfl
      | some s => simp [World.cell?, hs] at hc0; split at hc0 <;> simp_all
    have hx : x = ⟨x.block, x.off, none⟩ := by cases x; simp_all
    refine ⟨x.block, x.off, by rw [← hx], World.block_lt_of_cell? w x hc0, fun i c hc j u hu => ?_⟩
    rw [List.getElem?_map] at hc
    cases hr : (List.range len)[i]? with
    | none => rw [hr] at hc; cases hc
    | some i' =>
      have hi' : i' = i ∧ i < len := by
        have := List.getElem?_eq_some_iff.1 hr
        obtain ⟨h1, h2⟩ := this
        simp at h1 h2
        exact ⟨h2.symm, h1⟩
      rw [hr] at hc
      simp at hc
      rw [← hc, hi'.1] at hu
      have h3 := hfn i hi'.2 j u hu
      rw [hx] at h3
      have h4 : (⟨x.block, x.off, none⟩ : Addr).add (i * 8 + j) = ⟨x.block, x.off + i * 8 + j, none⟩ := by
        unfold Addr.add
        split
        · rename_i hz; rw [Nat.add_assoc, hz]; rfl
        · rw [Nat.add_assoc]
      rwa [h4] at h3
end
end Go.Proofs.Ytigkcbnlbdiimaa

/- An argument that is a slice of ints: what it reads as. -/
namespace Go.Proofs.Ytigkcbnlbdiimaa
open Go.RowKit Go.ChangeShapes Go.WideShapes Go.Deep
section
variable {H : Type} {enc : TypeId × Value → H} {w : World} {base : Nat} {spare : Nat → Bool} {held : Bool}
theorem open_ints {a : Option Addr} {len cap : Nat} {d : DataW H} {p : List MemPlace} (h : DataW.Trod enc Try.prog w base spare held 42 (.slice a len cap) d p) :
    ∃ ns : List Int, ns.length = len ∧ Reads w 1 (.slice a len cap) ns.length (ns.map (Value.int .i64)) ∧ len ≤ cap := by
  obtain ⟨fuel, hf⟩ := h
  rcases open_slice Try.underlying42 hf with ⟨hcs, _⟩ | ⟨x, l, c, m, n, D, Pl, hcs, _, hl, hm, hmm, _, hi⟩
  · simp [Value.cells] at hcs
    obtain ⟨rfl, rfl, rfl⟩ := hcs
    exact ⟨[], rfl, ⟨rfl, .inl ⟨rfl, rfl⟩⟩, Nat.le_refl _⟩
  · simp [Value.cells] at hcs
    obtain ⟨rfl, rfl, rfl⟩ := hcs
    have hml : len ≤ m := by rw [hmm]; split <;> omega
    have hC : Try.prog.cellsOf 3 = 1 := by kernel_rfl
    rw [hC] at hi
    have hone : ∀ i, i < len → ∃ c : Int, w.cell? (x.add i) = some (.int .i64 c) := by
      intro i hil
      obtain ⟨cs', hc, ht⟩ := hi i (by omega)
      obtain ⟨hlen, _, hat⟩ := World.cells?_some hc
      match cs', hlen with
      | [c0], _ =>
        obtain ⟨a0, rfl⟩ := int_of ht rfl (rfl : 0 = 0)
        have h0 := hat 0 (by omega)
        rw [Nat.mul_one, show (x.add i).add 0 = x.add i by simp [Addr.add]] at h0
        exact ⟨a0, h0⟩
    obtain ⟨f, hfn⟩ := choose_lt hone
    refine ⟨(List.range len).map f, by simp, ⟨by simp, .inr ⟨x, cap, by simp, by simp; omega, fun j u hu => ?_⟩⟩, hl⟩
    rw [List.map_map, List.getElem?_map] at hu
    cases hr : (List.range len)[j]? with
    | none => rw [hr] at hu; cases hu
    | some i' =>
      have hi' : i' = j ∧ j < len := by
        obtain ⟨h1, h2⟩ := List.getElem?_eq_some_iff.1 hr
        simp at h1 h2
        exact ⟨h2.symm, h1⟩
      rw [hr] at hu
      simp at hu
      rw [← hu, hi'.1]
      exact hfn j hi'.2
end
end Go.Proofs.Ytigkcbnlbdiimaa
