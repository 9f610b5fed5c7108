/- corncribref27.Order: by insertion; what it gives is the sorted one. -/
import Derived.Test.YtigkcbnlbdiimaaPlaceIns
import Derived.Test.YtigkcbnlbdiimaaAppReads
namespace Go.Proofs.Ytigkcbnlbdiimaa
open Go.RowKit
theorem ints_one (l : List Int) : ∀ u ∈ l.map (Value.int .i64), u.oneCell' = true := by
  intro u hu
  obtain ⟨x, _, rfl⟩ := List.mem_map.1 hu
  rfl
theorem insL_at (f : Int → Int) (out : List Int) (x : Int) (j : Nat) (hj : j ≤ out.length) (h1 : ∀ t, t < j → goOn f x (out.getD t 0) = true) (h2 : j = out.length ∨ goOn f x (out.getD j 0) = false) : insL f out x = out.take j ++ x :: out.drop j := by
  have key : ∀ (l : List Int) (j : Nat), j ≤ l.length → (∀ t, t < j → goOn f x (l.getD t 0) = true) → (j = l.length ∨ goOn f x (l.getD j 0) = false) → l.takeWhile (goOn f x) = l.take j ∧ l.dropWhile (goOn f x) = l.drop j := by
    intro l
    induction l with
    | nil => intro j hj _ _; simp at hj; subst hj; simp
    | cons a l ih =>
      intro j hj h1 h2
      cases j with
      | zero =>
        rcases h2 with h2 | h2
        · simp at h2
        · have : goOn f x a = false := by simpa using h2
          simp [List.takeWhile_cons, List.dropWhile_cons, this]
      | succ j =>
        have h0 : goOn f x a = true := by simpa using h1 0 (by omega)
        have := ih j (by simpa using hj) (fun t ht => by simpa using h1 (t + 1) (by omega)) (by simpa using h2)
        simp [List.takeWhile_cons, List.dropWhile_cons, h0, this.1, this.2]
  obtain ⟨e1, e2⟩ := key out j hj h1 h2
  unfold insL
  rw [e1, e2]
theorem reads_pre {w : World} {base g n c j : Nat} {xs : List Value} (h : w.ownsRow base 3 1 (.slice (some ⟨g, 0, none⟩) n c) n xs) (hj : j ≤ n) : Reads w 1 (.slice (some ⟨g, 0, none⟩) j c) j (xs.take j) := by
  have hl := h.1
  have hm : n ≤ maxLen := by
    rcases h.2 with ⟨e, _⟩ | ⟨_, _, _, e, _, _, h1, h2, _⟩
    · cases e
    · simp only [Value.slice.injEq] at e; omega
  refine ⟨by rw [List.length_take]; omega, .inr ⟨_, _, rfl, by omega, fun i u hu => ?_⟩⟩
  have hi : i < j := by
    have := (List.getElem?_eq_some_iff.1 hu).1
    rw [List.length_take] at this; omega
  rw [List.getElem?_take_of_lt hi] at hu
  exact h.cells (g := g) rfl i u hu
theorem reads_suf {w : World} {base g n c j m c' : Nat} {xs : List Value} (h : w.ownsRow base 3 1 (.slice (some ⟨g, 0, none⟩) n c) n xs) (hj : j ≤ n) (hm : m = n - j) : Reads w 1 (.slice (some ⟨g, j, none⟩) m c') m (xs.drop j) := by
  subst hm
  have hl := h.1
  have hm : n ≤ maxLen := by
    rcases h.2 with ⟨e, _⟩ | ⟨_, _, _, e, _, _, h1, h2, _⟩
    · cases e
    · simp only [Value.slice.injEq] at e; omega
  refine ⟨by rw [List.length_drop]; omega, .inr ⟨_, _, rfl, by omega, fun i u hu => ?_⟩⟩
  rw [List.getElem?_drop] at hu
  have h1 := h.cells (g := g) rfl _ u hu
  have e : ∀ n : Nat, (⟨g, 0, none⟩ : Addr).add n = ⟨g, n, none⟩ := fun n => by unfold Addr.add; split <;> simp_all
  have e2 : ∀ n : Nat, (⟨g, j, none⟩ : Addr).add n = ⟨g, j + n, none⟩ := fun n => by unfold Addr.add; split <;> simp_all
  rw [e] at h1
  rw [e2]
  exact h1
theorem reads_unit (w : World) (u : Value) : Reads (w.alloc (.cells #[u] 3)) 1 (.slice (some ⟨w.heap.size, 0, none⟩) 1 1) 1 [u] :=
  ⟨rfl, .inr ⟨_, _, rfl, by unfold maxLen; omega, World.news_of_block (heap_alloc_new w _)⟩⟩
theorem reads_nothing {w : World} {a : Addr} {c : Nat} : Reads w 1 (.slice (some a) 0 c) 0 [] := ⟨rfl, .inr ⟨a, c, rfl, Nat.zero_le _, fun _ _ h => by simp at h⟩⟩
theorem reads_none {w : World} : Reads w 1 (.slice none 0 0) 0 [] := ⟨rfl, .inl ⟨rfl, rfl⟩⟩
theorem goOn_eq (f : Int → Int) (x y : Int) : goOn f x y = !(decide (f x < f y) || (f x == f y && decide (x < y))) := rfl
set_option maxRecDepth 100000 in
set_option maxHeartbeats 8000000 in
theorem rorder_any (base : Nat) (v va : Value) (es : List Ent) (ns : List Int) (w : World) (h : w.ownsRow base 128 6 v es.length (es.flatMap Ent.row)) (hfew : es.length ≤ 4096) (hr : Reads w 1 va ns.length (ns.map (Value.int .i64))) (hn : ns.length ≤ 100) :
    Calls Try.prog 49 #[v, va] w fun e w' => ∃ v', e = .returned v' ∧ w'.ownsRow w.heap.size 3 1 v' ns.length ((sortI (fun k => (loadN es k : Int)) ns).map (Value.int .i64)) ∧ Below w.heap.size w w' := by
  obtain ⟨i0, hi, hz0, hz1, hz2⟩ := info_parts int_info
  have HI := Lib.hid hi
  have HZ0 := Lib.hid hz0
  have HZ1 := Lib.hid hz1
  have HZ2 := Lib.hid hz2
  clear hi hz0 hz1 hz2
  obtain ⟨ao, cap, rfl⟩ := reads_len hr
  have H := Lib.hid h
  have HR := Lib.hid hr
  obtain ⟨a0, cap0, rfl⟩ := ownsRow_len h
  clear h hr
  obtain ⟨f, hf⟩ : ∃ f : Int → Int, f = (fun k => (loadN es k : Int)) := ⟨_, rfl⟩
  rw [← hf, ← refOrd_eq]
  have HF := Lib.hid hf
  clear hf
  go_enter Try.func49, Try.ntmps49
  go_wp2_with fail
  go_loopw [5, 6] (fun out i wr => ∃ (k : Nat) (ov : Value), k ≤ ns.length ∧ i = .int .i64 k ∧ out = ov ∧ wr.ownsRow w.heap.size 3 1 ov k ((refOrd f (ns.take k)).map (Value.int .i64)) ∧ Below w.heap.size w wr) (fun _ i _ => ns.length - (intOf i).toNat)
  case atStart => exact ⟨0, _, Nat.zero_le _, rfl, rfl, World.ownsRow_nil _ _ _ _, Below.refl _ _⟩
  case round =>
    obtain ⟨k, ov, hk, rfl, hov, hown, hbw⟩ := hrel
    have hov' := hov.symm
    clear hov
    subst hov'
    have HO := Lib.hid hown
    have HB := Lib.hid hbw
    have hzr := hbw.size
    obtain ⟨a5, c5, rfl⟩ := ownsRow_len hown
    clear hown hbw
    by_cases hlt : k < ns.length
    · obtain ⟨b, o, cc, e1, hb, hm, hc⟩ := ints_at HR.out (by omega)
      obtain ⟨rfl, -, rfl⟩ := sl_inj e1
      unfold maxLen at hm
      have hbr : b < wr.heap.size := by omega
      have kx0 := (HB.out.cell (p := ⟨b, o + k, none⟩) hb).trans (hc k hlt)
      obtain ⟨x, hx⟩ : ∃ x, ns.getD k 0 = x := ⟨_, rfl⟩
      rw [hx] at kx0
      have HTK := Lib.hid (show ns.take (k + 1) = ns.take k ++ [x] by rw [List.take_succ_eq_append_getElem hlt, ← hx]; simp [hlt])
      clear hc e1 hx
      obtain ⟨out, hout⟩ : ∃ out, out = refOrd f (ns.take k) := ⟨_, rfl⟩
      rw [← hout] at HO
      have HOUT := Lib.hid hout
      have hlen : out.length = k := by have := HO.out.1; simpa using this
      clear hout
      have hk0 : (0 : Int) ≤ (k : Int) := by omega
      have hk1 : (k : Int) < (ns.length : Int) := by omega
      obtain ⟨wo, rfl⟩ : ∃ wo : World, wo = wr := ⟨_, rfl⟩
      have HLEN := Lib.hid hlen
      clear hlen
      go_wp2_with fail
      go_loopw [7] (fun jv wx => ∃ j : Nat, j ≤ k ∧ jv = .int .i64 j ∧ (∀ t, t < j → goOn f x (out.getD t 0) = true) ∧ Below wo.heap.size wo wx) (fun jv _ => k - (intOf jv).toNat)
      case atStart => exact ⟨0, Nat.zero_le _, rfl, fun t ht => absurd ht (by omega), Below.refl _ _⟩
      case round =>
        obtain ⟨j, hj, rfl, hall, hbx⟩ := hrel
        have HALL := Lib.hid hall
        have HBX := Lib.hid hbx
        have hzx := hbx.size
        have kx := (hbx.cell (p := ⟨b, o + k, none⟩) hbr).trans kx0
        clear hall hbx
        by_cases hjk : j < k
        · obtain ⟨y, hy⟩ : ∃ y, out.getD j 0 = y := ⟨_, rfl⟩
          obtain ⟨g, hg⟩ : ∃ g, a5 = some ⟨g, 0, none⟩ := by
            rcases HO.out.2 with ⟨e, h0⟩ | ⟨g, _, _, e, _⟩
            · omega
            · simp only [Value.slice.injEq] at e
              exact ⟨g, e.1⟩
          subst hg
          have hgl := (HO.out.lt g rfl).2
          have ky0 : wo.cell? ⟨g, j, none⟩ = some (.int .i64 y) := by
            have hjl : j < out.length := by have := HLEN.out; omega
            rw [HO.out.cellAt j (by omega), List.getElem?_map, List.getElem?_eq_getElem hjl, ← hy]
            simp [hjl]
          have ky := (HBX.out.cell (p := ⟨g, j, none⟩) hgl).trans ky0
          have HY := Lib.hid hy
          clear hy ky0
          have hj0 : (0 : Int) ≤ (j : Int) := by omega
          have hj1 : (j : Int) < (k : Int) := by omega
          have hgx : g < wr.heap.size := by omega
          have hbx2 : b < wr.heap.size := by omega
          have HYS := Lib.hid (And.intro ky kx)
          clear ky kx
          obtain ⟨ly, hly⟩ : ∃ ly : Nat, loadN es y = ly := ⟨_, rfl⟩
          obtain ⟨lx, hlx⟩ : ∃ lx : Nat, loadN es x = lx := ⟨_, rfl⟩
          have HGO := Lib.hid (show goOn f x (out.getD j 0) = !(decide ((lx : Int) < (ly : Int)) || ((lx : Int) == (ly : Int) && decide (x < y))) by rw [HY.out, goOn_eq, HF.out, ← hly, ← hlx])
          have HLY := Lib.hid hly
          have HLX := Lib.hid hlx
          clear hly hlx
          go_wp2_with fail
          obtain ⟨SS, HSD⟩ : ∃ SS : World → Prop, Hid (SS = fun w' => w'.cell? ⟨g, j, none⟩ = some (.int .i64 y) ∧ w'.cell? ⟨b, o + k, none⟩ = some (.int .i64 x)) := ⟨_, Lib.hid rfl⟩
          refine wp_region_mask0 SS [4, 10] [0, 0, 0, 6, 14, 31, 0, 0, 0, 384, 896, 2047, 4095, 8191] (.op 0 0 (.op 1 0 (.op 2 0 (.op 3 0 (.op 4 2 (.op 6 0 (.op 7 0 (.op 8 0 (.op 9 0 (.op 10 2 (.op 5 1 (.op 11 1 (.op 12 0 (.op 13 0 .nil)))))))))))))) (by kernel_rfl) (by kernel_rfl) rfl (by kernel_rfl) (by kernel_rfl) ?_ ?_
          focus (rw [HSD.out]; exact HYS.out)
          refine stepM0 rfl rfl (fun K hK => ?_)
          go_simp
          refine hK _ ?_
          clear hK K
          refine stepM0 rfl rfl (fun K hK => ?_)
          go_simp
          refine hK _ ?_
          clear hK K
          refine stepM0 rfl rfl (fun K hK => ?_)
          go_simp
          refine hK _ ?_
          clear hK K
          refine stepM0 rfl rfl (fun K hK => ?_)
          go_simp
          refine hK _ ?_
          clear hK K
          refine stepM2 rfl rfl ?_ (fun w1 hS => ?_) (fun K hK => ?_)
          rotate_left
          focus (rw [HSD.out] at hS; obtain ⟨sy, sx⟩ := hS; go_simp; rfl)
          go_simp
          refine hK _ ?_
          clear hK K
          refine stepM0 rfl rfl (fun K hK => ?_)
          go_simp
          refine hK _ ?_
          clear hK K
          refine stepM0 rfl rfl (fun K hK => ?_)
          go_simp
          refine hK _ ?_
          clear hK K
          refine stepM0 rfl rfl (fun K hK => ?_)
          go_simp
          refine hK _ ?_
          clear hK K
          refine stepM0 rfl rfl (fun K hK => ?_)
          go_simp
          refine hK _ ?_
          clear hK K
          refine stepM2 rfl rfl ?_ (fun w1 hS => ?_) (fun K hK => ?_)
          rotate_left
          focus (rw [HSD.out] at hS; obtain ⟨sy, sx⟩ := hS; go_simp; rfl)
          go_simp
          refine hK _ ?_
          clear hK K
          refine stepM1S rfl rfl (fun K hK => ?_)
          (go_wp2_with fail; refine Calls.mono (rload_any base _ es y _ (ownsRow_below (ownsRow_below H.out HB.out) (HBX.out.drew.mono (Nat.le_refl _))) hfew) ?_; rintro e w4 ⟨rfl, hb4⟩; rw [HLY.out]; have HB4 := Lib.hid (show Below wo.heap.size wo w4 from Below.trans HBX.out.drew (hb4.mono hzx)); have HY4 := Lib.hid (show w4.cell? ⟨g, j, none⟩ = some (.int .i64 y) ∧ w4.cell? ⟨b, o + k, none⟩ = some (.int .i64 x) from ⟨(hb4.cell (p := ⟨g, j, none⟩) hgx).trans HYS.out.1, (hb4.cell (p := ⟨b, o + k, none⟩) hbx2).trans HYS.out.2⟩); have hz4 := HB4.out.size; have hz4r := hb4.size; (try simp only [World.size_drew] at hz4r); clear hb4; go_wp2)
          refine ⟨by rw [HSD.out]; exact (HY4.out), ?_⟩
          refine stepM1 rfl rfl (by kernel_rfl) (fun K hK => ?_)
          (go_wp2_with fail; refine Calls.mono (rload_any base _ es x _ (ownsRow_below (ownsRow_below H.out HB.out) HB4.out) hfew) ?_; rintro e w5 ⟨rfl, hb5⟩; rw [HLX.out]; have HB5 := Lib.hid (show Below wo.heap.size wo w5 from HB4.out.trans (hb5.mono hz4)); have HY5 := Lib.hid (show w5.cell? ⟨g, j, none⟩ = some (.int .i64 y) ∧ w5.cell? ⟨b, o + k, none⟩ = some (.int .i64 x) from ⟨(hb5.cell (p := ⟨g, j, none⟩) (show g < w4.heap.size by omega)).trans HY4.out.1, (hb5.cell (p := ⟨b, o + k, none⟩) (show b < w4.heap.size by omega)).trans HY4.out.2⟩); have hz5 := HB5.out.size; clear hb5; go_wp2)
          refine stepM0 rfl rfl (fun K hK => ?_)
          go_simp
          refine hK _ ?_
          clear hK K
          refine stepM0 rfl rfl (fun K hK => ?_)
          go_simp
          refine hK _ ?_
          clear hK K
          try refine stepMnil0 ?_
          clear HSD SS
          go_wp2_with fail
          have hw8 : (lx < ly) ∨ (lx = ly ∧ x < y) ∨ (lx = ly ∧ ¬ x < y) ∨ (ly < lx) := by omega
          obtain ⟨sy, sx⟩ := HY5.out
          rcases hw8 with h8 | ⟨h8, h9⟩ | ⟨h8, h9⟩ | h8
          · have d1 : decide (lx < ly) = true := by simpa using h8
            have HG1 := Lib.hid (show goOn f x (out.getD j 0) = false by rw [HGO.out]; simp [h8])
            clear h8
            go_quiet (fail)
            have hc := owns_cap HO.out
            have hjc0 : (j : Int) ≤ (c5 : Int) := by omega
            have hjc1 : (j : Int) < (c5 : Int) := by omega
            have hjc2 : ¬ j = c5 := by omega
            have hjk : j ≤ k := by omega
            have hkc : (k : Int) ≤ (c5 : Int) := by omega
            have HINS := Lib.hid (insL_at f out x j (by have := HLEN.out; omega) HALL.out (.inr HG1.out))
            have HBE := Lib.hid (show Below wo.heap.size wo (w5.drewN nq) from HB5.out.drewN nq)
            have HKX := Lib.hid (show (w5.drewN nq).cell? ⟨b, o + k, none⟩ = some (.int .i64 x) from HY5.out.2)
            clear sy sx HY5 HB5 HY4 HB4
            generalize w5.drewN nq = wE at *
            have HPRE := Lib.hid (show Reads wE 1 (.slice (some ⟨g, 0, none⟩) j c5) j ((out.take j).map (Value.int .i64)) by rw [List.map_take]; exact reads_pre (ownsRow_below HO.out HBE.out) (by omega))
            have HSUF := Lib.hid (show Reads wE 1 (.slice (some ⟨g, j, none⟩) (k - j) (c5 - j)) (k - j) ((out.drop j).map (Value.int .i64)) by rw [List.map_drop]; exact reads_suf (ownsRow_below HO.out HBE.out) (by omega) rfl)
            clear hc
            have hbE : b < wE.heap.size := by have := HBE.out.size; omega
            go_wp2_with (first
              | (at_builtin; refine wpList_append_reads _ rfl (.tmp 54) (.tmp 57) 42 rfl wE.heap.size 3 i0 (.int .i64 0) 1 8 Try.underlying42 HI.out HZ0.out HZ1.out HZ2.out rfl (by decide) (.slice (some ⟨wE.heap.size, 0, none⟩) 0 0) 0 [] rfl (World.ownsRow_lit wE #[] 0 (Nat.le_refl _) (by unfold maxLen; omega) rfl) (.slice (some ⟨g, 0, none⟩) j c5) j ((out.take j).map (Value.int .i64)) rfl (HPRE.out.below (by repeat (first | (with_reducible exact Below.refl _ _) | (with_reducible refine Below.setCell ?_ ?_ _) | (with_reducible refine Below.alloc ?_ ?_ _) | (with_reducible refine Below.drewN ?_ _) | (with_reducible refine Below.drew ?_) | (with_reducible exact Nat.le_refl _) | (focus (simp only [World.size_alloc, World.size_setCell, World.size_drew, World.size_drewN]; omega)) | omega | exact Nat.le_refl _ | (focus (simp; done)) | (focus (simp; omega))))) (ints_one _) (by unfold maxLen; omega) (by omega) (by simp) ?_; intro v1 w1 ho1 hg1 _; simp only [Nat.zero_add, List.nil_append] at ho1; have HBa := Lib.hid (show Below wE.heap.size wE w1 from Below.grown (Below.alloc (Below.refl _ _) (Nat.le_refl _) _) hg1 (by simp) (fun q hq => by simp [Value.ownBlock] at hq; omega)); have HO1 := Lib.hid ho1; have kx1 := (HBa.out.cell (p := ⟨b, o + k, none⟩) hbE).trans HKX.out; have hz1 := HBa.out.size; clear ho1 hg1)
              | (at_builtin; refine wpList_append_reads _ rfl (.tmp 59) (.tmp 64) 42 rfl wE.heap.size 3 i0 (.int .i64 0) 1 8 Try.underlying42 HI.out HZ0.out HZ1.out HZ2.out rfl (by decide) v1 j ((out.take j).map (Value.int .i64)) rfl (HO1.out.alloc _) (.slice (some ⟨w1.heap.size, 0, none⟩) 1 1) 1 [.int .i64 x] rfl (reads_unit _ _) (by simp [Value.oneCell']) (by unfold maxLen; omega) (by omega) (by simp; omega) ?_; intro v2 w2 ho2 hg2 _; have HBb := Lib.hid (show Below wE.heap.size wE w2 from (HBa.out.alloc hz1 _).grown hg2 (by simp; omega) (fun q hq => (HO1.out.lt q hq).1)); have HO2 := Lib.hid ho2; have hz2 := HBb.out.size; clear ho2 hg2)
              | (at_builtin; refine wpList_append_reads _ rfl (.tmp 66) (.tmp 69) 42 rfl wE.heap.size 3 i0 (.int .i64 0) 1 8 Try.underlying42 HI.out HZ0.out HZ1.out HZ2.out rfl (by decide) v2 (j + 1) ((out.take j).map (Value.int .i64) ++ [.int .i64 x]) rfl HO2.out (.slice (some ⟨g, j, none⟩) (k - j) (c5 - j)) (k - j) ((out.drop j).map (Value.int .i64)) rfl (HSUF.out.below HBb.out) (ints_one _) (by unfold maxLen; omega) (by omega) (by omega) ?_; intro v3 w3 ho3 hg3 _; have HBc := Lib.hid (show Below wE.heap.size wE w3 from HBb.out.grown hg3 (by omega) (fun q hq => (HO2.out.lt q hq).1)); have HO3 := Lib.hid ho3; clear ho3 hg3))
            go_roundw
            case rel =>
              refine ⟨k + 1, v3, by omega, by go_num, rfl, ?_, ?_⟩
              · have h := ownsRow_mono HO3.out (show w.heap.size ≤ wE.heap.size by have := HBE.out.size; omega)
                have e : (refOrd f (ns.take (k + 1))).map (Value.int .i64) = ((out.take j).map (Value.int .i64) ++ [.int .i64 x]) ++ (out.drop j).map (Value.int .i64) := by
                  rw [HTK.out, refOrd_snoc, ← HOUT.out, HINS.out]; simp
                rw [e]
                have e2 : j + 1 + (k - j) = k + 1 := by omega
                rw [e2] at h
                exact h
              · exact (HB.out.trans (HBE.out.mono hzr)).trans (HBc.out.mono (by have := HBE.out.size; omega))
            case measure => simp [intOf]; omega
          · subst h8
            have d1 : decide (lx < lx) = false := by simp
            have d2 : decide (x < y) = true := by simpa using h9
            have HG1 := Lib.hid (show goOn f x (out.getD j 0) = false by rw [HGO.out]; simp [h9])
            clear h9
            go_quiet (fail)
            have hc := owns_cap HO.out
            have hjc0 : (j : Int) ≤ (c5 : Int) := by omega
            have hjc1 : (j : Int) < (c5 : Int) := by omega
            have hjc2 : ¬ j = c5 := by omega
            have hjk : j ≤ k := by omega
            have hkc : (k : Int) ≤ (c5 : Int) := by omega
            have HINS := Lib.hid (insL_at f out x j (by have := HLEN.out; omega) HALL.out (.inr HG1.out))
            have HBE := Lib.hid (show Below wo.heap.size wo (w5.drewN nq) from HB5.out.drewN nq)
            have HKX := Lib.hid (show (w5.drewN nq).cell? ⟨b, o + k, none⟩ = some (.int .i64 x) from HY5.out.2)
            clear sy sx HY5 HB5 HY4 HB4
            generalize w5.drewN nq = wE at *
            have HPRE := Lib.hid (show Reads wE 1 (.slice (some ⟨g, 0, none⟩) j c5) j ((out.take j).map (Value.int .i64)) by rw [List.map_take]; exact reads_pre (ownsRow_below HO.out HBE.out) (by omega))
            have HSUF := Lib.hid (show Reads wE 1 (.slice (some ⟨g, j, none⟩) (k - j) (c5 - j)) (k - j) ((out.drop j).map (Value.int .i64)) by rw [List.map_drop]; exact reads_suf (ownsRow_below HO.out HBE.out) (by omega) rfl)
            clear hc
            have hbE : b < wE.heap.size := by have := HBE.out.size; omega
            go_wp2_with (first
              | (at_builtin; refine wpList_append_reads _ rfl (.tmp 54) (.tmp 57) 42 rfl wE.heap.size 3 i0 (.int .i64 0) 1 8 Try.underlying42 HI.out HZ0.out HZ1.out HZ2.out rfl (by decide) (.slice (some ⟨wE.heap.size, 0, none⟩) 0 0) 0 [] rfl (World.ownsRow_lit wE #[] 0 (Nat.le_refl _) (by unfold maxLen; omega) rfl) (.slice (some ⟨g, 0, none⟩) j c5) j ((out.take j).map (Value.int .i64)) rfl (HPRE.out.below (by repeat (first | (with_reducible exact Below.refl _ _) | (with_reducible refine Below.setCell ?_ ?_ _) | (with_reducible refine Below.alloc ?_ ?_ _) | (with_reducible refine Below.drewN ?_ _) | (with_reducible refine Below.drew ?_) | (with_reducible exact Nat.le_refl _) | (focus (simp only [World.size_alloc, World.size_setCell, World.size_drew, World.size_drewN]; omega)) | omega | exact Nat.le_refl _ | (focus (simp; done)) | (focus (simp; omega))))) (ints_one _) (by unfold maxLen; omega) (by omega) (by simp) ?_; intro v1 w1 ho1 hg1 _; simp only [Nat.zero_add, List.nil_append] at ho1; have HBa := Lib.hid (show Below wE.heap.size wE w1 from Below.grown (Below.alloc (Below.refl _ _) (Nat.le_refl _) _) hg1 (by simp) (fun q hq => by simp [Value.ownBlock] at hq; omega)); have HO1 := Lib.hid ho1; have kx1 := (HBa.out.cell (p := ⟨b, o + k, none⟩) hbE).trans HKX.out; have hz1 := HBa.out.size; clear ho1 hg1)
              | (at_builtin; refine wpList_append_reads _ rfl (.tmp 59) (.tmp 64) 42 rfl wE.heap.size 3 i0 (.int .i64 0) 1 8 Try.underlying42 HI.out HZ0.out HZ1.out HZ2.out rfl (by decide) v1 j ((out.take j).map (Value.int .i64)) rfl (HO1.out.alloc _) (.slice (some ⟨w1.heap.size, 0, none⟩) 1 1) 1 [.int .i64 x] rfl (reads_unit _ _) (by simp [Value.oneCell']) (by unfold maxLen; omega) (by omega) (by simp; omega) ?_; intro v2 w2 ho2 hg2 _; have HBb := Lib.hid (show Below wE.heap.size wE w2 from (HBa.out.alloc hz1 _).grown hg2 (by simp; omega) (fun q hq => (HO1.out.lt q hq).1)); have HO2 := Lib.hid ho2; have hz2 := HBb.out.size; clear ho2 hg2)
              | (at_builtin; refine wpList_append_reads _ rfl (.tmp 66) (.tmp 69) 42 rfl wE.heap.size 3 i0 (.int .i64 0) 1 8 Try.underlying42 HI.out HZ0.out HZ1.out HZ2.out rfl (by decide) v2 (j + 1) ((out.take j).map (Value.int .i64) ++ [.int .i64 x]) rfl HO2.out (.slice (some ⟨g, j, none⟩) (k - j) (c5 - j)) (k - j) ((out.drop j).map (Value.int .i64)) rfl (HSUF.out.below HBb.out) (ints_one _) (by unfold maxLen; omega) (by omega) (by omega) ?_; intro v3 w3 ho3 hg3 _; have HBc := Lib.hid (show Below wE.heap.size wE w3 from HBb.out.grown hg3 (by omega) (fun q hq => (HO2.out.lt q hq).1)); have HO3 := Lib.hid ho3; clear ho3 hg3))
            go_roundw
            case rel =>
              refine ⟨k + 1, v3, by omega, by go_num, rfl, ?_, ?_⟩
              · have h := ownsRow_mono HO3.out (show w.heap.size ≤ wE.heap.size by have := HBE.out.size; omega)
                have e : (refOrd f (ns.take (k + 1))).map (Value.int .i64) = ((out.take j).map (Value.int .i64) ++ [.int .i64 x]) ++ (out.drop j).map (Value.int .i64) := by
                  rw [HTK.out, refOrd_snoc, ← HOUT.out, HINS.out]; simp
                rw [e]
                have e2 : j + 1 + (k - j) = k + 1 := by omega
                rw [e2] at h
                exact h
              · exact (HB.out.trans (HBE.out.mono hzr)).trans (HBc.out.mono (by have := HBE.out.size; omega))
            case measure => simp [intOf]; omega
          · subst h8
            have d1 : decide (lx < lx) = false := by simp
            have d2 : decide (x < y) = false := by simpa using h9
            have HG1 := Lib.hid (show goOn f x (out.getD j 0) = true by rw [HGO.out]; simp [h9])
            clear h9
            go_quiet (fail)
            go_wp2_with fail
            go_roundw
            case rel =>
              refine ⟨j + 1, by omega, by go_num, fun t ht => ?_, HB5.out.drewN _⟩
              by_cases htj : t = j
              · rw [htj]; exact HG1.out
              · exact HALL.out t (by omega)
            case measure => simp [intOf]; omega
          · have d1 : decide (lx < ly) = false := by simp; omega
            have d3 : ((ly : Int) == (lx : Int)) = false := by rw [beq_eq_false_iff_ne]; omega
            have d4 : (ly == lx) = false := by rw [beq_eq_false_iff_ne]; omega
            have d5 : ¬ ly = lx := by omega
            have HG1 := Lib.hid (show goOn f x (out.getD j 0) = true by
              rw [HGO.out]; simp; omega)
            clear h8
            go_quiet (fail)
            go_wp2_with fail
            go_roundw
            case rel =>
              refine ⟨j + 1, by omega, by go_num, fun t ht => ?_, HB5.out.drewN _⟩
              by_cases htj : t = j
              · rw [htj]; exact HG1.out
              · exact HALL.out t (by omega)
            case measure => simp [intOf]; omega
        · have hjk2 : k = j := by omega
          subst hjk2
          have HINS := Lib.hid (insL_at f out x k (by have := HLEN.out; omega) HALL.out (.inl (by have := HLEN.out; omega)))
          have HBE := HBX
          have HKX := Lib.hid kx
          clear kx kx0
          obtain ⟨wE, rfl⟩ : ∃ wE : World, wE = wr := ⟨_, rfl⟩
          have HDR := Lib.hid (show out.drop k = [] from List.drop_of_length_le (by have := HLEN.out; omega))
          have HRO := Lib.hid (ownsRow_below HO.out HBE.out)
          have hsome : (a5 = none ∧ k = 0 ∧ c5 = 0) ∨ ∃ g, a5 = some ⟨g, 0, none⟩ := by
            rcases HO.out.2 with ⟨e, h0⟩ | ⟨g, _, _, e, _⟩
            · simp only [Value.slice.injEq] at e; exact .inl ⟨e.1, h0, e.2.2⟩
            · simp only [Value.slice.injEq] at e; exact .inr ⟨g, e.1⟩
          rcases hsome with ⟨rfl, hk00, rfl⟩ | ⟨g, rfl⟩
          · subst hk00
            have HPRE := Lib.hid (show Reads wE 1 (.slice none 0 0) 0 ((out.take 0).map (Value.int .i64)) from reads_none)
            have HSUF := Lib.hid (show Reads wE 1 (.slice none 0 0) 0 ((out.drop 0).map (Value.int .i64)) by rw [HDR.out]; exact reads_none)
            have hbE : b < wE.heap.size := by have := HBE.out.size; omega
            have kxE := HKX.out
            simp only [Nat.add_zero] at kxE
            go_wp2_with (first
              | (at_builtin; refine wpList_append_reads _ rfl (.tmp 59) (.tmp 64) 42 rfl wE.heap.size 3 i0 (.int .i64 0) 1 8 Try.underlying42 HI.out HZ0.out HZ1.out HZ2.out rfl (by decide) (.slice (some ⟨wE.heap.size, 0, none⟩) 0 0) 0 [] rfl ((World.ownsRow_lit wE #[] 0 (Nat.le_refl _) (by unfold maxLen; omega) rfl).alloc _) (.slice (some ⟨wE.heap.size + 1, 0, none⟩) 1 1) 1 [.int .i64 x] rfl (by have h := reads_unit (wE.alloc (.cells #[] 3)) (.int .i64 x); simp only [World.size_alloc] at h; exact h) (by simp [Value.oneCell']) (by unfold maxLen; omega) (by omega) (by simp; omega) ?_; intro v2 w2 ho2 hg2 _; simp only [Nat.zero_add, List.nil_append] at ho2; have HBb := Lib.hid (show Below wE.heap.size wE w2 from Below.grown (Below.alloc (Below.alloc (Below.refl _ _) (Nat.le_refl _) _) (by simp) _) hg2 (by simp; omega) (fun q hq => by simp [Value.ownBlock] at hq; omega)); have HO2 := Lib.hid ho2; have hz2 := HBb.out.size; clear ho2 hg2)
              | (at_builtin; refine wpList_append_reads _ rfl (.tmp 66) (.tmp 69) 42 rfl wE.heap.size 3 i0 (.int .i64 0) 1 8 Try.underlying42 HI.out HZ0.out HZ1.out HZ2.out rfl (by decide) v2 1 [.int .i64 x] rfl HO2.out (.slice none 0 0) 0 [] rfl reads_none (by simp) (by unfold maxLen; omega) (by omega) (by omega) ?_; intro v3 w3 ho3 hg3 _; simp only [Nat.add_zero, List.append_nil] at ho3; have HBc := Lib.hid (show Below wE.heap.size wE w3 from HBb.out.grown hg3 (by omega) (fun q hq => (HO2.out.lt q hq).1)); have HO3 := Lib.hid ho3; clear ho3 hg3))
            go_roundw
            case rel =>
              refine ⟨0 + 1, v3, by omega, by go_num, rfl, ?_, ?_⟩
              · have h := ownsRow_mono HO3.out (show w.heap.size ≤ wE.heap.size by have := HBE.out.size; omega)
                have e : (refOrd f (ns.take (0 + 1))).map (Value.int .i64) = [.int .i64 x] := by
                  rw [HTK.out, refOrd_snoc, ← HOUT.out, HINS.out, List.take_zero, HDR.out]; simp
                rw [e]
                exact h
              · exact (HB.out.trans (HBE.out.mono hzr)).trans (HBc.out.mono (by have := HBE.out.size; omega))
            case measure => simp [intOf]; omega
          · have hc := owns_cap HO.out
            have HPRE := Lib.hid (show Reads wE 1 (.slice (some ⟨g, 0, none⟩) k c5) k ((out.take k).map (Value.int .i64)) by rw [List.map_take]; exact reads_pre HRO.out (Nat.le_refl _))
            have hkc : (k : Int) ≤ (c5 : Int) := by omega
            by_cases hcc : k = c5
            · subst hcc
              have HSUF := Lib.hid (show Reads wE 1 (.slice (some ⟨g, 0, none⟩) 0 0) 0 ((out.drop k).map (Value.int .i64)) by rw [HDR.out]; exact reads_nothing)
              clear hc
              have hbE : b < wE.heap.size := by have := HBE.out.size; omega
              go_wp2_with (first
                | (at_builtin; refine wpList_append_reads _ rfl (.tmp 54) (.tmp 57) 42 rfl wE.heap.size 3 i0 (.int .i64 0) 1 8 Try.underlying42 HI.out HZ0.out HZ1.out HZ2.out rfl (by decide) (.slice (some ⟨wE.heap.size, 0, none⟩) 0 0) 0 [] rfl (World.ownsRow_lit wE #[] 0 (Nat.le_refl _) (by unfold maxLen; omega) rfl) (.slice (some ⟨g, 0, none⟩) k k) k ((out.take k).map (Value.int .i64)) rfl (HPRE.out.below (by repeat (first | (with_reducible exact Below.refl _ _) | (with_reducible refine Below.setCell ?_ ?_ _) | (with_reducible refine Below.alloc ?_ ?_ _) | (with_reducible refine Below.drewN ?_ _) | (with_reducible refine Below.drew ?_) | (with_reducible exact Nat.le_refl _) | (focus (simp only [World.size_alloc, World.size_setCell, World.size_drew, World.size_drewN]; omega)) | omega | exact Nat.le_refl _ | (focus (simp; done)) | (focus (simp; omega))))) (ints_one _) (by unfold maxLen; omega) (by omega) (by simp) ?_; intro v1 w1 ho1 hg1 _; simp only [Nat.zero_add, List.nil_append] at ho1; have HBa := Lib.hid (show Below wE.heap.size wE w1 from Below.grown (Below.alloc (Below.refl _ _) (Nat.le_refl _) _) hg1 (by simp) (fun q hq => by simp [Value.ownBlock] at hq; omega)); have HO1 := Lib.hid ho1; have kx1 := (HBa.out.cell (p := ⟨b, o + k, none⟩) hbE).trans HKX.out; have hz1 := HBa.out.size; clear ho1 hg1)
                | (at_builtin; refine wpList_append_reads _ rfl (.tmp 59) (.tmp 64) 42 rfl wE.heap.size 3 i0 (.int .i64 0) 1 8 Try.underlying42 HI.out HZ0.out HZ1.out HZ2.out rfl (by decide) v1 k ((out.take k).map (Value.int .i64)) rfl (HO1.out.alloc _) (.slice (some ⟨w1.heap.size, 0, none⟩) 1 1) 1 [.int .i64 x] rfl (reads_unit _ _) (by simp [Value.oneCell']) (by unfold maxLen; omega) (by omega) (by simp; omega) ?_; intro v2 w2 ho2 hg2 _; have HBb := Lib.hid (show Below wE.heap.size wE w2 from (HBa.out.alloc hz1 _).grown hg2 (by simp; omega) (fun q hq => (HO1.out.lt q hq).1)); have HO2 := Lib.hid ho2; have hz2 := HBb.out.size; clear ho2 hg2)
                | (at_builtin; refine wpList_append_reads _ rfl (.tmp 66) (.tmp 69) 42 rfl wE.heap.size 3 i0 (.int .i64 0) 1 8 Try.underlying42 HI.out HZ0.out HZ1.out HZ2.out rfl (by decide) v2 (k + 1) ((out.take k).map (Value.int .i64) ++ [.int .i64 x]) rfl HO2.out (.slice (some ⟨g, 0, none⟩) 0 0) (0) ((out.drop k).map (Value.int .i64)) rfl (HSUF.out.below HBb.out) (ints_one _) (by unfold maxLen; omega) (by omega) (by omega) ?_; intro v3 w3 ho3 hg3 _; have HBc := Lib.hid (show Below wE.heap.size wE w3 from HBb.out.grown hg3 (by omega) (fun q hq => (HO2.out.lt q hq).1)); have HO3 := Lib.hid ho3; clear ho3 hg3))
              go_roundw
              case rel =>
                refine ⟨k + 1, v3, by omega, by go_num, rfl, ?_, ?_⟩
                · have h := ownsRow_mono HO3.out (show w.heap.size ≤ wE.heap.size by have := HBE.out.size; omega)
                  have e : (refOrd f (ns.take (k + 1))).map (Value.int .i64) = ((out.take k).map (Value.int .i64) ++ [.int .i64 x]) ++ (out.drop k).map (Value.int .i64) := by
                    rw [HTK.out, refOrd_snoc, ← HOUT.out, HINS.out]; simp
                  rw [e]
                  have e2 : k + 1 + (0) = k + 1 := by omega
                  rw [e2] at h
                  exact h
                · exact (HB.out.trans (HBE.out.mono hzr)).trans (HBc.out.mono (by have := HBE.out.size; omega))
              case measure => simp [intOf]; omega
            · have hkc2 : (k : Int) < (c5 : Int) := by omega
              have HSUF := Lib.hid (show Reads wE 1 (.slice (some ⟨g, k, none⟩) 0 (c5 - k)) 0 ((out.drop k).map (Value.int .i64)) by rw [HDR.out]; exact reads_nothing)
              clear hc
              have hbE : b < wE.heap.size := by have := HBE.out.size; omega
              go_wp2_with (first
                | (at_builtin; refine wpList_append_reads _ rfl (.tmp 54) (.tmp 57) 42 rfl wE.heap.size 3 i0 (.int .i64 0) 1 8 Try.underlying42 HI.out HZ0.out HZ1.out HZ2.out rfl (by decide) (.slice (some ⟨wE.heap.size, 0, none⟩) 0 0) 0 [] rfl (World.ownsRow_lit wE #[] 0 (Nat.le_refl _) (by unfold maxLen; omega) rfl) (.slice (some ⟨g, 0, none⟩) k c5) k ((out.take k).map (Value.int .i64)) rfl (HPRE.out.below (by repeat (first | (with_reducible exact Below.refl _ _) | (with_reducible refine Below.setCell ?_ ?_ _) | (with_reducible refine Below.alloc ?_ ?_ _) | (with_reducible refine Below.drewN ?_ _) | (with_reducible refine Below.drew ?_) | (with_reducible exact Nat.le_refl _) | (focus (simp only [World.size_alloc, World.size_setCell, World.size_drew, World.size_drewN]; omega)) | omega | exact Nat.le_refl _ | (focus (simp; done)) | (focus (simp; omega))))) (ints_one _) (by unfold maxLen; omega) (by omega) (by simp) ?_; intro v1 w1 ho1 hg1 _; simp only [Nat.zero_add, List.nil_append] at ho1; have HBa := Lib.hid (show Below wE.heap.size wE w1 from Below.grown (Below.alloc (Below.refl _ _) (Nat.le_refl _) _) hg1 (by simp) (fun q hq => by simp [Value.ownBlock] at hq; omega)); have HO1 := Lib.hid ho1; have kx1 := (HBa.out.cell (p := ⟨b, o + k, none⟩) hbE).trans HKX.out; have hz1 := HBa.out.size; clear ho1 hg1)
                | (at_builtin; refine wpList_append_reads _ rfl (.tmp 59) (.tmp 64) 42 rfl wE.heap.size 3 i0 (.int .i64 0) 1 8 Try.underlying42 HI.out HZ0.out HZ1.out HZ2.out rfl (by decide) v1 k ((out.take k).map (Value.int .i64)) rfl (HO1.out.alloc _) (.slice (some ⟨w1.heap.size, 0, none⟩) 1 1) 1 [.int .i64 x] rfl (reads_unit _ _) (by simp [Value.oneCell']) (by unfold maxLen; omega) (by omega) (by simp; omega) ?_; intro v2 w2 ho2 hg2 _; have HBb := Lib.hid (show Below wE.heap.size wE w2 from (HBa.out.alloc hz1 _).grown hg2 (by simp; omega) (fun q hq => (HO1.out.lt q hq).1)); have HO2 := Lib.hid ho2; have hz2 := HBb.out.size; clear ho2 hg2)
                | (at_builtin; refine wpList_append_reads _ rfl (.tmp 66) (.tmp 69) 42 rfl wE.heap.size 3 i0 (.int .i64 0) 1 8 Try.underlying42 HI.out HZ0.out HZ1.out HZ2.out rfl (by decide) v2 (k + 1) ((out.take k).map (Value.int .i64) ++ [.int .i64 x]) rfl HO2.out (.slice (some ⟨g, k, none⟩) 0 (c5 - k)) (0) ((out.drop k).map (Value.int .i64)) rfl (HSUF.out.below HBb.out) (ints_one _) (by unfold maxLen; omega) (by omega) (by omega) ?_; intro v3 w3 ho3 hg3 _; have HBc := Lib.hid (show Below wE.heap.size wE w3 from HBb.out.grown hg3 (by omega) (fun q hq => (HO2.out.lt q hq).1)); have HO3 := Lib.hid ho3; clear ho3 hg3))
              go_roundw
              case rel =>
                refine ⟨k + 1, v3, by omega, by go_num, rfl, ?_, ?_⟩
                · have h := ownsRow_mono HO3.out (show w.heap.size ≤ wE.heap.size by have := HBE.out.size; omega)
                  have e : (refOrd f (ns.take (k + 1))).map (Value.int .i64) = ((out.take k).map (Value.int .i64) ++ [.int .i64 x]) ++ (out.drop k).map (Value.int .i64) := by
                    rw [HTK.out, refOrd_snoc, ← HOUT.out, HINS.out]; simp
                  rw [e]
                  have e2 : k + 1 + (0) = k + 1 := by omega
                  rw [e2] at h
                  exact h
                · exact (HB.out.trans (HBE.out.mono hzr)).trans (HBc.out.mono (by have := HBE.out.size; omega))
              case measure => simp [intOf]; omega
    · have hks : k = ns.length := by omega
      have HKS := Lib.hid (show ns.take k = ns from List.take_of_length_le (by omega))
      go_wp2_with fail
      go_ret
      have h := HO.out
      rw [HKS.out] at h
      subst hks
      exact ⟨.slice a5 ns.length c5, rfl, h, HB.out⟩
end Go.Proofs.Ytigkcbnlbdiimaa
