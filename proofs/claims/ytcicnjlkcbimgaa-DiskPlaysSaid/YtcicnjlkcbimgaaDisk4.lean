/- Package disk: turn; New, Create, Rename, Remove. -/
import Derived.Test.YtcicnjlkcbimgaaDisk3
import Derived.Maps.AppendAt
namespace Go.Proofs.Ytcicnjlkcbimgaa
open Go.RowKit Go.Maps
theorem deedfn_info : (Try.prog.info? 88).map (fun i => (i.zero, i.size, i.bytes)) = some (some .nilFunc, 1, 8) := by kernel_rfl
theorem DiskAt.nowTo {w w' : World} {d : Nat} {F : Nat → Prop} {q : DW} {st : Dk} (h : DiskAt w d F q st) (hk : Keeps (fun k => k = q.bn) w w') {l : Dir} (hn : DirAt w' q.bn q.fb l) : DiskAt w' d F q { st with now := l } :=
  have hh := hits_dir h.now
  ⟨keep_blk hk hh h.blk (by simp [kindO]), hn, h.last.at (hk.block _ h.last.lt fun e => h.ne e.symm), h.ne, h.deeds.hits hk hh (by simp) (by simp) (by simp), h.files.hits hk hh (by simp) (by simp), h.fd, h.fn, h.fl⟩
theorem DiskAt.lastTo {w w' : World} {d : Nat} {F : Nat → Prop} {q : DW} {st : Dk} (h : DiskAt w d F q st) (hk : Keeps (fun k => k = q.bl) w w') {l : Dir} (hn : DirAt w' q.bl q.fb l) : DiskAt w' d F q { st with lasting := l } :=
  have hh := hits_dir h.last
  ⟨keep_blk hk hh h.blk (by simp [kindO]), h.now.at (hk.block _ h.now.lt fun e => h.ne e), hn, h.ne, h.deeds.hits hk hh (by simp) (by simp) (by simp), h.files.hits hk hh (by simp) (by simp), h.fd, h.fn, h.fl⟩
theorem DiskAt.pushTo {w w2 : World} {d : Nat} {F : Nat → Prop} {q : DW} {st : Dk} (h : DiskAt w d F q st) (x : Deed) (v v' : Value) (hv : DeedAt w F q.fb v x)
    (ho : w2.ownsRow 0 88 1 v' (st.deeds.length + 1) (q.ds ++ [v])) (hk : Keeps (fun k => q.vd.ownBlock = some k) w w2) (hloc : ∀ g, v'.ownBlock = some g → F g ∨ w.heap.size ≤ g) :
    DiskAt (w2.setCell ⟨d, 4, none⟩ v') d (fun k => F k ∨ w.heap.size ≤ k) { q with vd := v', ds := q.ds ++ [v] } { st with deeds := st.deeds ++ [x] } := by
  have hh := hits_row h.deeds.row
  have hb := keep_blk hk hh h.blk (by simp [kindO])
  have hk2 : Keeps (fun k => k = d) w2 (w2.setCell ⟨d, 4, none⟩ v') := keeps_set _ _
  have hh2 := hits_one hb
  have hl : q.ds.length = st.deeds.length := by simpa using h.deeds.row.1
  refine ⟨by simpa using blk_put hb 4 v', (h.now.hits hk hh (by simp)).hits hk2 hh2 (by simp [kindO]), (h.last.hits hk hh (by simp)).hits hk2 hh2 (by simp [kindO]), h.ne, ⟨?_, fun i y hy => ?_, fun g hg => hloc g hg⟩, ((h.files.hits hk hh (by simp) (by simp)).hits hk2 hh2 (by simp [kindO]) (by simp [kindO])).mono (fun _ h => .inl h), .inl h.fd, .inl h.fn, .inl h.fl⟩
  · have := keep_row hk2 hh2 ho (by simp [kindO])
    exact ownsRow_cast this (by simp) rfl
  · have hA : ∀ {v : Value} {y : Deed}, DeedAt w F q.fb v y → DeedAt (w2.setCell ⟨d, 4, none⟩ v') (fun k => F k ∨ w.heap.size ≤ k) q.fb v y := fun hd => by
      refine hd.at (fun k hF ⟨a, t, hb, ht⟩ => ?_) (fun _ h => .inl h) (fun _ => rfl)
      have h1 : w2.heap[k]? = some (.cells a t (0, 0)) := keep_blk hk hh hb (by rcases ht with rfl | rfl <;> simp [kindO])
      exact (keep_blk hk2 hh2 h1 (by rcases ht with rfl | rfl <;> simp [kindO])).trans hb.symm
    by_cases hi : i < st.deeds.length
    · rw [List.getElem?_append_left hi] at hy
      obtain ⟨u, hu, hd⟩ := h.deeds.dd i y hy
      exact ⟨u, by show (q.ds ++ [v])[i]? = _; rw [List.getElem?_append_left (by omega)]; exact hu, hA hd⟩
    · have hi' : i = st.deeds.length := by
        have := (List.getElem?_eq_some_iff.1 hy).1
        simp at this
        omega
      subst hi'
      simp at hy
      subst hy
      exact ⟨v, by show (q.ds ++ [v])[st.deeds.length]? = _; rw [← hl]; simp, hA hv⟩
theorem run_callFunc_body {P : Program} {f : FuncId} {fn : Func} (hf : P.funcs[f]? = some fn) (hname : (fn.name == "runtime.NumGoroutine") = false) (hb : fn.body.isNone = false) (args : Array Value) (w : World) :
    (callFunc f args).run P w = .ok (.enter f args) w := by
  have h1 : fn.name ≠ "runtime.NumGoroutine" := by simpa using hname
  cases hc : fn.body with
  | none => rw [hc] at hb; cases hb
  | some c => simp [callFunc, hf, h1, hc]
theorem DeedAt.hits {w w' : World} {F G : Nat → Prop} {n : Nat} {g : Nat → Nat} {v : Value} {x : Deed} (h : DeedAt w F g v x) (hk : Keeps G w w') (hh : Hits w G n) (h2 : 9 + 1 ≠ n) (h3 : 84 + 1 ≠ n) : DeedAt w' F g v x :=
  h.at (fun k _ ⟨a, t, hb, ht⟩ => (keep_blk hk hh hb (by rcases ht with rfl | rfl <;> assumption)).trans hb.symm) (fun _ h => h) (fun _ => rfl)
theorem keeps_append {w w2 : World} {o : Obj} {v : Value} (hg : (w.alloc o).grownBy w2 v.ownBlock) : Keeps (fun k => v.ownBlock = some k) w w2 :=
  ⟨hg.os, hg.tape, hg.output, Nat.le_trans (by simp) hg.size, fun k hk hn => (hg.block k (by simp; omega) (fun e => hn e.symm)).trans (Below.heap_alloc w o k hk)⟩
/-- The deed is done on the names that are now. -/
theorem deed_any (d : Nat) (F : Nat → Prop) (q : DW) (st : Dk) (v : Value) (x : Deed) (b : Nat) (l : Dir) (w : World) (hn : DirAt w b q.fb l) (hl : l.length ≤ 64) (hv : DeedAt w F q.fb v x) :
    ∃ f caps, v = .func (.func f) #[] caps ∧ (∀ as_ w, (callFunc f as_).run Try.prog w = .ok (.enter f as_) w) ∧ Calls Try.prog f (#[.map (some b)] ++ caps) w fun e w' => e = .returned (.tuple #[]) ∧ DirAt w' b q.fb (x.app l) ∧ Keeps (fun k => k = b) w w' := by
  rcases hv with ⟨hk, bf, bt, rfl, _, _, h1, h2⟩ | ⟨hk, bs, bf, bt, rfl, _, _, _, h1, h2, h3⟩ | ⟨hk, bs, rfl, _, h1⟩
  · refine ⟨_, _, rfl, run_callFunc_body Try.func33 (by kernel_rfl) (by kernel_rfl), ?_⟩
    rw [show x.app l = dirPut l x.to x.file from if_pos hk]
    exact create1_any b bf bt x.file q.fb l x.to w hn hl h1 h2
  · refine ⟨_, _, rfl, run_callFunc_body Try.func38 (by kernel_rfl) (by kernel_rfl), ?_⟩
    rw [show x.app l = dirPut (dirDel l x.frm) x.to x.file by unfold Deed.app; rw [if_neg (by omega), if_pos hk]]
    exact rename1_any b bs bf bt x.file q.fb l x.frm x.to w hn hl h1 h2 h3
  · refine ⟨_, _, rfl, run_callFunc_body Try.func56 (by kernel_rfl) (by kernel_rfl), ?_⟩
    rw [show x.app l = dirDel l x.frm by unfold Deed.app; rw [if_neg (by omega), if_neg (by omega)]]
    exact remove1_any b bs q.fb l x.frm w hn h1
set_option maxRecDepth 100000 in
set_option maxHeartbeats 1000000 in
theorem turn_any (d : Nat) (F : Nat → Prop) (q : DW) (st : Dk) (v : Value) (x : Deed) (K : Nat) (w : World) (h : DiskAt w d F q st) (hok : DkOk K st) (hK : K ≤ 1099511627776) (hv : DeedAt w F q.fb v x) :
    Calls Try.prog 32 #[(.pointer (some ⟨d, 0, none⟩)), v] w fun e w' => e = .returned (.tuple #[]) ∧ DiskTo w w' d F (st.turn x) := by
  have H := Lib.hid h
  have HV := Lib.hid hv
  have HOK := Lib.hid hok
  have hnd : st.deeds.length ≤ 1099511627776 := Nat.le_trans hok.nd hK
  obtain ⟨c0, c1, c2, c3, c4, c5, cf⟩ := cells6 h.blk
  obtain ⟨i0, hi, hz0, hz1, hz2⟩ := info_parts deedfn_info
  obtain ⟨f, caps, hvf, hrun, hcall⟩ := deed_any d F q st v x q.bn st.now w h.now hok.lnow hv
  have HI := Lib.hid hi
  have HZ0 := Lib.hid hz0
  have HZ1 := Lib.hid hz1
  have HZ2 := Lib.hid hz2
  have HC := Lib.hid hcall
  have HVF := Lib.hid hvf
  clear h hv hok hi hz0 hz1 hz2 c0 c1 c3 c4 c5 cf hcall
  subst hvf
  go_enter Try.func32, Try.ntmps32
  go_wp2_with fail
  refine HC.out.mono ?_
  rintro e w1 ⟨rfl, hn1, hk1⟩
  have HD1 := Lib.hid (H.out.nowTo hk1 hn1)
  have HK1 := Lib.hid hk1
  obtain ⟨c0, c1, c2', c3, c4, c5, cf⟩ := cells6 HD1.out.blk
  clear hn1 hk1 c0 c1 c2' c3 c5
  have hoc : (Value.func (.func f) #[] caps).oneCell' = true := rfl
  obtain ⟨vd, hvd⟩ : ∃ vd, vd = q.vd := ⟨_, rfl⟩
  rw [← hvd] at c4
  have HVD := Lib.hid hvd
  have HRW := Lib.hid (show w1.ownsRow 0 88 1 vd st.deeds.length q.ds by rw [hvd]; exact HD1.out.deeds.row)
  clear hvd
  go_wp2_with (at_builtin; refine wpList_append_own_at _ rfl _ _ 80 rfl 0 88 i0 .nilFunc 1 8 Try.underlying80 HI.out HZ0.out HZ1.out HZ2.out rfl (by decide) vd st.deeds.length q.ds rfl (HRW.out.alloc _) ⟨w1.heap.size, 0, none⟩ 1 1 [.func (.func f) #[] caps] rfl rfl (cell_one_new _ _ _) (by simpa using hoc) (by unfold maxLen; omega) (by omega) (Nat.zero_le _) ?_; intro v2 w2 hown2 hg2 _ hloc2; obtain ⟨a2, k2, rfl⟩ := ownsRow_len hown2; have hkk := keeps_append hg2; have HO2 := Lib.hid hown2; have HL2 := Lib.hid hloc2; obtain ⟨d0, d1, d2, d3, d4, d5, df⟩ := cells6 (keep_blk hkk (hits_row HRW.out) HD1.out.blk (by simp [kindO])); clear d0 d1 d2 d3 d5; have HKK := Lib.hid hkk; clear hown2 hloc2 hg2 hkk)
  have hloc : ∀ g, (Value.slice a2 (st.deeds.length + 1) k2).ownBlock = some g → F g ∨ w1.heap.size ≤ g := fun g hg => by
    rcases HL2.out with e | e
    · rw [hg, HVD.out] at e
      exact .inl (H.out.deeds.fvd g e.symm)
    · rw [hg] at e
      simp at e
      omega
  have h4 := HD1.out.pushTo x _ _ (HV.out.hits HK1.out (hits_dir H.out.now) (by simp) (by simp)) HO2.out (by rw [← HVD.out]; exact HKK.out) hloc
  have HK4 := Lib.hid (show Keeps F w (w2.setCell ⟨d, 4, none⟩ (.slice a2 (st.deeds.length + 1) k2)) from
    ((HK1.out.mono (G := F) fun _ _ e => e ▸ H.out.fn).trans (HKK.out.mono (G := F) fun k _ e => H.out.deeds.fvd k (by rw [← HVD.out]; exact e)) fun _ _ h => h).setCell _ _ fun _ => H.out.fd)
  have H4 := Lib.hid h4
  have hz1 := HK1.out.size
  clear h4 hloc
  go_wp2_with fail
  refine (did_any d _ _ _ _ H4.out HOK.out.armed.1 HOK.out.armed.2).mono ?_
  rintro e w5 ⟨rfl, h5, hk5⟩
  have H5 := Lib.hid h5
  have HK5 := Lib.hid hk5
  clear h5 hk5
  go_wp2_with fail
  go_end0
  exact ⟨rfl, H5.out.to (HK4.out.trans HK5.out fun _ _ e => e ▸ H.out.fd) (fun k hk => hk.imp id (Nat.le_trans hz1))⟩
end Go.Proofs.Ytcicnjlkcbimgaa
