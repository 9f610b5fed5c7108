/- Package disk: New, Create, Remove, Rename. -/
import Derived.Test.YtcicnjlkcbimgaaDisk4
import Derived.Test.YtcicnjlkcbimgaaDiskNamed
import Derived.Test.YtcicnjlkcbimgaaOrder
namespace Go.Proofs.Ytcicnjlkcbimgaa
open Go.RowKit Go.Maps
theorem wpList_dirlen (w : World) {ops : Array Oper} {rest : List Oper} {o : Oper} {a : Act} {Q : Exit → Act → World → Prop} (hg : o.guard = none) (m : Operand) (hop : o.op = Op.call { callee := Callee.builtin Builtin.len, args := #[m], argTypes := #[79] })
    (b : Nat) (g : Nat → Nat) (l : Dir) (hm : a.eval m = .map (some b)) (h : DirAt w b g l) (hK : wpList Try.prog ops Q rest (a.put o.dst (.int .i64 l.length)) w) : wpList Try.prog ops Q (o :: rest) a w :=
  wpList_len_own w hg m 79 hop 9 84 Try.underlying79 ptrR b l.length (dirD g l) hm h (by rw [dirD_size]; exact hK)
theorem DiskTo.from {w W w' : World} {d : Nat} {F : Nat → Prop} {st : Dk} (h : DiskTo W w' d (fun k => F k ∨ w.heap.size ≤ k) st) (hk : Keeps F w W) : DiskTo w w' d F st := by
  obtain ⟨⟨q, hq⟩, h2⟩ := h
  exact hq.to (hk.trans h2 fun i hi hg => hg.elim id fun e => by omega) fun k hk' => by
    rcases hk'.1 with (h | h) | h
    · exact .inl h
    · exact .inr h
    · exact .inr (Nat.le_trans hk.size h)
def upd {α : Type} (g : Nat → α) (n : Nat) (x : α) (i : Nat) : α := if i = n then x else g i
theorem upd_same {α : Type} (g : Nat → α) (n : Nat) (x : α) : upd g n x n = x := if_pos rfl
theorem upd_lt {α : Type} (g : Nat → α) {n i : Nat} (x : α) (h : i < n) : upd g n x i = g i := if_neg (by omega)
theorem DiskAt.fileTo {w w' : World} {d : Nat} {F : Nat → Prop} {q : DW} {st : Dk} {K : Nat} (h : DiskAt w d F q st) (hok : DkOk K st) (hk : Keeps (fun k => k = d) w w') (nf : Nat) (hnf : w.heap.size ≤ nf)
    (hb : w'.heap[nf]? = some (.cells #[.int .i64 st.files.length, .slice none 0 0, .int .i64 0] 86 (0, 0)))
    (hd : w'.heap[d]? = some (.cells #[.int .i64 st.cap, .int .i64 ((st.files.length : Int) + 1), .map (some q.bn), .map (some q.bl), q.vd, .int .i64 st.armed] 82 (0, 0))) :
    DiskAt w' d (fun k => F k ∨ w.heap.size ≤ k) { q with fb := upd q.fb st.files.length nf, fv := upd q.fv st.files.length (.slice none 0 0) } { st with files := st.files ++ [⟨[], 0⟩] } := by
  have hh := hits_one h.blk
  have hn : ∀ i, i < st.files.length → q.fb i ≠ nf := fun i hi e => by
    have := blk_lt (h.file hi).1
    omega
  refine ⟨by rw [hd]; simp, (h.now.hits hk hh (by simp [kindO])).congr fun p hp => (upd_lt _ _ (hok.fnow p hp)).symm, (h.last.hits hk hh (by simp [kindO])).congr fun p hp => (upd_lt _ _ (hok.flast p hp)).symm, h.ne,
    (h.deeds.hits hk hh (by simp [kindO]) (by simp [kindO]) (by simp [kindO])).mono (fun _ h => .inl h) fun x hx hk => (upd_lt _ _ (hok.fdeed x hx hk)).symm, ?_, .inl h.fd, .inl h.fn, .inl h.fl⟩
  have hf := h.files.hits hk hh (by simp [kindO]) (by simp [kindO])
  refine ⟨fun i f hi => ?_, fun i j hi hj e => ?_, fun i j g hi hj e1 e2 => ?_, fun i hi => ?_⟩
  · by_cases hl : i < st.files.length
    · show w'.heap[upd q.fb st.files.length nf i]? = _ ∧ _
      rw [List.getElem?_append_left hl] at hi
      simp only [upd_lt _ _ hl]
      exact hf.fi i f hi
    · obtain rfl : i = st.files.length := by
        have := (List.getElem?_eq_some_iff.1 hi).1
        simp at this
        omega
      simp at hi
      subst hi
      simp only [upd_same]
      exact ⟨hb, FRow.nil _⟩
  · simp only [List.length_append, List.length_cons, List.length_nil] at hi hj
    simp only [upd] at e
    split at e <;> split at e
    · omega
    · exact absurd e.symm (hn j (by omega))
    · exact absurd e (hn i (by omega))
    · exact hf.inj i j (by omega) (by omega) e
  · simp only [List.length_append, List.length_cons, List.length_nil] at hi hj
    simp only [upd] at e1 e2
    split at e1
    · cases e1
    · split at e2
      · cases e2
      · exact hf.apart i j g (by omega) (by omega) e1 e2
  · simp only [List.length_append, List.length_cons, List.length_nil] at hi
    by_cases hl : i < st.files.length
    · simp only [upd_lt _ _ hl]
      exact ⟨.inl (hf.ff i hl).1, fun g hg => .inl ((hf.ff i hl).2 g hg)⟩
    · obtain rfl : i = st.files.length := by omega
      simp only [upd_same]
      exact ⟨.inr hnf, fun g hg => by cases hg⟩
set_option maxRecDepth 100000 in
theorem new_any (c : Nat) (hc : c ≤ 1073741824) (w : World) :
    Calls Try.prog 9 #[.int .i64 c] w fun e w' => e = .returned (.tuple #[(.pointer (some ⟨w.heap.size + 2, 0, none⟩)), .nilIface]) ∧ DiskIs w' (w.heap.size + 2) (fun k => w.heap.size ≤ k) (Dk.new c) ∧ Below w.heap.size w w' := by
  have h1 : decide ((1073741824 : Int) < (c : Int)) = false := by simp; omega
  have hmm := @run_makeMap Try.prog
  go_enter Try.func9, Try.ntmps9
  go_wp2
  go_ret2
  refine ⟨rfl, ⟨⟨w.heap.size, w.heap.size + 1, .slice none 0 0, [], fun _ => 0, fun _ => .slice none 0 0⟩, ?_⟩, (by repeat (first | (with_reducible exact Below.refl _ _) | (with_reducible refine Below.setCell ?_ ?_ _) | (with_reducible refine Below.alloc ?_ ?_ _) | (with_reducible refine Below.drewN ?_ _) | (with_reducible refine Below.drew ?_) | (with_reducible exact Nat.le_refl _) | (focus (simp only [World.size_alloc, World.size_setCell, World.size_drew, World.size_drewN]; omega)) | omega | exact Nat.le_refl _ | (focus (simp; done)) | (focus (simp; omega))))⟩
  refine ⟨blk_new _ (by simp), (((World.ownsMap_made _ _ _ _).alloc _).alloc _), ((show DirAt _ (w.heap.size + 1) (fun _ => 0) [] from by have := World.ownsMap_made (w.alloc (.map #[] 0)) Try.prog 9 ptrR; rw [World.size_alloc] at this; exact this).alloc _), by simp, ⟨World.ownsRow_nil _ _ _ _, fun i x hx => by simp [Dk.new] at hx, fun g hg => by cases hg⟩,
    ⟨fun i f hi => by simp [Dk.new] at hi, fun i j hi => by simp [Dk.new] at hi, fun i j g hi => by simp [Dk.new] at hi, fun i hi => by simp [Dk.new] at hi⟩, by show w.heap.size ≤ _; omega, Nat.le_refl _, Nat.le_succ _⟩
theorem new_bad (c : Int) (hc : c < 0 ∨ 1073741824 < c) (w : World) :
    Calls Try.prog 9 #[.int .i64 c] w fun e w' => e = .returned (.tuple #[.pointer none, errV 1]) ∧ w = w' := by
  by_cases h0 : c < 0
  · go_enter Try.func9, Try.ntmps9
    go_wp2
    go_ret2
    exact ⟨rfl, rfl⟩
  · have h1 : 1073741824 < c := by omega
    have h2 : decide (c < 0) = false := by simp; omega
    clear hc
    go_enter Try.func9, Try.ntmps9
    go_wp2
    go_ret2
    exact ⟨rfl, rfl⟩
set_option maxRecDepth 100000 in
set_option maxHeartbeats 1000000 in
theorem create_any (d : Nat) (F : Nat → Prop) (q : DW) (st : Dk) (s : Nm) (K : Nat) (w : World) (h : DiskAt w d F q st) (hok : DkOk K st) (hK : K < 1099511627776) (hs : s.length ≤ maxLen) :
    Calls Try.prog 10 #[(.pointer (some ⟨d, 0, none⟩)), .string ⟨s.toArray⟩] w fun e w' => e = .returned (errV (st.create s).1) ∧ DiskTo w w' d F (st.create s).2 := by
  have hb0 : Below w.heap.size w (w.alloc (.cells #[.string ⟨s.toArray⟩] 9)) := (by repeat (first | (with_reducible exact Below.refl _ _) | (with_reducible refine Below.setCell ?_ ?_ _) | (with_reducible refine Below.alloc ?_ ?_ _) | (with_reducible refine Below.drewN ?_ _) | (with_reducible refine Below.drew ?_) | (with_reducible exact Nat.le_refl _) | (focus (simp only [World.size_alloc, World.size_setCell, World.size_drew, World.size_drewN]; omega)) | omega | exact Nat.le_refl _ | (focus (simp; done)) | (focus (simp; omega))))
  have H0 := Lib.hid (h.below hb0)
  have HT := Lib.hid (h.later hb0)
  have HTD := Lib.hid (h.later hb0.drew)
  have HOK := Lib.hid hok
  have hdl := blk_lt h.blk
  obtain ⟨c0, c1, c2, c3, c4, c5, cf⟩ := cells6 h.blk
  clear c0 c3 c4 c5 hok
  by_cases ha : st.armed = 0
  · have e : st.create s = (12, st) := by unfold Dk.create; rw [if_pos ha]
    rw [e]
    have HA := Lib.hid ha
    clear e ha h hb0 c1 c2 cf
    go_enter Try.func10, Try.ntmps10
    go_wp2_with fail
    refine (up_any d F q st _ H0.out).mono ?_
    rintro e w' ⟨rfl, rfl⟩
    rw [if_pos HA.out, errV_ne (by omega)]
    go_wp2
    go_ret
    exact ⟨rfl, HT.out⟩
  cases hnb : namedB s with
  | false =>
    have e : st.create s = (1, st) := by unfold Dk.create; rw [if_neg ha, if_pos hnb]
    rw [e]
    have HA := Lib.hid ha
    have HN := Lib.hid hnb
    clear e ha h hb0 c1 c2 cf hnb
    go_enter Try.func10, Try.ntmps10
    go_wp2_with fail
    refine (up_any d F q st _ H0.out).mono ?_
    rintro e w' ⟨rfl, rfl⟩
    rw [if_neg HA.out, errV_zero]
    go_wp2_with fail
    refine (named_any s _ hs).mono ?_
    rintro e w' ⟨rfl, rfl⟩
    rw [HN.out]
    go_wp2
    go_ret
    exact ⟨rfl, HT.out⟩
  | true =>
    cases hg : dirGet st.now s with
    | some i =>
      have e : st.create s = (8, st) := by unfold Dk.create; rw [if_neg ha, if_neg (by rw [hnb]; simp), if_pos (by rw [hg]; rfl)]
      rw [e]
      have HA := Lib.hid ha
      have HN := Lib.hid hnb
      have hrun := run_name_some (w := (w.alloc (.cells #[.string ⟨s.toArray⟩] 9)).drew) H0.out.now hs hg
      clear e ha h hb0 hnb hg
      go_enter Try.func10, Try.ntmps10
      go_wp2_with fail
      refine (up_any d F q st _ H0.out).mono ?_
      rintro e w' ⟨rfl, rfl⟩
      rw [if_neg HA.out, errV_zero]
      go_wp2_with fail
      refine (named_any s _ hs).mono ?_
      rintro e w' ⟨rfl, rfl⟩
      rw [HN.out]
      go_wp2_with fail
      refine wp_region_now0 [3, 4, 5] [(0, 0), (1, 0), (2, 0), (3, 2), (4, 2), (5, 2), (6, 0), (7, 0)] (by kernel_rfl) (by kernel_rfl) rfl (by kernel_rfl) ?_
      refine stepE0 rfl rfl (fun K hK => ?_)
      go_simp
      refine hK _ ?_
      clear hK K
      refine stepE0 rfl rfl (fun K hK => ?_)
      go_simp
      refine hK _ ?_
      clear hK K
      refine stepE0 rfl rfl (fun K hK => ?_)
      go_simp
      refine hK _ ?_
      clear hK K
      refine stepE2 rfl rfl ?_ (fun w1 hS => ?_) (fun K hK => ?_)
      rotate_left
      focus (obtain rfl : w1 = _ := hS; go_simp; rfl)
      go_simp
      refine hK _ ?_
      clear hK K
      refine stepE2 rfl rfl ?_ (fun w1 hS => ?_) (fun K hK => ?_)
      rotate_left
      focus (obtain rfl : w1 = _ := hS; go_simp; rfl)
      go_simp
      refine hK _ ?_
      clear hK K
      refine stepE2 rfl rfl ?_ (fun w1 hS => ?_) (fun K hK => ?_)
      rotate_left
      focus (obtain rfl : w1 = _ := hS; go_simp; rfl)
      go_simp
      refine hK _ ?_
      clear hK K
      refine stepE0 rfl rfl (fun K hK => ?_)
      go_simp
      refine hK _ ?_
      clear hK K
      refine stepE0 rfl rfl (fun K hK => ?_)
      go_simp
      refine hK _ ?_
      clear hK K
      try refine stepEnil0 ?_
      go_wp2_with fail
      go_ret
      exact ⟨rfl, HTD.out⟩
    | none =>
      have hrun := run_name_none (w := (w.alloc (.cells #[.string ⟨s.toArray⟩] 9)).drew) H0.out.now hs hg
      by_cases h64 : 64 ≤ st.now.length
      · have e : st.create s = (11, st) := by unfold Dk.create; rw [if_neg ha, if_neg (by rw [hnb]; simp), if_neg (by rw [hg]; simp), if_pos h64]
        rw [e]
        have HA := Lib.hid ha
        have HN := Lib.hid hnb
        clear e ha h hb0 hnb hg
        go_enter Try.func10, Try.ntmps10
        go_wp2_with fail
        refine (up_any d F q st _ H0.out).mono ?_
        rintro e w' ⟨rfl, rfl⟩
        rw [if_neg HA.out, errV_zero]
        go_wp2_with fail
        refine (named_any s _ hs).mono ?_
        rintro e w' ⟨rfl, rfl⟩
        rw [HN.out]
        go_wp2_with fail
        refine wp_region_now0 [3, 4, 5] [(0, 0), (1, 0), (2, 0), (3, 2), (4, 2), (5, 2), (6, 0), (7, 0)] (by kernel_rfl) (by kernel_rfl) rfl (by kernel_rfl) ?_
        refine stepE0 rfl rfl (fun K hK => ?_)
        go_simp
        refine hK _ ?_
        clear hK K
        refine stepE0 rfl rfl (fun K hK => ?_)
        go_simp
        refine hK _ ?_
        clear hK K
        refine stepE0 rfl rfl (fun K hK => ?_)
        go_simp
        refine hK _ ?_
        clear hK K
        refine stepE2 rfl rfl ?_ (fun w1 hS => ?_) (fun K hK => ?_)
        rotate_left
        focus (obtain rfl : w1 = _ := hS; go_simp; rfl)
        go_simp
        refine hK _ ?_
        clear hK K
        refine stepE2 rfl rfl ?_ (fun w1 hS => ?_) (fun K hK => ?_)
        rotate_left
        focus (obtain rfl : w1 = _ := hS; go_simp; rfl)
        go_simp
        refine hK _ ?_
        clear hK K
        refine stepE2 rfl rfl ?_ (fun w1 hS => ?_) (fun K hK => ?_)
        rotate_left
        focus (obtain rfl : w1 = _ := hS; go_simp; rfl)
        go_simp
        refine hK _ ?_
        clear hK K
        refine stepE0 rfl rfl (fun K hK => ?_)
        go_simp
        refine hK _ ?_
        clear hK K
        refine stepE0 rfl rfl (fun K hK => ?_)
        go_simp
        refine hK _ ?_
        clear hK K
        try refine stepEnil0 ?_
        go_wp2_with (at_len; refine wpList_dirlen _ rfl _ rfl q.bn q.fb st.now rfl (show DirAt (w.alloc (.cells #[.string ⟨s.toArray⟩] 9)).drew q.bn q.fb st.now from H0.out.now) ?_)
        go_ret
        exact ⟨rfl, HTD.out⟩
      · have e : st.create s = (0, ({ st with files := st.files ++ [⟨[], 0⟩] } : Dk).turn ⟨0, [], s, st.files.length⟩) := by unfold Dk.create; rw [if_neg ha, if_neg (by rw [hnb]; simp), if_neg (by rw [hg]; simp), if_neg h64]
        rw [e]
        have h64' : decide ((64 : Int) ≤ (st.now.length : Int)) = false := by simp; omega
        have HA := Lib.hid ha
        have HN := Lib.hid hnb
        have HB := Lib.hid h.blk
        have H := Lib.hid h
        have hnf : st.files.length < 1099511627776 := Nat.lt_of_le_of_lt HOK.out.nf hK
        have hdl1 : d < w.heap.size + 1 := by omega
        have hdl2 : d < w.heap.size + 2 := by omega
        clear e ha h hb0 hnb hg h64
        go_enter Try.func10, Try.ntmps10
        go_wp2_with fail
        refine (up_any d F q st _ H0.out).mono ?_
        rintro e w' ⟨rfl, rfl⟩
        rw [if_neg HA.out, errV_zero]
        go_wp2_with fail
        refine (named_any s _ hs).mono ?_
        rintro e w' ⟨rfl, rfl⟩
        rw [HN.out]
        go_wp2_with fail
        refine wp_region_now0 [3, 4, 5] [(0, 0), (1, 0), (2, 0), (3, 2), (4, 2), (5, 2), (6, 0), (7, 0)] (by kernel_rfl) (by kernel_rfl) rfl (by kernel_rfl) ?_
        refine stepE0 rfl rfl (fun K hK => ?_)
        go_simp
        refine hK _ ?_
        clear hK K
        refine stepE0 rfl rfl (fun K hK => ?_)
        go_simp
        refine hK _ ?_
        clear hK K
        refine stepE0 rfl rfl (fun K hK => ?_)
        go_simp
        refine hK _ ?_
        clear hK K
        refine stepE2 rfl rfl ?_ (fun w1 hS => ?_) (fun K hK => ?_)
        rotate_left
        focus (obtain rfl : w1 = _ := hS; go_simp; rfl)
        go_simp
        refine hK _ ?_
        clear hK K
        refine stepE2 rfl rfl ?_ (fun w1 hS => ?_) (fun K hK => ?_)
        rotate_left
        focus (obtain rfl : w1 = _ := hS; go_simp; rfl)
        go_simp
        refine hK _ ?_
        clear hK K
        refine stepE2 rfl rfl ?_ (fun w1 hS => ?_) (fun K hK => ?_)
        rotate_left
        focus (obtain rfl : w1 = _ := hS; go_simp; rfl)
        go_simp
        refine hK _ ?_
        clear hK K
        refine stepE0 rfl rfl (fun K hK => ?_)
        go_simp
        refine hK _ ?_
        clear hK K
        refine stepE0 rfl rfl (fun K hK => ?_)
        go_simp
        refine hK _ ?_
        clear hK K
        try refine stepEnil0 ?_
        go_wp2_with (at_len; refine wpList_dirlen _ rfl _ rfl q.bn q.fb st.now rfl (show DirAt (w.alloc (.cells #[.string ⟨s.toArray⟩] 9)).drew q.bn q.fb st.now from H0.out.now) ?_)
        refine (turn_any d (fun k => F k ∨ w.heap.size ≤ k) { q with fb := upd q.fb st.files.length (w.heap.size + 1), fv := upd q.fv st.files.length (.slice none 0 0) } { st with files := st.files ++ [⟨[], 0⟩] } _ ⟨0, [], s, st.files.length⟩ (K + 1) _ ?_ HOK.out.newFile (by omega) ?_).mono ?_
        · exact H.out.fileTo HOK.out (((((keeps_set (b := d) 1 _).alloc _).alloc _).alloc _).drew) (w.heap.size + 1) (by omega) (blk_alloc (blk_new _ (by simp [World.setCell])) _) (blk_alloc (blk_alloc (blk_alloc (by simpa using blk_put HB.out 1 _) _) _) _)
        · refine .inl ⟨rfl, w.heap.size + 1 + 1, w.heap.size, rfl, .inr (by omega), .inr (Nat.le_refl _), ?_, ?_, hs⟩
          · show _ = some (Obj.cells #[.pointer (some ⟨upd q.fb st.files.length (w.heap.size + 1) st.files.length, 0, none⟩)] _ _)
            rw [upd_same]
            exact blk_new _ (by simp [World.setCell])
          · exact blk_alloc (blk_alloc (blk_new _ (by simp [World.setCell])) _) _
        · rintro e w5 ⟨rfl, h5⟩
          have H5 := Lib.hid (h5.from (((((((Keeps.refl F w).setCell ⟨d, 1, none⟩ _ fun _ => H.out.fd).alloc _).alloc _).alloc _).drew)))
          clear h5
          go_wp2_with fail
          go_ret
          exact ⟨rfl, H5.out⟩
end Go.Proofs.Ytcicnjlkcbimgaa
