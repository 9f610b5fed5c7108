/- Package twin: Rise. (Written by wip/gentwin.py.) -/
import Derived.Test.YtigkcbnlbdiimaaTwin5
namespace Go.Proofs.Ytigkcbnlbdiimaa
open Go.RowKit
/-- slices.Clone at []corncrib/dirs.Cmd,corncrib/dirs.Cmd. -/
theorem clone_info_Cmd : (Try.prog.info? 32).map (fun i => (i.zero, i.size, i.bytes)) = some (some (.agg #[.int .i64 0, .int .i64 0, .int .i64 0, .int .i64 0, .int .i64 0, .int .i64 0, .int .i64 0, .int .i64 0]), 8, 64) := by kernel_rfl
set_option maxRecDepth 100000 in
set_option maxHeartbeats 1000000 in
theorem clone_Cmd (v : Value) (n : Nat) (xs : List Value) (w : World) (h : Reads w 8 v n xs) (h1 : ∀ u ∈ xs, u.oneCell' = true) (hb : n * 64 ≤ 140737488355328) :
    Calls Try.prog 65 #[v] w (CloneOut w 32 8 v n xs) := by
  obtain ⟨i0, hi, hz0, hz1, hz2⟩ := info_parts clone_info_Cmd
  obtain ⟨hlen, ⟨rfl, rfl⟩ | ⟨a, c, rfl, hm, hcell⟩⟩ := h
  · have hx : xs = [] := List.eq_nil_of_length_eq_zero (by simpa using hlen)
    subst hx
    clear hi hz0 hz1 hz2 hlen h1 hb
    have hne := fun (wx : World) => Lib.run_eql_slice_nil (P := Try.prog) wx 46 32 none 0 0 0 0 Try.underlying46
    go_enter Try.func65, Try.ntmps65
    go_wp2
    go_ret
    exact ⟨_, rfl, World.ownsRow_nil _ _ _ _, Iff.rfl, Below.refl _ _⟩
  · have hne := fun (wx : World) => Lib.run_eql_slice_nil (P := Try.prog) wx 46 32 (some a) n c 0 0 Try.underlying46
    have HI := Lib.hid hi
    have HZ0 := Lib.hid hz0
    have HZ1 := Lib.hid hz1
    have HZ2 := Lib.hid hz2
    have HL := Lib.hid hlen
    have HC := Lib.hid hcell
    have H1 := Lib.hid h1
    clear hi hz0 hz1 hz2 hlen hcell h1
    go_enter Try.func65, Try.ntmps65
    go_wp2_with (at_builtin; refine wpList_append_own _ rfl _ _ 46 rfl w.heap.size 32 i0 (.agg #[.int .i64 0, .int .i64 0, .int .i64 0, .int .i64 0, .int .i64 0, .int .i64 0, .int .i64 0, .int .i64 0]) 8 64 Try.underlying46 HI.out HZ0.out HZ1.out HZ2.out rfl (by decide) (.slice (some ⟨w.heap.size, 0, none⟩) 0 0) 0 [] rfl (World.ownsRow_lit w #[] 0 (Nat.le_refl _) (by unfold maxLen; omega) rfl) a n c xs rfl HL.out (fun j u hu => cell_later ((Below.refl _ _).alloc (Nat.le_refl _) _) (HC.out j u hu)) H1.out (by omega) (by omega) (by simp) ?_; intro v' w1 hown' hgrow hnil)
    go_ret
    exact ⟨_, rfl, by simpa using hown', by simpa using hnil, (((Below.refl _ _).alloc (Nat.le_refl _) _).grown hgrow (by simp) (by simp [Value.ownBlock]))⟩
theorem Cmd.one (cs : List Cmd) : ∀ u ∈ cs.flatMap Cmd.row, u.oneCell' = true := by
  intro u hu
  obtain ⟨x, _, hx⟩ := List.mem_flatMap.1 hu
  simp only [Cmd.row, List.mem_cons, List.not_mem_nil, or_false] at hx
  rcases hx with rfl | rfl | rfl | rfl | rfl | rfl | rfl | rfl <;> rfl
theorem PairTo.new_b {w w1 w' : World} {base bp : Nat} {va vb v' : Value} {p p' : Pr} (h : PairAt w base bp va vb p) (hp : Pst (fun k => k = bp) w w' bp (p'.cells va v'))
    (hr : w1.ownsRow w.heap.size 32 8 v' p'.b.log.length (p'.b.log.flatMap Cmd.row)) (hk : Keeps (fun k => k = bp) w1 w') (hb : p'.a.log = p.a.log) : PairTo w base bp va vb p' w' := by
  have hlt := h.lt
  have hlow := h.low
  have hgb : ∀ g, v'.ownBlock = some g → w.heap.size ≤ g := fun g hg => (hr.lt g hg).1
  have hr' := ownsRow_mono (ownsRow_keeps hr hk (fun k e e' => by have := hgb k e; omega)) (show base ≤ w.heap.size by omega)
  have ho : w'.ownsRow base 32 8 va p'.a.log.length (p'.a.log.flatMap Cmd.row) := by
    rw [hb]
    exact ownsRow_keeps h.ra hp.keep (fun k e e' => h.na (by rw [e, e']))
  refine ⟨va, v', ⟨hp.blk, ho, hr', h.low, h.na, fun e => by have := hgb _ e; omega, ?_⟩, ?_, hp.keep.mono (fun k _ e => .inl e)⟩
  · intro g e e'
    have h1 := hgb g e'
    have h2 := (h.ra.lt g e).2
    omega
  · intro k hk
    rcases hk with e | e | e
    · exact .inl (.inl e)
    · exact .inl (.inr (.inl e))
    · exact .inr (hgb k e)
set_option maxRecDepth 100000 in
set_option maxHeartbeats 4000000 in
theorem rise_lead_false (base bp : Nat) (va vb : Value) (ua ub : Bool) (la lb : List Cmd) (tm st : Int) (w : World) (h : PairAt w base bp va vb ⟨⟨ua, la⟩, ⟨ub, lb⟩, false, tm, st⟩) (hN : la.length ≤ 100000) (hup : ua = false → ub = false) (ht0 : 0 ≤ tm) (ht1 : tm ≤ 1000000) :
    Calls Try.prog 34 #[.pointer (some ⟨bp, 0, none⟩), .int .i64 0] w
      fun e w' => e = .returned (errV (riseK ⟨⟨ua, la⟩, ⟨ub, lb⟩, false, tm, st⟩ false)) ∧ PairTo w base bp va vb (riseP ⟨⟨ua, la⟩, ⟨ub, lb⟩, false, tm, st⟩ false) w' := by
  have H := Lib.hid h
  have hlt := h.lt
  obtain ⟨k0, k1, k2, k3, k4, k5, k6, kf⟩ := h.cell
  simp only [Pr.a, Pr.b, Pr.ld, if_true, if_false, Bool.false_eq_true] at k0 k1 k2 k3 k4 k5 k6
  obtain ⟨aA, cA, rfl⟩ := ownsRow_len h.ra
  obtain ⟨aB, cB, rfl⟩ := ownsRow_len h.rb
  simp only [Pr.a, Pr.b, if_true, if_false, Bool.false_eq_true] at k1 k3
  clear h
  have hw1 : IntKind.i64.wrap 1 = 1 := IntWalk.i64_in _ (by omega)
  have hw0 : IntKind.i64.wrap 0 = 0 := IntWalk.i64_in _ (by omega)
  cases ua
  · have hub := hup rfl
    subst hub
    clear hup
    go_enter Try.func34, Try.ntmps34
    go_wp2_with fail
    refine (right_ok bp false _).mono ?_
    rintro e w1 ⟨rfl, rfl⟩
    go_wp2_with fail
    refine Calls.mono (settle_any bp st _ _ ?_ ?_) ?_
    · go_simp
    · go_simp
    rintro e w3 ⟨rfl, rfl⟩
    go_wp2_with fail
    go_ret
    refine ⟨by simp [riseK, errV], ?_⟩
    have e1 : riseP ⟨⟨false, la⟩, ⟨false, lb⟩, false, tm, st⟩ false = ⟨⟨true, la⟩, ⟨false, lb⟩, false, tm + 1, max st la.length⟩ := by simp [riseP]
    rw [e1]
    refine PairTo.of_pst H.out (Pst.cast ((((Pst.refl (F := fun k => k = bp) H.out.blk).setCell (i := 0) (v := .bool true) rfl).setCell (i := 5) (v := .int .i64 (tm + 1)) rfl).setCell (i := 6) (v := .int .i64 (max st la.length)) rfl) ?_) rfl rfl
    simp [Pr.cells, Pr.a, Pr.b, Pr.ld]
  · clear hup
    go_enter Try.func34, Try.ntmps34
    go_wp2_with fail
    refine (right_ok bp false _).mono ?_
    rintro e w1 ⟨rfl, rfl⟩
    go_wp2_with fail
    go_ret
    refine ⟨by simp [riseK]; exact errV_14.symm, ?_⟩
    have e1 : riseP ⟨⟨true, la⟩, ⟨ub, lb⟩, false, tm, st⟩ false = ⟨⟨true, la⟩, ⟨ub, lb⟩, false, tm, st⟩ := by simp [riseP]
    rw [e1]
    exact PairTo.same H.out (by repeat (first | (with_reducible exact Below.refl _ _) | (with_reducible refine Below.setCell ?_ ?_ _) | (with_reducible refine Below.alloc ?_ ?_ _) | (with_reducible refine Below.drewN ?_ _) | (with_reducible refine Below.drew ?_) | (with_reducible exact Nat.le_refl _) | (focus (simp only [World.size_alloc, World.size_setCell, World.size_drew, World.size_drewN]; omega)) | omega | exact Nat.le_refl _ | (focus (simp; done)) | (focus (simp; omega))))
set_option maxRecDepth 100000 in
set_option maxHeartbeats 4000000 in
theorem rise_other_false (base bp : Nat) (va vb : Value) (ua ub : Bool) (la lb : List Cmd) (tm st : Int) (w : World) (h : PairAt w base bp va vb ⟨⟨ua, la⟩, ⟨ub, lb⟩, false, tm, st⟩) (hN : la.length ≤ 100000) :
    Calls Try.prog 34 #[.pointer (some ⟨bp, 0, none⟩), .int .i64 1] w
      fun e w' => e = .returned (errV (riseK ⟨⟨ua, la⟩, ⟨ub, lb⟩, false, tm, st⟩ (!false))) ∧ PairTo w base bp va vb (riseP ⟨⟨ua, la⟩, ⟨ub, lb⟩, false, tm, st⟩ (!false)) w' := by
  have H := Lib.hid h
  have hlt := h.lt
  obtain ⟨k0, k1, k2, k3, k4, k5, k6, kf⟩ := h.cell
  simp only [Pr.a, Pr.b, Pr.ld, if_true, if_false, Bool.false_eq_true] at k0 k1 k2 k3 k4 k5 k6
  obtain ⟨aA, cA, rfl⟩ := ownsRow_len h.ra
  obtain ⟨aB, cB, rfl⟩ := ownsRow_len h.rb
  simp only [Pr.a, Pr.b, if_true, if_false, Bool.false_eq_true] at k1 k3
  clear h
  have hw1 : IntKind.i64.wrap 1 = 1 := IntWalk.i64_in _ (by omega)
  have hw0 : IntKind.i64.wrap 0 = 0 := IntWalk.i64_in _ (by omega)
  cases ub
  · cases ua
    · go_enter Try.func34, Try.ntmps34
      go_wp2_with fail
      refine (right_ok bp (!false) _).mono ?_
      rintro e w1 ⟨rfl, rfl⟩
      go_wp2_with fail
      go_ret
      refine ⟨by simp [riseK]; exact errV_12.symm, ?_⟩
      have e1 : riseP ⟨⟨false, la⟩, ⟨false, lb⟩, false, tm, st⟩ (!false) = ⟨⟨false, la⟩, ⟨false, lb⟩, false, tm, st⟩ := by simp [riseP]
      rw [e1]
      exact PairTo.same H.out (by repeat (first | (with_reducible exact Below.refl _ _) | (with_reducible refine Below.setCell ?_ ?_ _) | (with_reducible refine Below.alloc ?_ ?_ _) | (with_reducible refine Below.drewN ?_ _) | (with_reducible refine Below.drew ?_) | (with_reducible exact Nat.le_refl _) | (focus (simp only [World.size_alloc, World.size_setCell, World.size_drew, World.size_drewN]; omega)) | omega | exact Nat.le_refl _ | (focus (simp; done)) | (focus (simp; omega))))
    · have HRL := Lib.hid (show w.ownsRow base 32 8 (.slice aA la.length cA) la.length (la.flatMap Cmd.row) from H.out.ra)
      go_enter Try.func34, Try.ntmps34
      go_wp2_with fail
      refine (right_ok bp (!false) _).mono ?_
      rintro e w1 ⟨rfl, rfl⟩
      go_wp2_with fail
      obtain ⟨SS, HSD⟩ : ∃ SS : World → Prop, Hid (SS = fun w' => w'.cell? ⟨bp, 1, none⟩ = some (.slice aA la.length cA)) := ⟨_, Lib.hid rfl⟩
      refine wp_region_order0 SS [6] [(0, 0), (1, 0), (2, 0), (9, 0), (10, 0), (3, 1), (4, 0), (5, 0), (6, 2), (7, 1), (8, 0), (11, 0), (12, 1)] (by kernel_rfl) (by kernel_rfl) rfl (by kernel_rfl) ?_ ?_
      focus (rw [HSD.out]; go_simp)
      refine stepE0 rfl rfl (fun K hK => ?_)
      go_simp
      refine hK _ ?_
      clear hK K
      refine stepE0 rfl rfl (fun K hK => ?_)
      go_simp
      refine hK _ ?_
      clear hK K
      refine stepE0 rfl rfl (fun K hK => ?_)
      go_simp
      refine hK _ ?_
      clear hK K
      refine stepE0 rfl rfl (fun K hK => ?_)
      go_simp
      refine hK _ ?_
      clear hK K
      refine stepE0 rfl rfl (fun K hK => ?_)
      go_simp
      refine hK _ ?_
      clear hK K
      refine stepE1S rfl rfl (fun K hK => ?_)
      (go_wp2_with fail; refine Calls.mono (leader_0 bp _ ?_) ?_; (focus (go_simp)); rintro e w2 ⟨rfl, rfl⟩; go_wp2)
      refine ⟨by rw [HSD.out]; exact (by show World.cell? _ _ = some _; go_simp), ?_⟩
      refine stepE0 rfl rfl (fun K hK => ?_)
      go_simp
      refine hK _ ?_
      clear hK K
      refine stepE0 rfl rfl (fun K hK => ?_)
      go_simp
      refine hK _ ?_
      clear hK K
      refine stepE2 rfl rfl ?_ (fun w1 hS => ?_) (fun K hK => ?_)
      rotate_left
      focus (rw [HSD.out] at hS; have s0 : w1.cell? _ = some _ := hS; go_simp; rfl)
      go_simp
      refine hK _ ?_
      clear hK K
      refine stepE1 rfl rfl (by kernel_rfl) (fun K hK => ?_)
      (go_wp2_with fail; refine Calls.mono (clone_Cmd (.slice aA la.length cA) la.length (la.flatMap Cmd.row) _ ((reads_of_owns HRL.out).below (by repeat (first | (with_reducible exact Below.refl _ _) | (with_reducible refine Below.setCell ?_ ?_ _) | (with_reducible refine Below.alloc ?_ ?_ _) | (with_reducible refine Below.drewN ?_ _) | (with_reducible refine Below.drew ?_) | (with_reducible exact Nat.le_refl _) | (focus (simp only [World.size_alloc, World.size_setCell, World.size_drew, World.size_drewN]; omega)) | omega | exact Nat.le_refl _ | (focus (simp; done)) | (focus (simp; omega))))) (Cmd.one la) (by omega)) ?_; rintro e w5 ⟨v5, rfl, ho5, _, hb5⟩; obtain ⟨a5, c5, rfl⟩ := ownsRow_len ho5; have hz5 := hb5.size; have kx0 : w5.cell? ⟨bp, 2, none⟩ = some (.bool false) := (hb5.cell (p := ⟨bp, 2, none⟩) (by simp; omega)).trans (by go_simp); have kx1 : w5.cell? ⟨bp, 3, none⟩ = some (.slice aB lb.length cB) := (hb5.cell (p := ⟨bp, 3, none⟩) (by simp; omega)).trans (by go_simp); have kfx : ∀ o, w5.frozen? ⟨bp, o, none⟩ = false := (fun o => (hb5.frozen (p := ⟨bp, o, none⟩) (by simp; omega)).trans (by go_simp)); have HB5 := Lib.hid (show Below w.heap.size w w5 from Below.trans (B := w.heap.size) (a := w) (by repeat (first | (with_reducible exact Below.refl _ _) | (with_reducible refine Below.setCell ?_ ?_ _) | (with_reducible refine Below.alloc ?_ ?_ _) | (with_reducible refine Below.drewN ?_ _) | (with_reducible refine Below.drew ?_) | (with_reducible exact Nat.le_refl _) | (focus (simp only [World.size_alloc, World.size_setCell, World.size_drew, World.size_drewN]; omega)) | omega | exact Nat.le_refl _ | (focus (simp; done)) | (focus (simp; omega)))) (hb5.mono (by simp))); have HO5 := Lib.hid (show w5.ownsRow w.heap.size 32 8 (.slice a5 la.length c5) la.length (la.flatMap Cmd.row) from (by simpa using ho5)); clear ho5 hb5; go_wp2)
      refine stepE0 rfl rfl (fun K hK => ?_)
      go_simp
      refine hK _ ?_
      clear hK K
      refine stepE0 rfl rfl (fun K hK => ?_)
      go_simp
      refine hK _ ?_
      clear hK K
      refine stepE1 rfl rfl (by kernel_rfl) (fun K hK => ?_)
      go_wp2
      try refine stepEnil0 ?_
      clear HSD SS
      go_wp2_with fail
      go_ret
      refine ⟨by simp [riseK, errV], ?_⟩
      have e1 : riseP ⟨⟨true, la⟩, ⟨false, lb⟩, false, tm, st⟩ (!false) = ⟨⟨true, la⟩, ⟨true, la⟩, false, tm, st⟩ := by simp [riseP]
      rw [e1]
      refine PairTo.new_b (w1 := w5) (v' := .slice a5 la.length c5) H.out (Pst.cast ((((Pst.refl (F := fun k => k = bp) H.out.blk).below HB5.out).setCell (i := 2) (v := .bool true) rfl).setCell (i := 3) (v := .slice a5 la.length c5) rfl) ?_) HO5.out (((Keeps.refl (fun k => k = bp) w5).setCell _ _ (fun _ => rfl)).setCell _ _ (fun _ => rfl)) rfl
      simp [Pr.cells, Pr.a, Pr.b, Pr.ld]
  · go_enter Try.func34, Try.ntmps34
    go_wp2_with fail
    refine (right_ok bp (!false) _).mono ?_
    rintro e w1 ⟨rfl, rfl⟩
    go_wp2_with fail
    go_ret
    refine ⟨by simp [riseK]; exact errV_14.symm, ?_⟩
    have e1 : riseP ⟨⟨ua, la⟩, ⟨true, lb⟩, false, tm, st⟩ (!false) = ⟨⟨ua, la⟩, ⟨true, lb⟩, false, tm, st⟩ := by simp [riseP]
    rw [e1]
    exact PairTo.same H.out (by repeat (first | (with_reducible exact Below.refl _ _) | (with_reducible refine Below.setCell ?_ ?_ _) | (with_reducible refine Below.alloc ?_ ?_ _) | (with_reducible refine Below.drewN ?_ _) | (with_reducible refine Below.drew ?_) | (with_reducible exact Nat.le_refl _) | (focus (simp only [World.size_alloc, World.size_setCell, World.size_drew, World.size_drewN]; omega)) | omega | exact Nat.le_refl _ | (focus (simp; done)) | (focus (simp; omega))))
theorem PairTo.new_a {w w1 w' : World} {base bp : Nat} {va vb v' : Value} {p p' : Pr} (h : PairAt w base bp va vb p) (hp : Pst (fun k => k = bp) w w' bp (p'.cells v' vb))
    (hr : w1.ownsRow w.heap.size 32 8 v' p'.a.log.length (p'.a.log.flatMap Cmd.row)) (hk : Keeps (fun k => k = bp) w1 w') (hb : p'.b.log = p.b.log) : PairTo w base bp va vb p' w' := by
  have hlt := h.lt
  have hlow := h.low
  have hgb : ∀ g, v'.ownBlock = some g → w.heap.size ≤ g := fun g hg => (hr.lt g hg).1
  have hr' := ownsRow_mono (ownsRow_keeps hr hk (fun k e e' => by have := hgb k e; omega)) (show base ≤ w.heap.size by omega)
  have ho : w'.ownsRow base 32 8 vb p'.b.log.length (p'.b.log.flatMap Cmd.row) := by
    rw [hb]
    exact ownsRow_keeps h.rb hp.keep (fun k e e' => h.nb (by rw [e, e']))
  refine ⟨v', vb, ⟨hp.blk, hr', ho, h.low, fun e => by have := hgb _ e; omega, h.nb, ?_⟩, ?_, hp.keep.mono (fun k _ e => .inl e)⟩
  · intro g e e'
    have h1 := hgb g e
    have h2 := (h.rb.lt g e').2
    omega
  · intro k hk
    rcases hk with e | e | e
    · exact .inl (.inl e)
    · exact .inr (hgb k e)
    · exact .inl (.inr (.inr e))
set_option maxRecDepth 100000 in
set_option maxHeartbeats 4000000 in
theorem rise_lead_true (base bp : Nat) (va vb : Value) (ua ub : Bool) (la lb : List Cmd) (tm st : Int) (w : World) (h : PairAt w base bp va vb ⟨⟨ua, la⟩, ⟨ub, lb⟩, true, tm, st⟩) (hN : la.length ≤ 100000) (hup : ua = false → ub = false) (ht0 : 0 ≤ tm) (ht1 : tm ≤ 1000000) :
    Calls Try.prog 34 #[.pointer (some ⟨bp, 0, none⟩), .int .i64 1] w
      fun e w' => e = .returned (errV (riseK ⟨⟨ua, la⟩, ⟨ub, lb⟩, true, tm, st⟩ true)) ∧ PairTo w base bp va vb (riseP ⟨⟨ua, la⟩, ⟨ub, lb⟩, true, tm, st⟩ true) w' := by
  have H := Lib.hid h
  have hlt := h.lt
  obtain ⟨k0, k1, k2, k3, k4, k5, k6, kf⟩ := h.cell
  simp only [Pr.a, Pr.b, Pr.ld, if_true, if_false, Bool.false_eq_true] at k0 k1 k2 k3 k4 k5 k6
  obtain ⟨aA, cA, rfl⟩ := ownsRow_len h.ra
  obtain ⟨aB, cB, rfl⟩ := ownsRow_len h.rb
  simp only [Pr.a, Pr.b, if_true, if_false, Bool.false_eq_true] at k1 k3
  clear h
  have hw1 : IntKind.i64.wrap 1 = 1 := IntWalk.i64_in _ (by omega)
  have hw0 : IntKind.i64.wrap 0 = 0 := IntWalk.i64_in _ (by omega)
  cases ua
  · have hub := hup rfl
    subst hub
    clear hup
    go_enter Try.func34, Try.ntmps34
    go_wp2_with fail
    refine (right_ok bp true _).mono ?_
    rintro e w1 ⟨rfl, rfl⟩
    go_wp2_with fail
    refine Calls.mono (settle_any bp st _ _ ?_ ?_) ?_
    · go_simp
    · go_simp
    rintro e w3 ⟨rfl, rfl⟩
    go_wp2_with fail
    go_ret
    refine ⟨by simp [riseK, errV], ?_⟩
    have e1 : riseP ⟨⟨false, la⟩, ⟨false, lb⟩, true, tm, st⟩ true = ⟨⟨true, la⟩, ⟨false, lb⟩, true, tm + 1, max st la.length⟩ := by simp [riseP]
    rw [e1]
    refine PairTo.of_pst H.out (Pst.cast ((((Pst.refl (F := fun k => k = bp) H.out.blk).setCell (i := 2) (v := .bool true) rfl).setCell (i := 5) (v := .int .i64 (tm + 1)) rfl).setCell (i := 6) (v := .int .i64 (max st la.length)) rfl) ?_) rfl rfl
    simp [Pr.cells, Pr.a, Pr.b, Pr.ld]
  · clear hup
    go_enter Try.func34, Try.ntmps34
    go_wp2_with fail
    refine (right_ok bp true _).mono ?_
    rintro e w1 ⟨rfl, rfl⟩
    go_wp2_with fail
    go_ret
    refine ⟨by simp [riseK]; exact errV_14.symm, ?_⟩
    have e1 : riseP ⟨⟨true, la⟩, ⟨ub, lb⟩, true, tm, st⟩ true = ⟨⟨true, la⟩, ⟨ub, lb⟩, true, tm, st⟩ := by simp [riseP]
    rw [e1]
    exact PairTo.same H.out (by repeat (first | (with_reducible exact Below.refl _ _) | (with_reducible refine Below.setCell ?_ ?_ _) | (with_reducible refine Below.alloc ?_ ?_ _) | (with_reducible refine Below.drewN ?_ _) | (with_reducible refine Below.drew ?_) | (with_reducible exact Nat.le_refl _) | (focus (simp only [World.size_alloc, World.size_setCell, World.size_drew, World.size_drewN]; omega)) | omega | exact Nat.le_refl _ | (focus (simp; done)) | (focus (simp; omega))))
set_option maxRecDepth 100000 in
set_option maxHeartbeats 4000000 in
theorem rise_other_true (base bp : Nat) (va vb : Value) (ua ub : Bool) (la lb : List Cmd) (tm st : Int) (w : World) (h : PairAt w base bp va vb ⟨⟨ua, la⟩, ⟨ub, lb⟩, true, tm, st⟩) (hN : la.length ≤ 100000) :
    Calls Try.prog 34 #[.pointer (some ⟨bp, 0, none⟩), .int .i64 0] w
      fun e w' => e = .returned (errV (riseK ⟨⟨ua, la⟩, ⟨ub, lb⟩, true, tm, st⟩ (!true))) ∧ PairTo w base bp va vb (riseP ⟨⟨ua, la⟩, ⟨ub, lb⟩, true, tm, st⟩ (!true)) w' := by
  have H := Lib.hid h
  have hlt := h.lt
  obtain ⟨k0, k1, k2, k3, k4, k5, k6, kf⟩ := h.cell
  simp only [Pr.a, Pr.b, Pr.ld, if_true, if_false, Bool.false_eq_true] at k0 k1 k2 k3 k4 k5 k6
  obtain ⟨aA, cA, rfl⟩ := ownsRow_len h.ra
  obtain ⟨aB, cB, rfl⟩ := ownsRow_len h.rb
  simp only [Pr.a, Pr.b, if_true, if_false, Bool.false_eq_true] at k1 k3
  clear h
  have hw1 : IntKind.i64.wrap 1 = 1 := IntWalk.i64_in _ (by omega)
  have hw0 : IntKind.i64.wrap 0 = 0 := IntWalk.i64_in _ (by omega)
  cases ub
  · cases ua
    · go_enter Try.func34, Try.ntmps34
      go_wp2_with fail
      refine (right_ok bp (!true) _).mono ?_
      rintro e w1 ⟨rfl, rfl⟩
      go_wp2_with fail
      go_ret
      refine ⟨by simp [riseK]; exact errV_12.symm, ?_⟩
      have e1 : riseP ⟨⟨false, la⟩, ⟨false, lb⟩, true, tm, st⟩ (!true) = ⟨⟨false, la⟩, ⟨false, lb⟩, true, tm, st⟩ := by simp [riseP]
      rw [e1]
      exact PairTo.same H.out (by repeat (first | (with_reducible exact Below.refl _ _) | (with_reducible refine Below.setCell ?_ ?_ _) | (with_reducible refine Below.alloc ?_ ?_ _) | (with_reducible refine Below.drewN ?_ _) | (with_reducible refine Below.drew ?_) | (with_reducible exact Nat.le_refl _) | (focus (simp only [World.size_alloc, World.size_setCell, World.size_drew, World.size_drewN]; omega)) | omega | exact Nat.le_refl _ | (focus (simp; done)) | (focus (simp; omega))))
    · have HRL := Lib.hid (show w.ownsRow base 32 8 (.slice aB la.length cB) la.length (la.flatMap Cmd.row) from H.out.rb)
      go_enter Try.func34, Try.ntmps34
      go_wp2_with fail
      refine (right_ok bp (!true) _).mono ?_
      rintro e w1 ⟨rfl, rfl⟩
      go_wp2_with fail
      obtain ⟨SS, HSD⟩ : ∃ SS : World → Prop, Hid (SS = fun w' => w'.cell? ⟨bp, 3, none⟩ = some (.slice aB la.length cB)) := ⟨_, Lib.hid rfl⟩
      refine wp_region_order0 SS [6] [(0, 0), (1, 0), (2, 0), (9, 0), (10, 0), (3, 1), (4, 0), (5, 0), (6, 2), (7, 1), (8, 0), (11, 0), (12, 1)] (by kernel_rfl) (by kernel_rfl) rfl (by kernel_rfl) ?_ ?_
      focus (rw [HSD.out]; go_simp)
      refine stepE0 rfl rfl (fun K hK => ?_)
      go_simp
      refine hK _ ?_
      clear hK K
      refine stepE0 rfl rfl (fun K hK => ?_)
      go_simp
      refine hK _ ?_
      clear hK K
      refine stepE0 rfl rfl (fun K hK => ?_)
      go_simp
      refine hK _ ?_
      clear hK K
      refine stepE0 rfl rfl (fun K hK => ?_)
      go_simp
      refine hK _ ?_
      clear hK K
      refine stepE0 rfl rfl (fun K hK => ?_)
      go_simp
      refine hK _ ?_
      clear hK K
      refine stepE1S rfl rfl (fun K hK => ?_)
      (go_wp2_with fail; refine Calls.mono (leader_1 bp _ ?_) ?_; (focus (go_simp)); rintro e w2 ⟨rfl, rfl⟩; go_wp2)
      refine ⟨by rw [HSD.out]; exact (by show World.cell? _ _ = some _; go_simp), ?_⟩
      refine stepE0 rfl rfl (fun K hK => ?_)
      go_simp
      refine hK _ ?_
      clear hK K
      refine stepE0 rfl rfl (fun K hK => ?_)
      go_simp
      refine hK _ ?_
      clear hK K
      refine stepE2 rfl rfl ?_ (fun w1 hS => ?_) (fun K hK => ?_)
      rotate_left
      focus (rw [HSD.out] at hS; have s0 : w1.cell? _ = some _ := hS; go_simp; rfl)
      go_simp
      refine hK _ ?_
      clear hK K
      refine stepE1 rfl rfl (by kernel_rfl) (fun K hK => ?_)
      (go_wp2_with fail; refine Calls.mono (clone_Cmd (.slice aB la.length cB) la.length (la.flatMap Cmd.row) _ ((reads_of_owns HRL.out).below (by repeat (first | (with_reducible exact Below.refl _ _) | (with_reducible refine Below.setCell ?_ ?_ _) | (with_reducible refine Below.alloc ?_ ?_ _) | (with_reducible refine Below.drewN ?_ _) | (with_reducible refine Below.drew ?_) | (with_reducible exact Nat.le_refl _) | (focus (simp only [World.size_alloc, World.size_setCell, World.size_drew, World.size_drewN]; omega)) | omega | exact Nat.le_refl _ | (focus (simp; done)) | (focus (simp; omega))))) (Cmd.one la) (by omega)) ?_; rintro e w5 ⟨v5, rfl, ho5, _, hb5⟩; obtain ⟨a5, c5, rfl⟩ := ownsRow_len ho5; have hz5 := hb5.size; have kx0 : w5.cell? ⟨bp, 0, none⟩ = some (.bool false) := (hb5.cell (p := ⟨bp, 0, none⟩) (by simp; omega)).trans (by go_simp); have kx1 : w5.cell? ⟨bp, 1, none⟩ = some (.slice aA lb.length cA) := (hb5.cell (p := ⟨bp, 1, none⟩) (by simp; omega)).trans (by go_simp); have kfx : ∀ o, w5.frozen? ⟨bp, o, none⟩ = false := (fun o => (hb5.frozen (p := ⟨bp, o, none⟩) (by simp; omega)).trans (by go_simp)); have HB5 := Lib.hid (show Below w.heap.size w w5 from Below.trans (B := w.heap.size) (a := w) (by repeat (first | (with_reducible exact Below.refl _ _) | (with_reducible refine Below.setCell ?_ ?_ _) | (with_reducible refine Below.alloc ?_ ?_ _) | (with_reducible refine Below.drewN ?_ _) | (with_reducible refine Below.drew ?_) | (with_reducible exact Nat.le_refl _) | (focus (simp only [World.size_alloc, World.size_setCell, World.size_drew, World.size_drewN]; omega)) | omega | exact Nat.le_refl _ | (focus (simp; done)) | (focus (simp; omega)))) (hb5.mono (by simp))); have HO5 := Lib.hid (show w5.ownsRow w.heap.size 32 8 (.slice a5 la.length c5) la.length (la.flatMap Cmd.row) from (by simpa using ho5)); clear ho5 hb5; go_wp2)
      refine stepE0 rfl rfl (fun K hK => ?_)
      go_simp
      refine hK _ ?_
      clear hK K
      refine stepE0 rfl rfl (fun K hK => ?_)
      go_simp
      refine hK _ ?_
      clear hK K
      refine stepE1 rfl rfl (by kernel_rfl) (fun K hK => ?_)
      go_wp2
      try refine stepEnil0 ?_
      clear HSD SS
      go_wp2_with fail
      go_ret
      refine ⟨by simp [riseK, errV], ?_⟩
      have e1 : riseP ⟨⟨true, la⟩, ⟨false, lb⟩, true, tm, st⟩ (!true) = ⟨⟨true, la⟩, ⟨true, la⟩, true, tm, st⟩ := by simp [riseP]
      rw [e1]
      refine PairTo.new_a (w1 := w5) (v' := .slice a5 la.length c5) H.out (Pst.cast ((((Pst.refl (F := fun k => k = bp) H.out.blk).below HB5.out).setCell (i := 0) (v := .bool true) rfl).setCell (i := 1) (v := .slice a5 la.length c5) rfl) ?_) HO5.out (((Keeps.refl (fun k => k = bp) w5).setCell _ _ (fun _ => rfl)).setCell _ _ (fun _ => rfl)) rfl
      simp [Pr.cells, Pr.a, Pr.b, Pr.ld]
  · go_enter Try.func34, Try.ntmps34
    go_wp2_with fail
    refine (right_ok bp (!true) _).mono ?_
    rintro e w1 ⟨rfl, rfl⟩
    go_wp2_with fail
    go_ret
    refine ⟨by simp [riseK]; exact errV_14.symm, ?_⟩
    have e1 : riseP ⟨⟨ua, la⟩, ⟨true, lb⟩, true, tm, st⟩ (!true) = ⟨⟨ua, la⟩, ⟨true, lb⟩, true, tm, st⟩ := by simp [riseP]
    rw [e1]
    exact PairTo.same H.out (by repeat (first | (with_reducible exact Below.refl _ _) | (with_reducible refine Below.setCell ?_ ?_ _) | (with_reducible refine Below.alloc ?_ ?_ _) | (with_reducible refine Below.drewN ?_ _) | (with_reducible refine Below.drew ?_) | (with_reducible exact Nat.le_refl _) | (focus (simp only [World.size_alloc, World.size_setCell, World.size_drew, World.size_drewN]; omega)) | omega | exact Nat.le_refl _ | (focus (simp; done)) | (focus (simp; omega))))
end Go.Proofs.Ytigkcbnlbdiimaa
