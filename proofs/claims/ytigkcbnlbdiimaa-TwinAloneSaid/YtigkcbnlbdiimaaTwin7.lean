/- Package twin: each call at any pair; Answer, Map; corncriblaw20.do. -/
import Derived.Test.YtigkcbnlbdiimaaTwin6
namespace Go.Proofs.Ytigkcbnlbdiimaa
open Go.RowKit
theorem ask_any (base bp : Nat) (va vb : Value) (p : Pr) (t : Int) (c : Cmd) (w : World) (h : PairAt w base bp va vb p) (hN : p.L.log.length ≤ 100000) :
    Calls Try.prog 30 #[.pointer (some ⟨bp, 0, none⟩), .int .i64 t, .agg #[.int .i64 c.kind, .int .i64 c.vol, .int .i64 c.epoch, .int .i64 c.spot, .int .i64 c.node, .int .i64 c.n0, .int .i64 c.n1, .int .i64 c.n2]] w
      fun e w' => e = .returned (.tuple #[.int .i64 (askN p t), errV (askK p t)]) ∧ PairTo w base bp va vb (askP p t c) w' := by
  obtain ⟨⟨ua, la⟩, ⟨ub, lb⟩, ld, tm, st⟩ := p
  cases ld
  · exact ask_false base bp va vb ua ub la lb tm st t c w h hN
  · exact ask_true base bp va vb ua ub la lb tm st t c w h hN
theorem ship_any (base bp : Nat) (va vb : Value) (p : Pr) (t : Int) (w : World) (h : PairAt w base bp va vb p) (hN : p.L.log.length ≤ 100000) (hle : p.F.up = true → p.F.log.length ≤ p.L.log.length) :
    Calls Try.prog 32 #[.pointer (some ⟨bp, 0, none⟩), .int .i64 t] w
      fun e w' => e = .returned (errV (shipK p t)) ∧ PairTo w base bp va vb (shipP p t) w' := by
  obtain ⟨⟨ua, la⟩, ⟨ub, lb⟩, ld, tm, st⟩ := p
  cases ld
  · exact ship_false base bp va vb ua ub la lb tm st t w h hN hle
  · exact ship_true base bp va vb ua ub la lb tm st t w h hN hle
theorem fall_any (base bp : Nat) (va vb : Value) (p : Pr) (s : Bool) (w : World) (h : PairAt w base bp va vb p) (hN : p.L.log.length ≤ 100000) (hN2 : p.F.log.length ≤ 100000) (ht0 : 0 ≤ p.term) (ht1 : p.term ≤ 1000000) :
    Calls Try.prog 33 #[.pointer (some ⟨bp, 0, none⟩), .int .i64 (sideI s)] w
      fun e w' => e = .returned (errV (fallK p s)) ∧ PairTo w base bp va vb (fallP p s) w' := by
  obtain ⟨⟨ua, la⟩, ⟨ub, lb⟩, ld, tm, st⟩ := p
  cases ld <;> cases s
  · exact fall_lead_false base bp va vb ua ub la lb tm st w h hN hN2 ht0 ht1
  · exact fall_other_false base bp va vb ua ub la lb tm st w h hN ht0 ht1
  · exact fall_other_true base bp va vb ua ub la lb tm st w h hN ht0 ht1
  · exact fall_lead_true base bp va vb ua ub la lb tm st w h hN hN2 ht0 ht1
theorem rise_any (base bp : Nat) (va vb : Value) (p : Pr) (s : Bool) (w : World) (h : PairAt w base bp va vb p) (hN : p.L.log.length ≤ 100000) (hup : p.L.up = false → p.F.up = false) (ht0 : 0 ≤ p.term) (ht1 : p.term ≤ 1000000) :
    Calls Try.prog 34 #[.pointer (some ⟨bp, 0, none⟩), .int .i64 (sideI s)] w
      fun e w' => e = .returned (errV (riseK p s)) ∧ PairTo w base bp va vb (riseP p s) w' := by
  obtain ⟨⟨ua, la⟩, ⟨ub, lb⟩, ld, tm, st⟩ := p
  cases ld <;> cases s
  · exact rise_lead_false base bp va vb ua ub la lb tm st w h hN hup ht0 ht1
  · exact rise_other_false base bp va vb ua ub la lb tm st w h hN
  · exact rise_other_true base bp va vb ua ub la lb tm st w h hN
  · exact rise_lead_true base bp va vb ua ub la lb tm st w h hN hup ht0 ht1
set_option maxHeartbeats 400000 in
theorem fall_bad (bp : Nat) (n : Int) (h : n < 0 ∨ 2 ≤ n) (w : World) : Calls Try.prog 33 #[.pointer (some ⟨bp, 0, none⟩), .int .i64 n] w fun e w' => e = .returned (errV 1) ∧ w = w' := by
  have H := Lib.hid h
  clear h
  go_enter Try.func33, Try.ntmps33
  go_wp2_with (go_at_call 64; refine (right_bad bp n H.out _).mono ?_; rintro e w' ⟨rfl, rfl⟩)
  go_ret
  exact ⟨by rw [errV_ne (by omega)]; rfl, rfl⟩
set_option maxHeartbeats 400000 in
theorem rise_bad (bp : Nat) (n : Int) (h : n < 0 ∨ 2 ≤ n) (w : World) : Calls Try.prog 34 #[.pointer (some ⟨bp, 0, none⟩), .int .i64 n] w fun e w' => e = .returned (errV 1) ∧ w = w' := by
  have H := Lib.hid h
  clear h
  go_enter Try.func34, Try.ntmps34
  go_wp2_with (go_at_call 64; refine (right_bad bp n H.out _).mono ?_; rintro e w' ⟨rfl, rfl⟩)
  go_ret
  exact ⟨by rw [errV_ne (by omega)]; rfl, rfl⟩
/-- What a settled command was answered. -/
def ansN (l : List Cmd) (j : Nat) : Int := match l[j]? with | some c => doN (doAll [] (l.take j)) c | none => 0
def ansK (l : List Cmd) (j : Nat) : Nat := match l[j]? with | some c => doK (doAll [] (l.take j)) c | none => 0
theorem ansK_le (l : List Cmd) (j : Nat) : ansK l j ≤ 17 := by
  unfold ansK
  split
  · exact doK_le _ _
  · omega
theorem leader_log {w : World} {base bp : Nat} {va vb : Value} {p : Pr} (h : PairAt w base bp va vb p) :
    ∃ vl, w.cell? ⟨bp, (if p.lead then 2 else 0) + 1, none⟩ = some vl ∧ w.ownsRow base 32 8 vl p.L.log.length (p.L.log.flatMap Cmd.row) := by
  obtain ⟨_, k1, _, k3, _, _, _, _⟩ := h.cell
  have ha := h.ra
  have hb := h.rb
  cases hl : p.lead
  · refine ⟨va, by simpa using k1, ?_⟩
    simpa [Pr.a, hl] using ha
  · refine ⟨vb, by simpa using k3, ?_⟩
    simpa [Pr.b, hl] using hb
theorem side_log {w : World} {base bp : Nat} {va vb : Value} {p : Pr} (h : PairAt w base bp va vb p) (s : Bool) :
    ∃ vl, w.cell? ⟨bp, (if s then 2 else 0) + 1, none⟩ = some vl ∧ w.ownsRow base 32 8 vl (if s then p.b else p.a).log.length ((if s then p.b else p.a).log.flatMap Cmd.row) := by
  obtain ⟨_, k1, _, k3, _, _, _, _⟩ := h.cell
  have ha := h.ra
  have hb := h.rb
  cases s
  · exact ⟨va, by simpa using k1, by simpa using ha⟩
  · exact ⟨vb, by simpa using k3, by simpa using hb⟩
set_option maxRecDepth 100000 in
set_option maxHeartbeats 2000000 in
theorem answer_any (base bp : Nat) (va vb : Value) (p : Pr) (j : Nat) (w : World) (h : PairAt w base bp va vb p) (hj : (j : Int) < p.settled) (hs : p.settled ≤ p.L.log.length) (hN : p.L.log.length ≤ 100000) :
    Calls Try.prog 29 #[.pointer (some ⟨bp, 0, none⟩), .int .i64 j] w fun e w' => e = .returned (.tuple #[.int .i64 (ansN p.L.log j), errV (ansK p.L.log j)]) ∧ Below w.heap.size w w' := by
  obtain ⟨vl, kl, hr⟩ := leader_log h
  obtain ⟨_, _, _, _, _, _, k6, _⟩ := h.cell
  have H := Lib.hid h
  have hlt := h.lt
  obtain ⟨c, hc⟩ : ∃ c, p.L.log[j]? = some c := ⟨_, List.getElem?_eq_getElem (by omega)⟩
  have HC := Lib.hid hc
  obtain ⟨aL, cL, rfl⟩ := ownsRow_len hr
  obtain ⟨g, cg, e1, hg, _, hjl, q0, q1, q2, q3, q4, q5, q6, q7⟩ := row_cmd hr j c hc
  obtain ⟨rfl, -, rfl⟩ := slice_inj e1
  have HR := Lib.hid hr
  obtain ⟨hcap1, hcap2⟩ := owns_cap hr
  have HA1 := Lib.hid (show ansN p.L.log j = doN (doAll [] (p.L.log.take j)) c by simp [ansN, hc])
  have HA2 := Lib.hid (show ansK p.L.log j = doK (doAll [] (p.L.log.take j)) c by simp [ansK, hc])
  obtain ⟨nd, hnd⟩ : ∃ nd, doN (doAll [] (p.L.log.take j)) c = nd := ⟨_, rfl⟩
  obtain ⟨kd, hkd⟩ : ∃ kd : Nat, doK (doAll [] (p.L.log.take j)) c = kd := ⟨_, rfl⟩
  have HND := Lib.hid hnd
  have HKD := Lib.hid hkd
  clear h hc e1 hr hnd hkd
  obtain ⟨bl, hbl⟩ : ∃ bl, (if p.lead then 2 else 0) = bl := ⟨_, rfl⟩
  have HBL := Lib.hid hbl
  rw [hbl] at kl
  clear hbl
  generalize hst : p.settled = st at *
  generalize hlog : p.L.log = log at *
  have HST := Lib.hid hst
  have HLOG := Lib.hid hlog
  clear hst hlog
  have hj0 : (0 : Int) ≤ (j : Int) := by omega
  have hjc : (j : Int) ≤ (cL : Int) := by omega
  have hjn : (j : Int) < (log.length : Int) := by omega
  obtain ⟨ck, cv, ce, cp, cn, c0, c1, c2⟩ := c
  go_enter Try.func29, Try.ntmps29
  go_wp2_with fail
  refine (leader_any base bp _ _ _ _ (H.out.below (by repeat (first | (with_reducible exact Below.refl _ _) | (with_reducible refine Below.setCell ?_ ?_ _) | (with_reducible refine Below.alloc ?_ ?_ _) | (with_reducible refine Below.drewN ?_ _) | (with_reducible refine Below.drew ?_) | (with_reducible exact Nat.le_refl _) | (focus (simp only [World.size_alloc, World.size_setCell, World.size_drew, World.size_drewN]; omega)) | omega | exact Nat.le_refl _ | (focus (simp; done)) | (focus (simp; omega)))))).mono ?_
  rintro e w1 ⟨rfl, rfl⟩
  rw [HBL.out]
  go_wp2_with fail
  refine (replay_any (some ⟨g, 0, none⟩) j cL (log.take j) _ (by rw [List.length_take]; omega) (by omega) (fun h0 => ?_)).mono ?_
  · obtain ⟨g', e1, h2, _, h3⟩ := cmds_row HR.out (by omega)
    simp at e1
    subst e1
    exact ⟨g, 0, rfl, h2, (CmdsAt.take h3 j)⟩
  rintro e w2 ⟨rfl, ⟨v2, hm2⟩, hb2⟩
  have HM2 := Lib.hid hm2
  have e2 := fun o => hb2.cell (p := ⟨g, o, none⟩) hg
  have HB2 := Lib.hid (show Below w.heap.size w w2 from Below.trans (B := w.heap.size) (a := w) (by repeat (first | (with_reducible exact Below.refl _ _) | (with_reducible refine Below.setCell ?_ ?_ _) | (with_reducible refine Below.alloc ?_ ?_ _) | (with_reducible refine Below.drewN ?_ _) | (with_reducible refine Below.drew ?_) | (with_reducible exact Nat.le_refl _) | (focus (simp only [World.size_alloc, World.size_setCell, World.size_drew, World.size_drewN]; omega)) | omega | exact Nat.le_refl _ | (focus (simp; done)) | (focus (simp; omega)))) hb2)
  clear hm2 hb2
  go_wp2_with fail
  refine (do_at _ _ v2 _ _ ⟨ck, cv, ce, cp, cn, c0, c1, c2⟩ nd kd _ HM2.out rfl HND.out (by rw [HKD.out])).mono ?_
  rintro e w3 hd
  have HU := Lib.hid (hd.under (w0 := w) HM2.out (Nat.le_refl _) HB2.out)
  obtain ⟨rfl, _⟩ := hd
  go_wp2_with fail
  go_ret2
  exact ⟨by rw [HA1.out, HA2.out, HND.out, HKD.out]; rfl, HU.out⟩
set_option maxRecDepth 100000 in
set_option maxHeartbeats 2000000 in
theorem answer_none (base bp : Nat) (va vb : Value) (p : Pr) (n : Int) (w : World) (h : PairAt w base bp va vb p) (hn : n < 0 ∨ p.settled ≤ n) :
    Calls Try.prog 29 #[.pointer (some ⟨bp, 0, none⟩), .int .i64 n] w fun e w' => e = .returned (.tuple #[.int .i64 0, errV 6]) ∧ w = w' := by
  obtain ⟨_, _, _, _, _, _, k6, _⟩ := h.cell
  clear h
  generalize p.settled = st at *
  by_cases h0 : n < 0
  · clear hn
    go_enter Try.func29, Try.ntmps29
    go_wp2
    go_ret2
    exact ⟨by rw [errV_ne (by omega)]; rfl, rfl⟩
  · have h1 : 0 ≤ n := by omega
    have h2 : st ≤ n := by omega
    clear hn h0
    go_enter Try.func29, Try.ntmps29
    go_wp2
    go_ret2
    exact ⟨by rw [errV_ne (by omega)]; rfl, rfl⟩
set_option maxRecDepth 100000 in
set_option maxHeartbeats 2000000 in
theorem map_any (base bp : Nat) (va vb : Value) (p : Pr) (s : Bool) (w : World) (h : PairAt w base bp va vb p) (hN : (if s then p.b else p.a).log.length ≤ 100000) :
    Calls Try.prog 35 #[.pointer (some ⟨bp, 0, none⟩), .int .i64 (sideI s)] w fun e w' => e = .returned (.pointer (some ⟨w.heap.size, 0, none⟩)) ∧ (∃ v, MapAt w' w.heap.size w.heap.size v (doAll [] (if s then p.b else p.a).log)) ∧ Below w.heap.size w w' := by
  obtain ⟨vl, kl, hr⟩ := side_log h s
  have hlt := h.lt
  clear h
  generalize (if s then p.b else p.a).log = log at *
  obtain ⟨aL, cL, rfl⟩ := ownsRow_len hr
  have HR := Lib.hid hr
  clear hr
  cases s
  · simp only [sideI, if_true, if_false, Bool.false_eq_true, Nat.zero_add, Nat.reduceAdd] at kl ⊢
    go_enter Try.func35, Try.ntmps35
    go_wp2_with fail
    refine (right_ok bp false _).mono ?_
    rintro e w1 ⟨rfl, rfl⟩
    go_wp2_with fail
    refine (replay_any aL log.length cL log _ rfl (by omega) (fun h0 => ?_)).mono ?_
    · obtain ⟨g', e1, h2, _, h3⟩ := cmds_row HR.out h0
      exact ⟨g', 0, e1, h2, h3⟩
    rintro e w2 ⟨rfl, hm2, hb2⟩
    go_wp2_with fail
    go_ret
    exact ⟨rfl, hm2, hb2⟩
  · simp only [sideI, if_true, if_false, Bool.false_eq_true, Nat.zero_add, Nat.reduceAdd] at kl ⊢
    go_enter Try.func35, Try.ntmps35
    go_wp2_with fail
    refine (right_ok bp true _).mono ?_
    rintro e w1 ⟨rfl, rfl⟩
    go_wp2_with fail
    refine (replay_any aL log.length cL log _ rfl (by omega) (fun h0 => ?_)).mono ?_
    · obtain ⟨g', e1, h2, _, h3⟩ := cmds_row HR.out h0
      exact ⟨g', 0, e1, h2, h3⟩
    rintro e w2 ⟨rfl, hm2, hb2⟩
    go_wp2_with fail
    go_ret
    exact ⟨rfl, hm2, hb2⟩
set_option maxHeartbeats 400000 in
theorem map_bad (bp : Nat) (n : Int) (h : n < 0 ∨ 2 ≤ n) (w : World) : Calls Try.prog 35 #[.pointer (some ⟨bp, 0, none⟩), .int .i64 n] w fun e w' => e = .returned (.pointer none) ∧ w = w' := by
  have H := Lib.hid h
  clear h
  go_enter Try.func35, Try.ntmps35
  go_wp2_with (go_at_call 64; refine (right_bad bp n H.out _).mono ?_; rintro e w' ⟨rfl, rfl⟩)
  go_ret
  exact ⟨rfl, rfl⟩
end Go.Proofs.Ytigkcbnlbdiimaa
