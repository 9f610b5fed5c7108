/- corncriblaw20: alive, do. -/
import Derived.Test.YtigkcbnlbdiimaaTwin7
namespace Go.Proofs.Ytigkcbnlbdiimaa
open Go.RowKit
structure Act where
  kind : Int
  term : Int
  side : Int
  c : Cmd
def fallI (p : Pr) (n : Int) : Pr := if n = 0 then fallP p false else if n = 1 then fallP p true else p
def riseI (p : Pr) (n : Int) : Pr := if n = 0 then riseP p false else if n = 1 then riseP p true else p
def fallIK (p : Pr) (n : Int) : Nat := if n = 0 then fallK p false else if n = 1 then fallK p true else 1
def riseIK (p : Pr) (n : Int) : Nat := if n = 0 then riseK p false else if n = 1 then riseK p true else 1
def actP (p : Pr) (a : Act) : Pr := if a.kind = 0 then askP p a.term a.c else if a.kind = 1 then shipP p a.term else if a.kind = 2 then fallI p a.side else riseI p a.side
def actN (p : Pr) (a : Act) : Int := if a.kind = 0 then askN p a.term else 0
def actK (p : Pr) (a : Act) : Nat := if a.kind = 0 then askK p a.term else if a.kind = 1 then shipK p a.term else if a.kind = 2 then fallIK p a.side else riseIK p a.side
theorem act_step (N : Nat) (p : Pr) (a : Act) (h : PrInv N p) : PrInv (N + 1) (actP p a) ∧ PrStep p (actP p a) := by
  unfold actP
  split
  · exact ask_step N p _ _ h
  · split
    · exact ship_step N p _ h
    · split
      · unfold fallI
        split
        · exact fall_step N p _ h
        · split
          · exact fall_step N p _ h
          · exact ⟨h.mono (by omega), PrStep.refl _⟩
      · unfold riseI
        split
        · exact rise_step N p _ h
        · split
          · exact rise_step N p _ h
          · exact ⟨h.mono (by omega), PrStep.refl _⟩
theorem askK_le (p : Pr) (t : Int) : askK p t ≤ 17 := by unfold askK; repeat (first | omega | split)
theorem shipK_le (p : Pr) (t : Int) : shipK p t ≤ 17 := by unfold shipK; repeat (first | omega | split)
theorem fallIK_le (p : Pr) (t : Int) : fallIK p t ≤ 17 := by unfold fallIK fallK; repeat (first | omega | split)
theorem riseIK_le (p : Pr) (t : Int) : riseIK p t ≤ 17 := by unfold riseIK riseK; repeat (first | omega | split)
theorem fall_int (base bp : Nat) (va vb : Value) (p : Pr) (n : Int) (w : World) (h : PairAt w base bp va vb p) (hN : p.L.log.length ≤ 100000) (hN2 : p.F.log.length ≤ 100000) (ht0 : 0 ≤ p.term) (ht1 : p.term ≤ 1000000) :
    Calls Try.prog 33 #[.pointer (some ⟨bp, 0, none⟩), .int .i64 n] w fun e w' => e = .returned (errV (fallIK p n)) ∧ PairTo w base bp va vb (fallI p n) w' := by
  unfold fallIK fallI
  by_cases h0 : n = 0
  · subst h0; exact fall_any base bp va vb p false w h hN hN2 ht0 ht1
  · by_cases h1 : n = 1
    · subst h1; exact fall_any base bp va vb p true w h hN hN2 ht0 ht1
    · rw [if_neg h0, if_neg h1, if_neg h0, if_neg h1]
      refine (fall_bad bp n (by omega) w).mono ?_
      rintro e w' ⟨he, rfl⟩
      exact ⟨he, PairTo.same h (Below.refl _ _)⟩
theorem rise_int (base bp : Nat) (va vb : Value) (p : Pr) (n : Int) (w : World) (h : PairAt w base bp va vb p) (hN : p.L.log.length ≤ 100000) (hup : p.L.up = false → p.F.up = false) (ht0 : 0 ≤ p.term) (ht1 : p.term ≤ 1000000) :
    Calls Try.prog 34 #[.pointer (some ⟨bp, 0, none⟩), .int .i64 n] w fun e w' => e = .returned (errV (riseIK p n)) ∧ PairTo w base bp va vb (riseI p n) w' := by
  unfold riseIK riseI
  by_cases h0 : n = 0
  · subst h0; exact rise_any base bp va vb p false w h hN hup ht0 ht1
  · by_cases h1 : n = 1
    · subst h1; exact rise_any base bp va vb p true w h hN hup ht0 ht1
    · rw [if_neg h0, if_neg h1, if_neg h0, if_neg h1]
      refine (rise_bad bp n (by omega) w).mono ?_
      rintro e w' ⟨he, rfl⟩
      exact ⟨he, PairTo.same h (Below.refl _ _)⟩
theorem PairTo.later {w w1 w2 : World} {base bp : Nat} {va vb : Value} {p : Pr} (h : PairTo w base bp va vb p w1) (hb : Below w1.heap.size w1 w2) : PairTo w base bp va vb p w2 := by
  obtain ⟨va', vb', h1, h2, h3⟩ := h
  exact ⟨va', vb', h1.below hb, h2, h3.trans (Keeps.of_below (F := Foot bp va vb) hb (fun _ hk _ => hk)) (fun _ _ h => h)⟩
theorem PairTo.ahead {w0 w w1 : World} {base bp : Nat} {va vb : Value} {p : Pr} (hb : Below w0.heap.size w0 w) (h : PairTo w base bp va vb p w1) : PairTo w0 base bp va vb p w1 := by
  obtain ⟨va', vb', h1, h2, h3⟩ := h
  refine ⟨va', vb', h1, fun g hg => ?_, (Keeps.of_below (F := Foot bp va vb) hb (fun _ hk _ => hk)).trans h3 (fun _ _ h => h)⟩
  rcases h2 g hg with h | h
  · exact .inl h
  · exact .inr (Nat.le_trans hb.size h)
set_option maxRecDepth 100000 in
set_option maxHeartbeats 4000000 in
theorem act_any (N base bp : Nat) (va vb : Value) (p : Pr) (a : Act) (w : World) (h : PairAt w base bp va vb p) (hi : PrInv N p) (hN : N ≤ 10000) :
    Calls Try.prog 27 #[.pointer (some ⟨bp, 0, none⟩), .agg #[.int .i64 a.kind, .int .i64 a.term, .int .i64 a.side, .int .i64 a.c.kind, .int .i64 a.c.vol, .int .i64 a.c.epoch, .int .i64 a.c.spot, .int .i64 a.c.node, .int .i64 a.c.n0, .int .i64 a.c.n1, .int .i64 a.c.n2]] w
      fun e w' => e = .returned (.tuple #[.int .i64 (actN p a), .int .i64 (actK p a)]) ∧ PairTo w base bp va vb (actP p a) w' := by
  have H := Lib.hid h
  have h1 := hi.la
  have h2 := hi.lb
  have h3 := hi.t1
  have h4 := hi.t2
  have HI := Lib.hid hi
  clear h hi
  obtain ⟨k, t, s, c⟩ := a
  by_cases hk0 : k = 0
  · subst hk0
    have HN := Lib.hid (show actN p ⟨0, t, s, c⟩ = askN p t by simp [actN])
    have HK := Lib.hid (show actK p ⟨0, t, s, c⟩ = askK p t by simp [actK])
    have HP := Lib.hid (show actP p ⟨0, t, s, c⟩ = askP p t c by simp [actP])
    have hle := askK_le p t
    obtain ⟨ck, cv, ce, cp, cn, c0, c1, c2⟩ := c
    go_enter Try.func27, Try.ntmps27
    go_wp2_with fail
    refine (ask_any base bp va vb p t ⟨ck, cv, ce, cp, cn, c0, c1, c2⟩ _ (H.out.below (by repeat (first | (with_reducible exact Below.refl _ _) | (with_reducible refine Below.setCell ?_ ?_ _) | (with_reducible refine Below.alloc ?_ ?_ _) | (with_reducible refine Below.drewN ?_ _) | (with_reducible refine Below.drew ?_) | (with_reducible exact Nat.le_refl _) | (focus (simp only [World.size_alloc, World.size_setCell, World.size_drew, World.size_drewN]; omega)) | omega | exact Nat.le_refl _ | (focus (simp; done)) | (focus (simp; omega))))) (by omega)).mono ?_
    rintro e w1 ⟨rfl, hp⟩
    have HPT := Lib.hid (PairTo.ahead (w0 := w) (by repeat (first | (with_reducible exact Below.refl _ _) | (with_reducible refine Below.setCell ?_ ?_ _) | (with_reducible refine Below.alloc ?_ ?_ _) | (with_reducible refine Below.drewN ?_ _) | (with_reducible refine Below.drew ?_) | (with_reducible exact Nat.le_refl _) | (focus (simp only [World.size_alloc, World.size_setCell, World.size_drew, World.size_drewN]; omega)) | omega | exact Nat.le_refl _ | (focus (simp; done)) | (focus (simp; omega)))) hp)
    clear hp
    go_wp2_with fail
    refine (code_any _ (by omega) (by omega) _).mono ?_
    rintro e w2 ⟨rfl, rfl⟩
    go_wp2_with fail
    go_ret2
    exact ⟨by rw [HN.out, HK.out]; rfl, by rw [HP.out]; exact HPT.out⟩
  by_cases hk1 : k = 1
  · subst hk1
    have HN := Lib.hid (show actN p ⟨1, t, s, c⟩ = 0 by simp [actN])
    have HK := Lib.hid (show actK p ⟨1, t, s, c⟩ = shipK p t by simp [actK])
    have HP := Lib.hid (show actP p ⟨1, t, s, c⟩ = shipP p t by simp [actP])
    have hle := shipK_le p t
    clear hk0
    obtain ⟨ck, cv, ce, cp, cn, c0, c1, c2⟩ := c
    go_enter Try.func27, Try.ntmps27
    go_wp2_with fail
    refine (ship_any base bp va vb p t _ (H.out.below (by repeat (first | (with_reducible exact Below.refl _ _) | (with_reducible refine Below.setCell ?_ ?_ _) | (with_reducible refine Below.alloc ?_ ?_ _) | (with_reducible refine Below.drewN ?_ _) | (with_reducible refine Below.drew ?_) | (with_reducible exact Nat.le_refl _) | (focus (simp only [World.size_alloc, World.size_setCell, World.size_drew, World.size_drewN]; omega)) | omega | exact Nat.le_refl _ | (focus (simp; done)) | (focus (simp; omega))))) (by omega) (fun hu => (HI.out.pre hu).length_le)).mono ?_
    rintro e w1 ⟨rfl, hp⟩
    have HPT := Lib.hid (PairTo.ahead (w0 := w) (by repeat (first | (with_reducible exact Below.refl _ _) | (with_reducible refine Below.setCell ?_ ?_ _) | (with_reducible refine Below.alloc ?_ ?_ _) | (with_reducible refine Below.drewN ?_ _) | (with_reducible refine Below.drew ?_) | (with_reducible exact Nat.le_refl _) | (focus (simp only [World.size_alloc, World.size_setCell, World.size_drew, World.size_drewN]; omega)) | omega | exact Nat.le_refl _ | (focus (simp; done)) | (focus (simp; omega)))) hp)
    clear hp
    go_wp2_with fail
    refine (code_any _ (by omega) (by omega) _).mono ?_
    rintro e w2 ⟨rfl, rfl⟩
    go_wp2_with fail
    go_ret2
    exact ⟨by rw [HN.out, HK.out]; rfl, by rw [HP.out]; exact HPT.out⟩
  by_cases hk2 : k = 2
  · subst hk2
    have HN := Lib.hid (show actN p ⟨2, t, s, c⟩ = 0 by simp [actN])
    have HK := Lib.hid (show actK p ⟨2, t, s, c⟩ = fallIK p s by simp [actK])
    have HP := Lib.hid (show actP p ⟨2, t, s, c⟩ = fallI p s by simp [actP])
    have hle := fallIK_le p s
    clear hk0 hk1
    obtain ⟨ck, cv, ce, cp, cn, c0, c1, c2⟩ := c
    go_enter Try.func27, Try.ntmps27
    go_wp2_with fail
    refine (fall_int base bp va vb p s _ (H.out.below (by repeat (first | (with_reducible exact Below.refl _ _) | (with_reducible refine Below.setCell ?_ ?_ _) | (with_reducible refine Below.alloc ?_ ?_ _) | (with_reducible refine Below.drewN ?_ _) | (with_reducible refine Below.drew ?_) | (with_reducible exact Nat.le_refl _) | (focus (simp only [World.size_alloc, World.size_setCell, World.size_drew, World.size_drewN]; omega)) | omega | exact Nat.le_refl _ | (focus (simp; done)) | (focus (simp; omega))))) (by omega) (by omega) (by omega) (by omega)).mono ?_
    rintro e w1 ⟨rfl, hp⟩
    have HPT := Lib.hid (PairTo.ahead (w0 := w) (by repeat (first | (with_reducible exact Below.refl _ _) | (with_reducible refine Below.setCell ?_ ?_ _) | (with_reducible refine Below.alloc ?_ ?_ _) | (with_reducible refine Below.drewN ?_ _) | (with_reducible refine Below.drew ?_) | (with_reducible exact Nat.le_refl _) | (focus (simp only [World.size_alloc, World.size_setCell, World.size_drew, World.size_drewN]; omega)) | omega | exact Nat.le_refl _ | (focus (simp; done)) | (focus (simp; omega)))) hp)
    clear hp
    go_wp2_with fail
    refine (code_any _ (by omega) (by omega) _).mono ?_
    rintro e w2 ⟨rfl, rfl⟩
    go_wp2_with fail
    go_ret2
    exact ⟨by rw [HN.out, HK.out]; rfl, by rw [HP.out]; exact HPT.out⟩
  · have HN := Lib.hid (show actN p ⟨k, t, s, c⟩ = 0 by simp [actN, hk0])
    have HK := Lib.hid (show actK p ⟨k, t, s, c⟩ = riseIK p s by simp [actK, hk0, hk1, hk2])
    have HP := Lib.hid (show actP p ⟨k, t, s, c⟩ = riseI p s by simp [actP, hk0, hk1, hk2])
    have hle := riseIK_le p s
    have b0 : (k == 0) = false := beq_eq_false_iff_ne.2 hk0
    have b1 : (k == 1) = false := beq_eq_false_iff_ne.2 hk1
    have b2 : (k == 2) = false := beq_eq_false_iff_ne.2 hk2
    clear hk0 hk1 hk2
    obtain ⟨ck, cv, ce, cp, cn, c0, c1, c2⟩ := c
    go_enter Try.func27, Try.ntmps27
    go_wp2_with fail
    refine (rise_int base bp va vb p s _ (H.out.below (by repeat (first | (with_reducible exact Below.refl _ _) | (with_reducible refine Below.setCell ?_ ?_ _) | (with_reducible refine Below.alloc ?_ ?_ _) | (with_reducible refine Below.drewN ?_ _) | (with_reducible refine Below.drew ?_) | (with_reducible exact Nat.le_refl _) | (focus (simp only [World.size_alloc, World.size_setCell, World.size_drew, World.size_drewN]; omega)) | omega | exact Nat.le_refl _ | (focus (simp; done)) | (focus (simp; omega))))) (by omega) HI.out.up (by omega) (by omega)).mono ?_
    rintro e w1 ⟨rfl, hp⟩
    have HPT := Lib.hid (PairTo.ahead (w0 := w) (by repeat (first | (with_reducible exact Below.refl _ _) | (with_reducible refine Below.setCell ?_ ?_ _) | (with_reducible refine Below.alloc ?_ ?_ _) | (with_reducible refine Below.drewN ?_ _) | (with_reducible refine Below.drew ?_) | (with_reducible exact Nat.le_refl _) | (focus (simp only [World.size_alloc, World.size_setCell, World.size_drew, World.size_drewN]; omega)) | omega | exact Nat.le_refl _ | (focus (simp; done)) | (focus (simp; omega)))) hp)
    clear hp
    go_wp2_with fail
    refine (code_any _ (by omega) (by omega) _).mono ?_
    rintro e w2 ⟨rfl, rfl⟩
    go_wp2_with fail
    go_ret2
    exact ⟨by rw [HN.out, HK.out]; rfl, by rw [HP.out]; exact HPT.out⟩
/-- Whatever lies below a pair's own blocks lies as it lay. -/
theorem PairTo.under {w0 w w1 : World} {base bp : Nat} {va vb : Value} {p q : Pr} (h : PairTo w base bp va vb q w1) (hp : PairAt w base bp va vb p) (hB : w0.heap.size ≤ base) (hb : Below w0.heap.size w0 w) : Below w0.heap.size w0 w1 := by
  obtain ⟨_, _, _, _, h3⟩ := h
  exact h3.of_low hb (fun k hk => Nat.le_trans hB (hp.foot k hk).1)
set_option maxRecDepth 100000 in
set_option maxHeartbeats 4000000 in
theorem alive20 (w : World) : Calls Try.prog 24 #[] w fun e w' => e = .returned (.bool true) ∧ Below w.heap.size w w' := by
  have p1 : askP Pr.new 1 ⟨1, 0, 0, 0, 0, 1, 2, 3⟩ = ⟨⟨true, [⟨1, 0, 0, 0, 0, 1, 2, 3⟩]⟩, ⟨true, []⟩, false, 1, 0⟩ := by simp [askP, askK, Pr.new]
  have p2 : shipP ⟨⟨true, [⟨1, 0, 0, 0, 0, 1, 2, 3⟩]⟩, ⟨true, []⟩, false, 1, 0⟩ 1 = ⟨⟨true, [⟨1, 0, 0, 0, 0, 1, 2, 3⟩]⟩, ⟨true, [⟨1, 0, 0, 0, 0, 1, 2, 3⟩]⟩, false, 1, 1⟩ := by simp [shipP, shipK]; decide
  have p3 : askP ⟨⟨true, [⟨1, 0, 0, 0, 0, 1, 2, 3⟩]⟩, ⟨true, [⟨1, 0, 0, 0, 0, 1, 2, 3⟩]⟩, false, 1, 1⟩ 2 ⟨0, 0, 0, 0, 0, 0, 0, 0⟩ = ⟨⟨true, [⟨1, 0, 0, 0, 0, 1, 2, 3⟩]⟩, ⟨true, [⟨1, 0, 0, 0, 0, 1, 2, 3⟩]⟩, false, 1, 1⟩ := by simp [askP, askK]
  have P1 := Lib.hid p1
  have P2 := Lib.hid p2
  have P3 := Lib.hid p3
  clear p1 p2 p3
  go_enter Try.func24, Try.ntmps24
  go_wp2_with fail
  refine (twin_new _).mono ?_
  rintro e w1 ⟨rfl, hm1, hb1⟩
  have HM1 := Lib.hid hm1
  have HB1 := Lib.hid hb1
  clear hm1 hb1
  go_wp2_with fail
  refine (ask_any _ _ _ _ Pr.new 1 ⟨1, 0, 0, 0, 0, 1, 2, 3⟩ _ HM1.out (by simp [Pr.new])).mono ?_
  rintro e w2 ⟨rfl, hp⟩
  rw [P1.out] at hp
  have HB2 := Lib.hid (hp.under (w0 := w) HM1.out (Nat.le_refl _) HB1.out)
  obtain ⟨va2, vb2, hm2, _, _⟩ := hp
  have HM2 := Lib.hid hm2
  clear hm2
  rw [show askN Pr.new 1 = 0 from rfl, show ((askK Pr.new 1 : Nat) : Int) = 0 from rfl]
  go_wp2_with fail
  refine (settled_any _ _ _ _ _ _ HM2.out).mono ?_
  rintro e w3 ⟨rfl, rfl⟩
  go_wp2_with fail
  refine (ship_any _ _ _ _ _ 1 _ HM2.out (by simp) (fun _ => by simp)).mono ?_
  rintro e w4 ⟨rfl, hp⟩
  rw [P2.out] at hp
  have HB4 := Lib.hid (hp.under (w0 := w) HM2.out (Nat.le_refl _) HB2.out)
  obtain ⟨va4, vb4, hm4, _, _⟩ := hp
  have HM4 := Lib.hid hm4
  clear hm4
  rw [show ((shipK ⟨⟨true, [⟨1, 0, 0, 0, 0, 1, 2, 3⟩]⟩, ⟨true, []⟩, false, 1, 0⟩ 1 : Nat) : Int) = 0 from rfl]
  go_wp2_with fail
  refine (ask_any _ _ _ _ _ 2 ⟨0, 0, 0, 0, 0, 0, 0, 0⟩ _ HM4.out (by simp)).mono ?_
  rintro e w5 ⟨rfl, hp⟩
  rw [P3.out] at hp
  have HB5 := Lib.hid (hp.under (w0 := w) HM4.out (Nat.le_refl _) HB4.out)
  obtain ⟨va5, vb5, hm5, _, _⟩ := hp
  have HM5 := Lib.hid hm5
  clear hm5
  rw [show ((askK ⟨⟨true, [⟨1, 0, 0, 0, 0, 1, 2, 3⟩]⟩, ⟨true, [⟨1, 0, 0, 0, 0, 1, 2, 3⟩]⟩, false, 1, 1⟩ 2 : Nat) : Int) = 13 from rfl]
  go_wp2_with fail
  refine (code_any 0 (by omega) (by omega) _).mono ?_
  rintro e w6 ⟨rfl, rfl⟩
  go_wp2_with fail
  refine (code_any 0 (by omega) (by omega) _).mono ?_
  rintro e w6 ⟨rfl, rfl⟩
  go_wp2_with fail
  refine (settled_any _ _ _ _ _ _ HM5.out).mono ?_
  rintro e w7 ⟨rfl, rfl⟩
  go_wp2_with fail
  refine (code_any 13 (by omega) (by omega) _).mono ?_
  rintro e w6 ⟨rfl, rfl⟩
  go_wp2_with fail
  go_ret
  exact ⟨rfl, HB5.out⟩
end Go.Proofs.Ytigkcbnlbdiimaa
