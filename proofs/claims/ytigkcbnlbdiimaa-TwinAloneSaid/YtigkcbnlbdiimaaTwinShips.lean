/- TwinShips: the calls at a pair that is kept somewhere, and the plain law. -/
import Derived.Test.YtigkcbnlbdiimaaOpenAct
import Derived.Test.YtigkcbnlbdiimaaSame
namespace Go.Proofs.Ytigkcbnlbdiimaa
open Go.RowKit
/-- A pair at bp, somewhere above w0, and w0 as it was. -/
def PS (w0 w : World) (bp : Nat) (p : Pr) : Prop := ∃ va vb, PairAt w w0.heap.size bp va vb p ∧ Below w0.heap.size w0 w
theorem PS.later {w0 w w' : World} {bp : Nat} {p : Pr} (h : PS w0 w bp p) (hb : Below w.heap.size w w') : PS w0 w' bp p := by
  obtain ⟨va, vb, h1, h2⟩ := h
  exact ⟨va, vb, h1.below hb, h2.trans (hb.mono h2.size)⟩
theorem PS.to {w0 w w' : World} {bp : Nat} {va vb : Value} {p q : Pr} (h : PairAt w w0.heap.size bp va vb p) (hb : Below w0.heap.size w0 w) (hp : PairTo w w0.heap.size bp va vb q w') : PS w0 w' bp q := by
  have hu := hp.under h (Nat.le_refl _) hb
  obtain ⟨va', vb', h1, _, _⟩ := hp
  exact ⟨va', vb', h1, hu⟩
theorem PS.size {w0 w : World} {bp : Nat} {p : Pr} (h : PS w0 w bp p) : w0.heap.size ≤ w.heap.size := by
  obtain ⟨_, _, _, h⟩ := h
  exact h.size
theorem PS.below {w0 w : World} {bp : Nat} {p : Pr} (h : PS w0 w bp p) : Below w0.heap.size w0 w := by
  obtain ⟨_, _, _, h⟩ := h
  exact h
theorem PS.lt {w0 w : World} {bp : Nat} {p : Pr} (h : PS w0 w bp p) : bp < w.heap.size := by
  obtain ⟨_, _, h, _⟩ := h
  exact h.lt
theorem lead_ps (w0 : World) (bp : Nat) (p : Pr) (w : World) (h : PS w0 w bp p) :
    Calls Try.prog 26 #[.pointer (some ⟨bp, 0, none⟩)] w fun e w' => e = .returned (.tuple #[.int .i64 p.ld, .int .i64 p.term]) ∧ w.drew = w' := by
  obtain ⟨va, vb, h1, _⟩ := h
  exact lead_any _ _ va vb p w h1
theorem settled_ps (w0 : World) (bp : Nat) (p : Pr) (w : World) (h : PS w0 w bp p) :
    Calls Try.prog 28 #[.pointer (some ⟨bp, 0, none⟩)] w fun e w' => e = .returned (.int .i64 p.settled) ∧ w = w' := by
  obtain ⟨va, vb, h1, _⟩ := h
  exact settled_any _ _ va vb p w h1
theorem logs_ps (w0 : World) (bp : Nat) (p : Pr) (w : World) (h : PS w0 w bp p) :
    Calls Try.prog 31 #[.pointer (some ⟨bp, 0, none⟩)] w fun e w' => e = .returned (.tuple #[.int .i64 p.a.log.length, .int .i64 p.b.log.length]) ∧ w.drew = w' := by
  obtain ⟨va, vb, h1, _⟩ := h
  exact logs_any _ _ va vb p w h1
theorem act_ps (w0 : World) (N bp : Nat) (p : Pr) (a : Act) (w : World) (h : PS w0 w bp p) (hi : PrInv N p) (hN : N ≤ 10000) :
    Calls Try.prog 27 #[.pointer (some ⟨bp, 0, none⟩), .agg #[.int .i64 a.kind, .int .i64 a.term, .int .i64 a.side, .int .i64 a.c.kind, .int .i64 a.c.vol, .int .i64 a.c.epoch, .int .i64 a.c.spot, .int .i64 a.c.node, .int .i64 a.c.n0, .int .i64 a.c.n1, .int .i64 a.c.n2]] w
      fun e w' => e = .returned (.tuple #[.int .i64 (actN p a), .int .i64 (actK p a)]) ∧ PS w0 w' bp (actP p a) := by
  obtain ⟨va, vb, h1, h2⟩ := h
  exact (act_any N _ bp va vb p a w h1 hi hN).mono fun e w' ⟨he, hp⟩ => ⟨he, PS.to h1 h2 hp⟩
theorem ship_ps (w0 : World) (N bp : Nat) (p : Pr) (t : Int) (w : World) (h : PS w0 w bp p) (hi : PrInv N p) (hN : N ≤ 10000) :
    Calls Try.prog 32 #[.pointer (some ⟨bp, 0, none⟩), .int .i64 t] w
      fun e w' => e = .returned (errV (shipK p t)) ∧ PS w0 w' bp (shipP p t) := by
  obtain ⟨va, vb, h1, h2⟩ := h
  have hla := hi.la
  exact (ship_any _ bp va vb p t w h1 (by omega) (fun hu => (hi.pre hu).length_le)).mono fun e w' ⟨he, hp⟩ => ⟨he, PS.to h1 h2 hp⟩
theorem rise_ps (w0 : World) (N bp : Nat) (p : Pr) (t : Int) (w : World) (h : PS w0 w bp p) (hi : PrInv N p) (hN : N ≤ 10000) :
    Calls Try.prog 34 #[.pointer (some ⟨bp, 0, none⟩), .int .i64 t] w
      fun e w' => e = .returned (errV (riseIK p t)) ∧ PS w0 w' bp (riseI p t) := by
  obtain ⟨va, vb, h1, h2⟩ := h
  have h3 := hi.la
  have h4 := hi.t1
  have h5 := hi.t2
  exact (rise_int _ bp va vb p t w h1 (by omega) hi.up (by omega) (by omega)).mono fun e w' ⟨he, hp⟩ => ⟨he, PS.to h1 h2 hp⟩
theorem map_0 (w0 : World) (bp : Nat) (p : Pr) (w : World) (h : PS w0 w bp p) (hN : p.a.log.length ≤ 100000) :
    Calls Try.prog 35 #[.pointer (some ⟨bp, 0, none⟩), .int .i64 0] w fun e w' => e = .returned (.pointer (some ⟨w.heap.size, 0, none⟩)) ∧ (∃ v, MapAt w' w.heap.size w.heap.size v (doAll [] p.a.log)) ∧ Below w.heap.size w w' := by
  obtain ⟨va, vb, h1, _⟩ := h
  exact map_any _ _ va vb p false w h1 hN
theorem map_1 (w0 : World) (bp : Nat) (p : Pr) (w : World) (h : PS w0 w bp p) (hN : p.b.log.length ≤ 100000) :
    Calls Try.prog 35 #[.pointer (some ⟨bp, 0, none⟩), .int .i64 1] w fun e w' => e = .returned (.pointer (some ⟨w.heap.size, 0, none⟩)) ∧ (∃ v, MapAt w' w.heap.size w.heap.size v (doAll [] p.b.log)) ∧ Below w.heap.size w w' := by
  obtain ⟨va, vb, h1, _⟩ := h
  exact map_any _ _ va vb p true w h1 hN
theorem riseI_step (N : Nat) (p : Pr) (n : Int) (h : PrInv N p) : PrInv (N + 1) (riseI p n) := by
  unfold riseI
  split
  · exact (rise_step N p _ h).1
  · split
    · exact (rise_step N p _ h).1
    · exact h.mono (by omega)
theorem both_up (N : Nat) (p : Pr) (h : PrInv N p) : (riseI (riseI p p.ld) (1 - p.ld)).L.up = true ∧ (riseI (riseI p p.ld) (1 - p.ld)).F.up = true := by
  have hup := h.up
  obtain ⟨⟨ua, la⟩, ⟨ub, lb⟩, ld, tm, st⟩ := p
  clear h
  cases ld <;> cases ua <;> cases ub <;> simp_all [riseI, riseP, Pr.ld]
theorem ship_six (p : Pr) (ha : p.L.up = true) (hb : p.F.up = true) : shipK p p.term = if p.F.log.length = p.L.log.length then 6 else 0 := by
  simp [shipK, ha, hb]
theorem ship_one (N : Nat) (p : Pr) (h : PrInv N p) (ha : p.L.up = true) (hb : p.F.up = true) (hne : p.F.log.length ≠ p.L.log.length) :
    (shipP p p.term).L = p.L ∧ (shipP p p.term).F.up = true ∧ (shipP p p.term).F.log.length = p.F.log.length + 1 := by
  have hle := (h.pre hb).length_le
  have hk : shipK p p.term = 0 := by rw [ship_six p ha hb, if_neg hne]
  have hc : p.L.log[p.F.log.length]? = some (p.L.log[p.F.log.length]'(by omega)) := List.getElem?_eq_getElem _
  unfold shipP
  rw [if_pos hk, hc]
  exact ⟨rfl, hb, by simp⟩
theorem ship_none (p : Pr) (ha : p.L.up = true) (hb : p.F.up = true) (he : p.F.log.length = p.L.log.length) : shipP p p.term = p := by
  have hk : shipK p p.term = 6 := by rw [ship_six p ha hb, if_pos he]
  unfold shipP
  rw [hk]; rfl
/-- When there is nothing left to ship, both sides have the same. -/
theorem all_shipped (N : Nat) (p : Pr) (h : PrInv N p) (hb : p.F.up = true) (he : p.F.log.length = p.L.log.length) :
    p.b.log = p.a.log ∧ p.settled = p.a.log.length ∧ p.a.log.length ≤ N := by
  have hpre := h.pre hb
  have hse := h.se
  have hla := h.la
  have heq : p.F.log = p.L.log := hpre.eq_of_length he
  rw [if_pos hb] at hse
  unfold Pr.a Pr.b
  cases p.lead <;> simp [hse, heq] <;> omega
theorem bytes_log (log : List Cmd) (base bm : Nat) (v : Value) (w : World) (h : MapAt w base bm v (doAll [] log)) (hl : log.length ≤ 100000) :
    Calls Try.prog 21 #[.pointer (some ⟨bm, 0, none⟩)] w
      fun e w' => ∃ v', e = .returned v' ∧ Reads w' 1 v' (mapBytes (doAll [] log)).length ((mapBytes (doAll [] log)).map bv) ∧ Below w.heap.size w w' := by
  have hg := good_all log 1 [] (fun i x hx => by simp at hx) (by omega) (by omega)
  refine (bytes_any base bm v _ _ w h hg (by omega)).mono ?_
  rintro e w' ⟨v', he, ho, hb⟩
  exact ⟨v', he, reads_of_owns ho, hb⟩
end Go.Proofs.Ytigkcbnlbdiimaa
