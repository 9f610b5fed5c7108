/- TwinAlone: rows of other kinds beside a pair, and the plain law. -/
import Derived.Test.YtigkcbnlbdiimaaTwinShips
import Derived.Test.YtigkcbnlbdiimaaRef19g
namespace Go.Proofs.Ytigkcbnlbdiimaa
open Go.RowKit
/-- A row of another kind of elements lies apart from a pair's blocks. -/
theorem PairAt.apart {w : World} {base bp b s n : Nat} {t : TypeId} {va vb v : Value} {p : Pr} {xs : List Value} (h : PairAt w base bp va vb p) (h1 : t ≠ 119) (h2 : t ≠ 32)
    (hr : w.ownsRow b t s v n xs) : ∀ g, v.ownBlock = some g → ¬ Foot bp va vb g := by
  intro g hg hf
  rcases hr.2 with ⟨rfl, _⟩ | ⟨g', cap, cur, rfl, _, hh, _⟩
  · cases hg
  · simp only [Value.ownBlock, Option.some.injEq] at hg
    subst hg
    rcases hf with rfl | hf | hf
    · rw [h.blk] at hh
      simp only [Option.some.injEq, Obj.cells.injEq] at hh
      exact h1 hh.2.1.symm
    · rcases h.ra.2 with ⟨e, _⟩ | ⟨g2, cap2, cur2, e, _, hh2, _⟩
      · rw [e] at hf; cases hf
      · rw [e] at hf
        simp only [Value.ownBlock, Option.some.injEq] at hf
        subst hf
        rw [hh2] at hh
        simp only [Option.some.injEq, Obj.cells.injEq] at hh
        exact h2 hh.2.1.symm
    · rcases h.rb.2 with ⟨e, _⟩ | ⟨g2, cap2, cur2, e, _, hh2, _⟩
      · rw [e] at hf; cases hf
      · rw [e] at hf
        simp only [Value.ownBlock, Option.some.injEq] at hf
        subst hf
        rw [hh2] at hh
        simp only [Option.some.injEq, Obj.cells.injEq] at hh
        exact h2 hh.2.1.symm
/-- Rows of other kinds stay. -/
def Stays (w w' : World) : Prop := ∀ (b : Nat) (t : TypeId) (s : Nat) (v : Value) (n : Nat) (xs : List Value), t ≠ 119 → t ≠ 32 → w.ownsRow b t s v n xs → w'.ownsRow b t s v n xs
theorem PairTo.stays {w w' : World} {base bp : Nat} {va vb : Value} {p q : Pr} (h : PairAt w base bp va vb p) (hp : PairTo w base bp va vb q w') : Stays w w' := by
  obtain ⟨_, _, _, _, hk⟩ := hp
  exact fun b t s v n xs h1 h2 hr => ownsRow_keeps hr hk (h.apart h1 h2 hr)
theorem Stays.of_below {w w' : World} (hb : Below w.heap.size w w') : Stays w w' := fun _ _ _ _ _ _ _ _ hr => ownsRow_below hr hb
theorem Stays.trans {a b c : World} (h : Stays a b) (k : Stays b c) : Stays a c := fun x t s v n xs h1 h2 hr => k x t s v n xs h1 h2 (h x t s v n xs h1 h2 hr)
theorem ask_ps (w0 : World) (bp : Nat) (p : Pr) (t : Int) (c : Cmd) (w : World) (h : PS w0 w bp p) (hN : p.L.log.length ≤ 100000) :
    Calls Try.prog 30 #[.pointer (some ⟨bp, 0, none⟩), .int .i64 t, .agg #[.int .i64 c.kind, .int .i64 c.vol, .int .i64 c.epoch, .int .i64 c.spot, .int .i64 c.node, .int .i64 c.n0, .int .i64 c.n1, .int .i64 c.n2]] w
      fun e w' => e = .returned (.tuple #[.int .i64 (askN p t), errV (askK p t)]) ∧ PS w0 w' bp (askP p t c) ∧ Stays w w' := by
  obtain ⟨va, vb, h1, h2⟩ := h
  exact (ask_any _ bp va vb p t c w h1 hN).mono fun e w' ⟨he, hp⟩ => ⟨he, PS.to h1 h2 hp, PairTo.stays h1 hp⟩
theorem fall_ps (w0 : World) (N bp : Nat) (p : Pr) (t : Int) (w : World) (h : PS w0 w bp p) (hi : PrInv N p) (hN : N ≤ 10000) :
    Calls Try.prog 33 #[.pointer (some ⟨bp, 0, none⟩), .int .i64 t] w
      fun e w' => e = .returned (errV (fallIK p t)) ∧ PS w0 w' bp (fallI p t) ∧ Stays w w' := by
  obtain ⟨va, vb, h1, h2⟩ := h
  have h3 := hi.la
  have h4 := hi.lb
  have h5 := hi.t1
  have h6 := hi.t2
  exact (fall_int _ bp va vb p t w h1 (by omega) (by omega) (by omega) (by omega)).mono fun e w' ⟨he, hp⟩ => ⟨he, PS.to h1 h2 hp, PairTo.stays h1 hp⟩
theorem ship_ps2 (w0 : World) (N bp : Nat) (p : Pr) (t : Int) (w : World) (h : PS w0 w bp p) (hi : PrInv N p) (hN : N ≤ 10000) :
    Calls Try.prog 32 #[.pointer (some ⟨bp, 0, none⟩), .int .i64 t] w
      fun e w' => e = .returned (errV (shipK p t)) ∧ PS w0 w' bp (shipP p t) ∧ Stays w w' := by
  obtain ⟨va, vb, h1, h2⟩ := h
  have hla := hi.la
  exact (ship_any _ bp va vb p t w h1 (by omega) (fun hu => (hi.pre hu).length_le)).mono fun e w' ⟨he, hp⟩ => ⟨he, PS.to h1 h2 hp, PairTo.stays h1 hp⟩
theorem rise_ps2 (w0 : World) (N bp : Nat) (p : Pr) (t : Int) (w : World) (h : PS w0 w bp p) (hi : PrInv N p) (hN : N ≤ 10000) :
    Calls Try.prog 34 #[.pointer (some ⟨bp, 0, none⟩), .int .i64 t] w
      fun e w' => e = .returned (errV (riseIK p t)) ∧ PS w0 w' bp (riseI p t) ∧ Stays w w' := by
  obtain ⟨va, vb, h1, h2⟩ := h
  have h3 := hi.la
  have h4 := hi.t1
  have h5 := hi.t2
  exact (rise_int _ bp va vb p t w h1 (by omega) hi.up (by omega) (by omega)).mono fun e w' ⟨he, hp⟩ => ⟨he, PS.to h1 h2 hp, PairTo.stays h1 hp⟩
theorem answer_ps (w0 : World) (bp : Nat) (p : Pr) (j : Nat) (w : World) (h : PS w0 w bp p) (hj : (j : Int) < p.settled) (hs : p.settled ≤ p.L.log.length) (hN : p.L.log.length ≤ 100000) :
    Calls Try.prog 29 #[.pointer (some ⟨bp, 0, none⟩), .int .i64 j] w fun e w' => e = .returned (.tuple #[.int .i64 (ansN p.L.log j), errV (ansK p.L.log j)]) ∧ Below w.heap.size w w' := by
  obtain ⟨va, vb, h1, h2⟩ := h
  exact answer_any _ bp va vb p j w h1 hj hs hN
/-- A side that leads alone. -/
def aloneP (side : Bool) (log : List Cmd) : Pr := ⟨⟨true, log⟩, ⟨false, []⟩, side, if side then 2 else 1, log.length⟩
def bothP (side : Bool) (log : List Cmd) : Pr := ⟨⟨true, log⟩, ⟨true, log⟩, side, if side then 2 else 1, log.length⟩
def downI (side : Bool) : Int := if side then 0 else 1
theorem alone_fall (side : Bool) : fallI Pr.new (downI side) = aloneP side [] ∧ fallIK Pr.new (downI side) = 0 := by
  cases side <;> simp [fallI, fallIK, fallP, fallK, Pr.new, aloneP, downI]
theorem alone_ask (side : Bool) (log : List Cmd) (c : Cmd) : askP (aloneP side log) (if side then 2 else 1) c = aloneP side (log ++ [c]) ∧ askN (aloneP side log) (if side then 2 else 1) = log.length ∧ askK (aloneP side log) (if side then 2 else 1) = 0 := by
  have hm : max (log.length : Int) ((log.length : Int) + 1) = (log.length : Int) + 1 := by omega
  cases side <;> simp [askP, askN, askK, aloneP, hm]
theorem alone_ship (side : Bool) (log : List Cmd) (t : Int) : shipK (aloneP side log) t = 12 ∧ shipP (aloneP side log) t = aloneP side log := by
  cases side <;> simp [shipK, shipP, aloneP]
theorem alone_rise (side : Bool) (log : List Cmd) : riseI (aloneP side log) (downI side) = bothP side log ∧ riseIK (aloneP side log) (downI side) = 0 := by
  cases side <;> simp [riseI, riseIK, riseP, riseK, aloneP, bothP, downI]
theorem both_ship (side : Bool) (log : List Cmd) : shipK (bothP side log) (if side then 2 else 1) = 6 := by
  cases side <;> simp [shipK, bothP]
theorem alone_inv (side : Bool) (log : List Cmd) (h : log.length ≤ 100) : PrInv 100 (aloneP side log) := by
  cases side <;> constructor <;> simp [aloneP] <;> omega
theorem both_inv (side : Bool) (log : List Cmd) (h : log.length ≤ 100) : PrInv 100 (bothP side log) := by
  cases side <;> constructor <;> simp [bothP] <;> omega
theorem ans_last (log : List Cmd) (c : Cmd) (j : Nat) (hj : j = log.length) : ansN (log ++ [c]) j = doN (doAll [] log) c ∧ ansK (log ++ [c]) j = doK (doAll [] log) c := by
  subst hj
  simp [ansN, ansK]
theorem doAll_le (log : List Cmd) : ∀ (es : List Ent), (doAll es log).length ≤ es.length + log.length := by
  induction log with
  | nil => intro es; simp [doAll]
  | cons c log ih =>
    intro es
    have h1 := (doEs_len es c).2
    have h2 := ih (doEs es c)
    simp only [doAll, List.foldl_cons, List.length_cons] at h2 ⊢
    omega
theorem good_log (log : List Cmd) (hl : log.length ≤ 100000) : Good (1 + log.length) (doAll [] log) := good_all log 1 [] (fun i x hx => by simp at hx) (by omega) (by omega)
end Go.Proofs.Ytigkcbnlbdiimaa
