/- Joined texts: Ref20k, TwinPlays, OrderM, TwinPlays2. -/
import Derived.Test.YtigkcbnlbdiimaaPl7
import Derived.Deep.LoopGhost
import Derived.Deep.DeepCutAuto
/- corncribref20.Do: what a call makes of the document's pair is what it makes of the program's. -/
namespace Go.Proofs.Ytigkcbnlbdiimaa
open Go.RowKit
/-- The document's pair as a value with its logs. -/
def RPairAt (w : World) (base : Nat) (v : Value) (q : Pr) : Prop :=
  ∃ aA cA aB cB, v = .agg #[.slice aA q.a.log.length cA, .slice aB q.b.log.length cB, .bool q.a.up, .bool q.b.up, .int .i64 q.ld, .int .i64 q.term, .int .i64 q.settled] ∧
    w.ownsRow base 35 8 (.slice aA q.a.log.length cA) q.a.log.length (q.a.log.flatMap Cmd.row) ∧ w.ownsRow base 35 8 (.slice aB q.b.log.length cB) q.b.log.length (q.b.log.flatMap Cmd.row)
def RDo (w : World) (base : Nat) (p : Pr) (a : Act) (e : Ending) (w' : World) : Prop :=
  ∃ v, e = .returned (.tuple #[v, .int .i64 (actN p a), .int .i64 (actK p a)]) ∧ RPairAt w' base v (actP p a) ∧ Below w.heap.size w w'
theorem RDo.of {w w' : World} {base : Nat} {p q : Pr} {a : Act} {e : Ending} {n : Int} {k : Nat} {v : Value} (hq : actP p a = q) (hn : actN p a = n) (hk : actK p a = k) (he : e = .returned (.tuple #[v, .int .i64 n, .int .i64 k]))
    (hv : RPairAt w' base v q) (hb : Below w.heap.size w w') : RDo w base p a e w' := by
  subst hq hn hk
  exact ⟨v, he, hv, hb⟩
set_option maxHeartbeats 2000000 in
theorem rdo_0 (N base : Nat) (aA aB : Option Addr) (cA cB : Nat) (la lb : List Cmd) (uA uB : Bool) (tm st k t s ck cv ce cp cn c0 c1 c2 : Int) (w : World) (hA : w.ownsRow base 35 8 (.slice aA la.length cA) la.length (la.flatMap Cmd.row)) (hB : w.ownsRow base 35 8 (.slice aB lb.length cB) lb.length (lb.flatMap Cmd.row))
    (hi : PrInv N ⟨⟨uA, la⟩, ⟨uB, lb⟩, false, tm, st⟩) (hN : N ≤ 900) (hk0 : 0 ≤ k) (hk3 : k ≤ 3) (hbase : base ≤ w.heap.size) :
    Calls Try.prog 37 #[.agg #[.slice aA la.length cA, .slice aB lb.length cB, .bool uA, .bool uB, .int .i64 0, .int .i64 tm, .int .i64 st], .agg #[.int .i64 k, .int .i64 t, .int .i64 s, .int .i64 ck, .int .i64 cv, .int .i64 ce, .int .i64 cp, .int .i64 cn, .int .i64 c0, .int .i64 c1, .int .i64 c2]] w
      (RDo w base ⟨⟨uA, la⟩, ⟨uB, lb⟩, false, tm, st⟩ ⟨k, t, s, ⟨ck, cv, ce, cp, cn, c0, c1, c2⟩⟩) := by
  have hup : uA = false → uB = false := hi.up
  have hla : la.length ≤ N := hi.la
  have hlb : lb.length ≤ N := hi.lb
  have ht1 : 1 ≤ tm := hi.t1
  have ht2 : tm ≤ N + 1 := hi.t2
  have hpre : uB = true → lb <+: la := hi.pre
  clear hi
  by_cases k0 : k = 0
  · subst k0
    cases uA
    · have hf := hup rfl
      subst hf
      refine Calls.mono (rsame_0_0 _ _ _ _ _ _ _ _ _ _ _ _ _ _ _ _ _ _ _ _ ) ?_
      rintro e w' ⟨rfl, hb⟩
      exact RDo.of (q := ⟨⟨false, la⟩, ⟨false, lb⟩, false, tm, st⟩) (n := 0) (k := 12) (by simp [actP, askP, askK]) (by simp [actN, askN, askK]) (by simp [actK, askK]) rfl ⟨_, _, _, _, rfl, ownsRow_below hA hb, ownsRow_below hB hb⟩ hb
    by_cases ht : t = tm
    · subst ht
      have h1 : (t != t) = false := by simp
      cases uB
      · refine Calls.mono (rask_0_false _ _ _ _ _ _ _ _ _ _ _ _ _ _ _ _ _ _ _  base hA (by omega) h1) ?_
        rintro e w' ⟨a', c', rfl, ho, hb⟩
        have hl : (la ++ [Cmd.mk ck cv ce cp cn c0 c1 c2]).length = la.length + 1 := by simp
        refine RDo.of (q := ⟨⟨true, la ++ [⟨ck, cv, ce, cp, cn, c0, c1, c2⟩]⟩, ⟨false, lb⟩, false, t, max st ((la.length : Int) + 1)⟩) (n := la.length) (k := 0) (by simp [actP, askP, askK]) (by simp [actN, askN, askK]) (by simp [actK, askK]) rfl ?_ hb
        exact ⟨a', c', _, _, by simp [Pr.a, Pr.b, Pr.ld], by simpa [Pr.a] using ownsRow_mono ho hbase, ownsRow_below hB hb⟩
      · refine Calls.mono (rask_0_true _ _ _ _ _ _ _ _ _ _ _ _ _ _ _ _ _ _ _  base hA (by omega) h1) ?_
        rintro e w' ⟨a', c', rfl, ho, hb⟩
        have hl : (la ++ [Cmd.mk ck cv ce cp cn c0 c1 c2]).length = la.length + 1 := by simp
        refine RDo.of (q := ⟨⟨true, la ++ [⟨ck, cv, ce, cp, cn, c0, c1, c2⟩]⟩, ⟨true, lb⟩, false, t, st⟩) (n := la.length) (k := 0) (by simp [actP, askP, askK]) (by simp [actN, askN, askK]) (by simp [actK, askK]) rfl ?_ hb
        exact ⟨a', c', _, _, by simp [Pr.a, Pr.b, Pr.ld], by simpa [Pr.a] using ownsRow_mono ho hbase, ownsRow_below hB hb⟩
    · have h1 : (t != tm) = true := by simpa using ht
      refine Calls.mono (rsame_0_1 _ _ _ _ _ _ _ _ _ _ _ _ _ _ _ _ _ _ _ _ h1) ?_
      rintro e w' ⟨rfl, hb⟩
      exact RDo.of (q := ⟨⟨true, la⟩, ⟨uB, lb⟩, false, tm, st⟩) (n := 0) (k := 13) (by simp [actP, askP, askK, ht]) (by simp [actN, askN, askK, ht]) (by simp [actK, askK, ht]) rfl ⟨_, _, _, _, rfl, ownsRow_below hA hb, ownsRow_below hB hb⟩ hb
  by_cases k1 : k = 1
  · subst k1
    clear k0
    cases uA
    · have hf := hup rfl
      subst hf
      refine Calls.mono (rsame_0_2 _ _ _ _ _ _ _ _ _ _ _ _ _ _ _ _ _ _ _ ) ?_
      rintro e w' ⟨rfl, hb⟩
      exact RDo.of (q := ⟨⟨false, la⟩, ⟨false, lb⟩, false, tm, st⟩) (n := 0) (k := 12) (by simp [actP, shipP, shipK]) (by simp [actN]) (by simp [actK, shipK]) rfl ⟨_, _, _, _, rfl, ownsRow_below hA hb, ownsRow_below hB hb⟩ hb
    cases uB
    ·
      refine Calls.mono (rsame_0_3 _ _ _ _ _ _ _ _ _ _ _ _ _ _ _ _ _ _ _ ) ?_
      rintro e w' ⟨rfl, hb⟩
      exact RDo.of (q := ⟨⟨true, la⟩, ⟨false, lb⟩, false, tm, st⟩) (n := 0) (k := 12) (by simp [actP, shipP, shipK]) (by simp [actN]) (by simp [actK, shipK]) rfl ⟨_, _, _, _, rfl, ownsRow_below hA hb, ownsRow_below hB hb⟩ hb
    by_cases ht : t = tm
    · subst ht
      have h1 : (t != t) = false := by simp
      by_cases he : lb.length = la.length
      · have h2 : ((lb.length : Int) == (la.length : Int)) = true := by rw [he]; simp
        refine Calls.mono (rsame_0_5 _ _ _ _ _ _ _ _ _ _ _ _ _ _ _ _ _ _ _ h1 h2) ?_
        rintro e w' ⟨rfl, hb⟩
        exact RDo.of (q := ⟨⟨true, la⟩, ⟨true, lb⟩, false, t, st⟩) (n := 0) (k := 6) (by simp [actP, shipP, shipK, he]) (by simp [actN]) (by simp [actK, shipK, he]) rfl ⟨_, _, _, _, rfl, ownsRow_below hA hb, ownsRow_below hB hb⟩ hb
      · have hle := (hpre rfl).length_le
        obtain ⟨x, hx⟩ : ∃ x, la[lb.length]? = some x := ⟨_, List.getElem?_eq_getElem (by omega)⟩
        refine Calls.mono (rship_0 _ _ _ _ _ _ _ _ _ _ _ _ _ _ _ _ _ _ _  base hA hB x hx (by omega) h1) ?_
        rintro e w' ⟨a', c', rfl, ho, hb⟩
        have hs : shipK ⟨⟨true, la⟩, ⟨true, lb⟩, false, t, st⟩ t = 0 := by simp [shipK, he]
        refine RDo.of (q := ⟨⟨true, la⟩, ⟨true, lb ++ [x]⟩, false, t, max st ((lb.length : Int) + 1)⟩) (n := 0) (k := 0) (by show shipP ⟨⟨true, la⟩, ⟨true, lb⟩, false, t, st⟩ t = _; unfold shipP; rw [if_pos hs]; simp [hx]) (by simp [actN]) (by show shipK ⟨⟨true, la⟩, ⟨true, lb⟩, false, t, st⟩ t = 0; exact hs) rfl ?_ hb
        exact ⟨_, _, a', c', by simp [Pr.a, Pr.b, Pr.ld], ownsRow_below hA hb, by simpa [Pr.b] using ownsRow_mono ho hbase⟩
    · have h1 : (t != tm) = true := by simpa using ht
      refine Calls.mono (rsame_0_4 _ _ _ _ _ _ _ _ _ _ _ _ _ _ _ _ _ _ _ h1) ?_
      rintro e w' ⟨rfl, hb⟩
      exact RDo.of (q := ⟨⟨true, la⟩, ⟨true, lb⟩, false, tm, st⟩) (n := 0) (k := 13) (by simp [actP, shipP, shipK, ht]) (by simp [actN]) (by simp [actK, shipK, ht]) rfl ⟨_, _, _, _, rfl, ownsRow_below hA hb, ownsRow_below hB hb⟩ hb
  by_cases k2 : k = 2
  · subst k2
    clear k0 k1
    by_cases s0 : s < 0
    · have h1 : decide (s < 0) = true := by simpa using s0
      have n0 : s ≠ 0 := by omega
      have n1 : s ≠ 1 := by omega
      refine Calls.mono (rsame_0_6 _ _ _ _ _ _ _ _ _ _ _ _ _ _ _ _ _ _ _ _ _ h1) ?_
      rintro e w' ⟨rfl, hb⟩
      exact RDo.of (q := ⟨⟨uA, la⟩, ⟨uB, lb⟩, false, tm, st⟩) (n := 0) (k := 1) (by simp [actP, fallI, n0, n1]) (by simp [actN]) (by simp [actK, fallIK, n0, n1]) rfl ⟨_, _, _, _, rfl, ownsRow_below hA hb, ownsRow_below hB hb⟩ hb
    by_cases s1 : 1 < s
    · have h1 : decide (s < 0) = false := by simpa using s0
      have h2 : decide (1 < s) = true := by simpa using s1
      have n0 : s ≠ 0 := by omega
      have n1 : s ≠ 1 := by omega
      refine Calls.mono (rsame_0_7 _ _ _ _ _ _ _ _ _ _ _ _ _ _ _ _ _ _ _ _ _ h1 h2) ?_
      rintro e w' ⟨rfl, hb⟩
      exact RDo.of (q := ⟨⟨uA, la⟩, ⟨uB, lb⟩, false, tm, st⟩) (n := 0) (k := 1) (by simp [actP, fallI, n0, n1]) (by simp [actN]) (by simp [actK, fallIK, n0, n1]) rfl ⟨_, _, _, _, rfl, ownsRow_below hA hb, ownsRow_below hB hb⟩ hb
    by_cases sl : s = 0
    · subst sl
      clear s0 s1
      cases uA
      · have hf := hup rfl
        subst hf
        refine Calls.mono (rsame_0_10 _ _ _ _ _ _ _ _ _ _ _ _ _ _ _ _ _ _ _ ) ?_
        rintro e w' ⟨rfl, hb⟩
        exact RDo.of (q := ⟨⟨false, la⟩, ⟨false, lb⟩, false, tm, st⟩) (n := 0) (k := 12) (by simp [actP, fallI, fallP]) (by simp [actN]) (by simp [actK, fallIK, fallK]) rfl ⟨_, _, _, _, rfl, ownsRow_below hA hb, ownsRow_below hB hb⟩ hb
      cases uB
      ·
        refine Calls.mono (rfall_last_0 _ _ _ _ _ _ _ _ _ _ _ _ _ _ _ _ _ _ (by omega) (by omega)) ?_
        rintro e w' ⟨rfl, hb⟩
        exact RDo.of (q := ⟨⟨false, la⟩, ⟨false, lb⟩, false, tm, st⟩) (n := 0) (k := 0) (by simp [actP, fallI, fallP]) (by simp [actN]) (by simp [actK, fallIK, fallK]) rfl ⟨_, _, _, _, rfl, ownsRow_below hA hb, ownsRow_below hB hb⟩ hb
      ·
        refine Calls.mono (rfall_lead_0 _ _ _ _ _ _ _ _ _ _ _ _ _ _ _ _ _ _ (by omega) (by omega)) ?_
        rintro e w' ⟨rfl, hb⟩
        exact RDo.of (q := ⟨⟨true, lb⟩, ⟨false, la⟩, true, tm + 1, max st (lb.length : Int)⟩) (n := 0) (k := 0) (by simp [actP, fallI, fallP]) (by simp [actN]) (by simp [actK, fallIK, fallK]) rfl ⟨_, _, _, _, rfl, ownsRow_below hA hb, ownsRow_below hB hb⟩ hb
    · have hs : s = 1 := by omega
      subst hs
      clear s0 s1 sl
      cases uB
      ·
        refine Calls.mono (rsame_0_11 _ _ _ _ _ _ _ _ _ _ _ _ _ _ _ _ _ _ _ ) ?_
        rintro e w' ⟨rfl, hb⟩
        exact RDo.of (q := ⟨⟨uA, la⟩, ⟨false, lb⟩, false, tm, st⟩) (n := 0) (k := 12) (by simp [actP, fallI, fallP]) (by simp [actN]) (by simp [actK, fallIK, fallK]) rfl ⟨_, _, _, _, rfl, ownsRow_below hA hb, ownsRow_below hB hb⟩ hb
      cases uA
      · exact absurd (hup rfl) (by simp)
      ·
        refine Calls.mono (rfall_other_0 _ _ _ _ _ _ _ _ _ _ _ _ _ _ _ _ _ _ (by omega) (by omega)) ?_
        rintro e w' ⟨rfl, hb⟩
        exact RDo.of (q := ⟨⟨true, la⟩, ⟨false, lb⟩, false, tm, max st (la.length : Int)⟩) (n := 0) (k := 0) (by simp [actP, fallI, fallP]) (by simp [actN]) (by simp [actK, fallIK, fallK]) rfl ⟨_, _, _, _, rfl, ownsRow_below hA hb, ownsRow_below hB hb⟩ hb
  have k3 : k = 3 := by omega
  · subst k3
    clear k0 k1 k2
    by_cases s0 : s < 0
    · have h1 : decide (s < 0) = true := by simpa using s0
      have n0 : s ≠ 0 := by omega
      have n1 : s ≠ 1 := by omega
      refine Calls.mono (rsame_0_8 _ _ _ _ _ _ _ _ _ _ _ _ _ _ _ _ _ _ _ _ _ h1) ?_
      rintro e w' ⟨rfl, hb⟩
      exact RDo.of (q := ⟨⟨uA, la⟩, ⟨uB, lb⟩, false, tm, st⟩) (n := 0) (k := 1) (by simp [actP, riseI, n0, n1]) (by simp [actN]) (by simp [actK, riseIK, n0, n1]) rfl ⟨_, _, _, _, rfl, ownsRow_below hA hb, ownsRow_below hB hb⟩ hb
    by_cases s1 : 1 < s
    · have h1 : decide (s < 0) = false := by simpa using s0
      have h2 : decide (1 < s) = true := by simpa using s1
      have n0 : s ≠ 0 := by omega
      have n1 : s ≠ 1 := by omega
      refine Calls.mono (rsame_0_9 _ _ _ _ _ _ _ _ _ _ _ _ _ _ _ _ _ _ _ _ _ h1 h2) ?_
      rintro e w' ⟨rfl, hb⟩
      exact RDo.of (q := ⟨⟨uA, la⟩, ⟨uB, lb⟩, false, tm, st⟩) (n := 0) (k := 1) (by simp [actP, riseI, n0, n1]) (by simp [actN]) (by simp [actK, riseIK, n0, n1]) rfl ⟨_, _, _, _, rfl, ownsRow_below hA hb, ownsRow_below hB hb⟩ hb
    by_cases sl : s = 0
    · subst sl
      clear s0 s1
      cases uA
      · have hf := hup rfl
        subst hf
        refine Calls.mono (rrise_lead_0 _ _ _ _ _ _ _ _ _ _ _ _ _ _ _ _ _ _ (by omega) (by omega)) ?_
        rintro e w' ⟨rfl, hb⟩
        exact RDo.of (q := ⟨⟨true, la⟩, ⟨false, lb⟩, false, tm + 1, max st (la.length : Int)⟩) (n := 0) (k := 0) (by simp [actP, riseI, riseP]) (by simp [actN]) (by simp [actK, riseIK, riseK]) rfl ⟨_, _, _, _, rfl, ownsRow_below hA hb, ownsRow_below hB hb⟩ hb
      ·
        refine Calls.mono (rsame_0_12 _ _ _ _ _ _ _ _ _ _ _ _ _ _ _ _ _ _ _ ) ?_
        rintro e w' ⟨rfl, hb⟩
        exact RDo.of (q := ⟨⟨true, la⟩, ⟨uB, lb⟩, false, tm, st⟩) (n := 0) (k := 14) (by simp [actP, riseI, riseP]) (by simp [actN]) (by simp [actK, riseIK, riseK]) rfl ⟨_, _, _, _, rfl, ownsRow_below hA hb, ownsRow_below hB hb⟩ hb
    · have hs : s = 1 := by omega
      subst hs
      clear s0 s1 sl
      cases uB
      · cases uA
        ·
          refine Calls.mono (rsame_0_14 _ _ _ _ _ _ _ _ _ _ _ _ _ _ _ _ _ _ ) ?_
          rintro e w' ⟨rfl, hb⟩
          exact RDo.of (q := ⟨⟨false, la⟩, ⟨false, lb⟩, false, tm, st⟩) (n := 0) (k := 12) (by simp [actP, riseI, riseP]) (by simp [actN]) (by simp [actK, riseIK, riseK]) rfl ⟨_, _, _, _, rfl, ownsRow_below hA hb, ownsRow_below hB hb⟩ hb
        · refine Calls.mono (rrise_other_0 _ _ _ _ _ _ _ _ _ _ _ _ _ _ _ _ _ _  base hA (by omega)) ?_
          rintro e w' ⟨a', c', rfl, ho, hb⟩
          refine RDo.of (q := ⟨⟨true, la⟩, ⟨true, la⟩, false, tm, st⟩) (n := 0) (k := 0) (by simp [actP, riseI, riseP]) (by simp [actN]) (by simp [actK, riseIK, riseK]) rfl ?_ hb
          exact ⟨_, _, a', c', rfl, ownsRow_below hA hb, ownsRow_mono ho hbase⟩
      ·
        refine Calls.mono (rsame_0_13 _ _ _ _ _ _ _ _ _ _ _ _ _ _ _ _ _ _ _ ) ?_
        rintro e w' ⟨rfl, hb⟩
        exact RDo.of (q := ⟨⟨uA, la⟩, ⟨true, lb⟩, false, tm, st⟩) (n := 0) (k := 14) (by simp [actP, riseI, riseP]) (by simp [actN]) (by simp [actK, riseIK, riseK]) rfl ⟨_, _, _, _, rfl, ownsRow_below hA hb, ownsRow_below hB hb⟩ hb
set_option maxHeartbeats 2000000 in
theorem rdo_1 (N base : Nat) (aA aB : Option Addr) (cA cB : Nat) (la lb : List Cmd) (uA uB : Bool) (tm st k t s ck cv ce cp cn c0 c1 c2 : Int) (w : World) (hA : w.ownsRow base 35 8 (.slice aA la.length cA) la.length (la.flatMap Cmd.row)) (hB : w.ownsRow base 35 8 (.slice aB lb.length cB) lb.length (lb.flatMap Cmd.row))
    (hi : PrInv N ⟨⟨uB, lb⟩, ⟨uA, la⟩, true, tm, st⟩) (hN : N ≤ 900) (hk0 : 0 ≤ k) (hk3 : k ≤ 3) (hbase : base ≤ w.heap.size) :
    Calls Try.prog 37 #[.agg #[.slice aA la.length cA, .slice aB lb.length cB, .bool uA, .bool uB, .int .i64 1, .int .i64 tm, .int .i64 st], .agg #[.int .i64 k, .int .i64 t, .int .i64 s, .int .i64 ck, .int .i64 cv, .int .i64 ce, .int .i64 cp, .int .i64 cn, .int .i64 c0, .int .i64 c1, .int .i64 c2]] w
      (RDo w base ⟨⟨uB, lb⟩, ⟨uA, la⟩, true, tm, st⟩ ⟨k, t, s, ⟨ck, cv, ce, cp, cn, c0, c1, c2⟩⟩) := by
  have hup : uB = false → uA = false := hi.up
  have hla : lb.length ≤ N := hi.la
  have hlb : la.length ≤ N := hi.lb
  have ht1 : 1 ≤ tm := hi.t1
  have ht2 : tm ≤ N + 1 := hi.t2
  have hpre : uA = true → la <+: lb := hi.pre
  clear hi
  by_cases k0 : k = 0
  · subst k0
    cases uB
    · have hf := hup rfl
      subst hf
      refine Calls.mono (rsame_1_0 _ _ _ _ _ _ _ _ _ _ _ _ _ _ _ _ _ _ _ _ ) ?_
      rintro e w' ⟨rfl, hb⟩
      exact RDo.of (q := ⟨⟨false, lb⟩, ⟨false, la⟩, true, tm, st⟩) (n := 0) (k := 12) (by simp [actP, askP, askK]) (by simp [actN, askN, askK]) (by simp [actK, askK]) rfl ⟨_, _, _, _, rfl, ownsRow_below hA hb, ownsRow_below hB hb⟩ hb
    by_cases ht : t = tm
    · subst ht
      have h1 : (t != t) = false := by simp
      cases uA
      · refine Calls.mono (rask_1_false _ _ _ _ _ _ _ _ _ _ _ _ _ _ _ _ _ _ _  base hB (by omega) h1) ?_
        rintro e w' ⟨a', c', rfl, ho, hb⟩
        have hl : (lb ++ [Cmd.mk ck cv ce cp cn c0 c1 c2]).length = lb.length + 1 := by simp
        refine RDo.of (q := ⟨⟨true, lb ++ [⟨ck, cv, ce, cp, cn, c0, c1, c2⟩]⟩, ⟨false, la⟩, true, t, max st ((lb.length : Int) + 1)⟩) (n := lb.length) (k := 0) (by simp [actP, askP, askK]) (by simp [actN, askN, askK]) (by simp [actK, askK]) rfl ?_ hb
        exact ⟨_, _, a', c', by simp [Pr.a, Pr.b, Pr.ld], ownsRow_below hA hb, by simpa [Pr.b] using ownsRow_mono ho hbase⟩
      · refine Calls.mono (rask_1_true _ _ _ _ _ _ _ _ _ _ _ _ _ _ _ _ _ _ _  base hB (by omega) h1) ?_
        rintro e w' ⟨a', c', rfl, ho, hb⟩
        have hl : (lb ++ [Cmd.mk ck cv ce cp cn c0 c1 c2]).length = lb.length + 1 := by simp
        refine RDo.of (q := ⟨⟨true, lb ++ [⟨ck, cv, ce, cp, cn, c0, c1, c2⟩]⟩, ⟨true, la⟩, true, t, st⟩) (n := lb.length) (k := 0) (by simp [actP, askP, askK]) (by simp [actN, askN, askK]) (by simp [actK, askK]) rfl ?_ hb
        exact ⟨_, _, a', c', by simp [Pr.a, Pr.b, Pr.ld], ownsRow_below hA hb, by simpa [Pr.b] using ownsRow_mono ho hbase⟩
    · have h1 : (t != tm) = true := by simpa using ht
      refine Calls.mono (rsame_1_1 _ _ _ _ _ _ _ _ _ _ _ _ _ _ _ _ _ _ _ _ h1) ?_
      rintro e w' ⟨rfl, hb⟩
      exact RDo.of (q := ⟨⟨true, lb⟩, ⟨uA, la⟩, true, tm, st⟩) (n := 0) (k := 13) (by simp [actP, askP, askK, ht]) (by simp [actN, askN, askK, ht]) (by simp [actK, askK, ht]) rfl ⟨_, _, _, _, rfl, ownsRow_below hA hb, ownsRow_below hB hb⟩ hb
  by_cases k1 : k = 1
  · subst k1
    clear k0
    cases uB
    · have hf := hup rfl
      subst hf
      refine Calls.mono (rsame_1_2 _ _ _ _ _ _ _ _ _ _ _ _ _ _ _ _ _ _ _ ) ?_
      rintro e w' ⟨rfl, hb⟩
      exact RDo.of (q := ⟨⟨false, lb⟩, ⟨false, la⟩, true, tm, st⟩) (n := 0) (k := 12) (by simp [actP, shipP, shipK]) (by simp [actN]) (by simp [actK, shipK]) rfl ⟨_, _, _, _, rfl, ownsRow_below hA hb, ownsRow_below hB hb⟩ hb
    cases uA
    ·
      refine Calls.mono (rsame_1_3 _ _ _ _ _ _ _ _ _ _ _ _ _ _ _ _ _ _ _ ) ?_
      rintro e w' ⟨rfl, hb⟩
      exact RDo.of (q := ⟨⟨true, lb⟩, ⟨false, la⟩, true, tm, st⟩) (n := 0) (k := 12) (by simp [actP, shipP, shipK]) (by simp [actN]) (by simp [actK, shipK]) rfl ⟨_, _, _, _, rfl, ownsRow_below hA hb, ownsRow_below hB hb⟩ hb
    by_cases ht : t = tm
    · subst ht
      have h1 : (t != t) = false := by simp
      by_cases he : la.length = lb.length
      · have h2 : ((la.length : Int) == (lb.length : Int)) = true := by rw [he]; simp
        refine Calls.mono (rsame_1_5 _ _ _ _ _ _ _ _ _ _ _ _ _ _ _ _ _ _ _ h1 h2) ?_
        rintro e w' ⟨rfl, hb⟩
        exact RDo.of (q := ⟨⟨true, lb⟩, ⟨true, la⟩, true, t, st⟩) (n := 0) (k := 6) (by simp [actP, shipP, shipK, he]) (by simp [actN]) (by simp [actK, shipK, he]) rfl ⟨_, _, _, _, rfl, ownsRow_below hA hb, ownsRow_below hB hb⟩ hb
      · have hle := (hpre rfl).length_le
        obtain ⟨x, hx⟩ : ∃ x, lb[la.length]? = some x := ⟨_, List.getElem?_eq_getElem (by omega)⟩
        refine Calls.mono (rship_1 _ _ _ _ _ _ _ _ _ _ _ _ _ _ _ _ _ _ _  base hB hA x hx (by omega) h1) ?_
        rintro e w' ⟨a', c', rfl, ho, hb⟩
        have hs : shipK ⟨⟨true, lb⟩, ⟨true, la⟩, true, t, st⟩ t = 0 := by simp [shipK, he]
        refine RDo.of (q := ⟨⟨true, lb⟩, ⟨true, la ++ [x]⟩, true, t, max st ((la.length : Int) + 1)⟩) (n := 0) (k := 0) (by show shipP ⟨⟨true, lb⟩, ⟨true, la⟩, true, t, st⟩ t = _; unfold shipP; rw [if_pos hs]; simp [hx]) (by simp [actN]) (by show shipK ⟨⟨true, lb⟩, ⟨true, la⟩, true, t, st⟩ t = 0; exact hs) rfl ?_ hb
        exact ⟨a', c', _, _, by simp [Pr.a, Pr.b, Pr.ld], by simpa [Pr.a] using ownsRow_mono ho hbase, ownsRow_below hB hb⟩
    · have h1 : (t != tm) = true := by simpa using ht
      refine Calls.mono (rsame_1_4 _ _ _ _ _ _ _ _ _ _ _ _ _ _ _ _ _ _ _ h1) ?_
      rintro e w' ⟨rfl, hb⟩
      exact RDo.of (q := ⟨⟨true, lb⟩, ⟨true, la⟩, true, tm, st⟩) (n := 0) (k := 13) (by simp [actP, shipP, shipK, ht]) (by simp [actN]) (by simp [actK, shipK, ht]) rfl ⟨_, _, _, _, rfl, ownsRow_below hA hb, ownsRow_below hB hb⟩ hb
  by_cases k2 : k = 2
  · subst k2
    clear k0 k1
    by_cases s0 : s < 0
    · have h1 : decide (s < 0) = true := by simpa using s0
      have n0 : s ≠ 0 := by omega
      have n1 : s ≠ 1 := by omega
      refine Calls.mono (rsame_1_6 _ _ _ _ _ _ _ _ _ _ _ _ _ _ _ _ _ _ _ _ _ h1) ?_
      rintro e w' ⟨rfl, hb⟩
      exact RDo.of (q := ⟨⟨uB, lb⟩, ⟨uA, la⟩, true, tm, st⟩) (n := 0) (k := 1) (by simp [actP, fallI, n0, n1]) (by simp [actN]) (by simp [actK, fallIK, n0, n1]) rfl ⟨_, _, _, _, rfl, ownsRow_below hA hb, ownsRow_below hB hb⟩ hb
    by_cases s1 : 1 < s
    · have h1 : decide (s < 0) = false := by simpa using s0
      have h2 : decide (1 < s) = true := by simpa using s1
      have n0 : s ≠ 0 := by omega
      have n1 : s ≠ 1 := by omega
      refine Calls.mono (rsame_1_7 _ _ _ _ _ _ _ _ _ _ _ _ _ _ _ _ _ _ _ _ _ h1 h2) ?_
      rintro e w' ⟨rfl, hb⟩
      exact RDo.of (q := ⟨⟨uB, lb⟩, ⟨uA, la⟩, true, tm, st⟩) (n := 0) (k := 1) (by simp [actP, fallI, n0, n1]) (by simp [actN]) (by simp [actK, fallIK, n0, n1]) rfl ⟨_, _, _, _, rfl, ownsRow_below hA hb, ownsRow_below hB hb⟩ hb
    by_cases sl : s = 1
    · subst sl
      clear s0 s1
      cases uB
      · have hf := hup rfl
        subst hf
        refine Calls.mono (rsame_1_10 _ _ _ _ _ _ _ _ _ _ _ _ _ _ _ _ _ _ _ ) ?_
        rintro e w' ⟨rfl, hb⟩
        exact RDo.of (q := ⟨⟨false, lb⟩, ⟨false, la⟩, true, tm, st⟩) (n := 0) (k := 12) (by simp [actP, fallI, fallP]) (by simp [actN]) (by simp [actK, fallIK, fallK]) rfl ⟨_, _, _, _, rfl, ownsRow_below hA hb, ownsRow_below hB hb⟩ hb
      cases uA
      ·
        refine Calls.mono (rfall_last_1 _ _ _ _ _ _ _ _ _ _ _ _ _ _ _ _ _ _ (by omega) (by omega)) ?_
        rintro e w' ⟨rfl, hb⟩
        exact RDo.of (q := ⟨⟨false, lb⟩, ⟨false, la⟩, true, tm, st⟩) (n := 0) (k := 0) (by simp [actP, fallI, fallP]) (by simp [actN]) (by simp [actK, fallIK, fallK]) rfl ⟨_, _, _, _, rfl, ownsRow_below hA hb, ownsRow_below hB hb⟩ hb
      ·
        refine Calls.mono (rfall_lead_1 _ _ _ _ _ _ _ _ _ _ _ _ _ _ _ _ _ _ (by omega) (by omega)) ?_
        rintro e w' ⟨rfl, hb⟩
        exact RDo.of (q := ⟨⟨true, la⟩, ⟨false, lb⟩, false, tm + 1, max st (la.length : Int)⟩) (n := 0) (k := 0) (by simp [actP, fallI, fallP]) (by simp [actN]) (by simp [actK, fallIK, fallK]) rfl ⟨_, _, _, _, rfl, ownsRow_below hA hb, ownsRow_below hB hb⟩ hb
    · have hs : s = 0 := by omega
      subst hs
      clear s0 s1 sl
      cases uA
      ·
        refine Calls.mono (rsame_1_11 _ _ _ _ _ _ _ _ _ _ _ _ _ _ _ _ _ _ _ ) ?_
        rintro e w' ⟨rfl, hb⟩
        exact RDo.of (q := ⟨⟨uB, lb⟩, ⟨false, la⟩, true, tm, st⟩) (n := 0) (k := 12) (by simp [actP, fallI, fallP]) (by simp [actN]) (by simp [actK, fallIK, fallK]) rfl ⟨_, _, _, _, rfl, ownsRow_below hA hb, ownsRow_below hB hb⟩ hb
      cases uB
      · exact absurd (hup rfl) (by simp)
      ·
        refine Calls.mono (rfall_other_1 _ _ _ _ _ _ _ _ _ _ _ _ _ _ _ _ _ _ (by omega) (by omega)) ?_
        rintro e w' ⟨rfl, hb⟩
        exact RDo.of (q := ⟨⟨true, lb⟩, ⟨false, la⟩, true, tm, max st (lb.length : Int)⟩) (n := 0) (k := 0) (by simp [actP, fallI, fallP]) (by simp [actN]) (by simp [actK, fallIK, fallK]) rfl ⟨_, _, _, _, rfl, ownsRow_below hA hb, ownsRow_below hB hb⟩ hb
  have k3 : k = 3 := by omega
  · subst k3
    clear k0 k1 k2
    by_cases s0 : s < 0
    · have h1 : decide (s < 0) = true := by simpa using s0
      have n0 : s ≠ 0 := by omega
      have n1 : s ≠ 1 := by omega
      refine Calls.mono (rsame_1_8 _ _ _ _ _ _ _ _ _ _ _ _ _ _ _ _ _ _ _ _ _ h1) ?_
      rintro e w' ⟨rfl, hb⟩
      exact RDo.of (q := ⟨⟨uB, lb⟩, ⟨uA, la⟩, true, tm, st⟩) (n := 0) (k := 1) (by simp [actP, riseI, n0, n1]) (by simp [actN]) (by simp [actK, riseIK, n0, n1]) rfl ⟨_, _, _, _, rfl, ownsRow_below hA hb, ownsRow_below hB hb⟩ hb
    by_cases s1 : 1 < s
    · have h1 : decide (s < 0) = false := by simpa using s0
      have h2 : decide (1 < s) = true := by simpa using s1
      have n0 : s ≠ 0 := by omega
      have n1 : s ≠ 1 := by omega
      refine Calls.mono (rsame_1_9 _ _ _ _ _ _ _ _ _ _ _ _ _ _ _ _ _ _ _ _ _ h1 h2) ?_
      rintro e w' ⟨rfl, hb⟩
      exact RDo.of (q := ⟨⟨uB, lb⟩, ⟨uA, la⟩, true, tm, st⟩) (n := 0) (k := 1) (by simp [actP, riseI, n0, n1]) (by simp [actN]) (by simp [actK, riseIK, n0, n1]) rfl ⟨_, _, _, _, rfl, ownsRow_below hA hb, ownsRow_below hB hb⟩ hb
    by_cases sl : s = 1
    · subst sl
      clear s0 s1
      cases uB
      · have hf := hup rfl
        subst hf
        refine Calls.mono (rrise_lead_1 _ _ _ _ _ _ _ _ _ _ _ _ _ _ _ _ _ _ (by omega) (by omega)) ?_
        rintro e w' ⟨rfl, hb⟩
        exact RDo.of (q := ⟨⟨true, lb⟩, ⟨false, la⟩, true, tm + 1, max st (lb.length : Int)⟩) (n := 0) (k := 0) (by simp [actP, riseI, riseP]) (by simp [actN]) (by simp [actK, riseIK, riseK]) rfl ⟨_, _, _, _, rfl, ownsRow_below hA hb, ownsRow_below hB hb⟩ hb
      ·
        refine Calls.mono (rsame_1_12 _ _ _ _ _ _ _ _ _ _ _ _ _ _ _ _ _ _ _ ) ?_
        rintro e w' ⟨rfl, hb⟩
        exact RDo.of (q := ⟨⟨true, lb⟩, ⟨uA, la⟩, true, tm, st⟩) (n := 0) (k := 14) (by simp [actP, riseI, riseP]) (by simp [actN]) (by simp [actK, riseIK, riseK]) rfl ⟨_, _, _, _, rfl, ownsRow_below hA hb, ownsRow_below hB hb⟩ hb
    · have hs : s = 0 := by omega
      subst hs
      clear s0 s1 sl
      cases uA
      · cases uB
        ·
          refine Calls.mono (rsame_1_14 _ _ _ _ _ _ _ _ _ _ _ _ _ _ _ _ _ _ ) ?_
          rintro e w' ⟨rfl, hb⟩
          exact RDo.of (q := ⟨⟨false, lb⟩, ⟨false, la⟩, true, tm, st⟩) (n := 0) (k := 12) (by simp [actP, riseI, riseP]) (by simp [actN]) (by simp [actK, riseIK, riseK]) rfl ⟨_, _, _, _, rfl, ownsRow_below hA hb, ownsRow_below hB hb⟩ hb
        · refine Calls.mono (rrise_other_1 _ _ _ _ _ _ _ _ _ _ _ _ _ _ _ _ _ _  base hB (by omega)) ?_
          rintro e w' ⟨a', c', rfl, ho, hb⟩
          refine RDo.of (q := ⟨⟨true, lb⟩, ⟨true, lb⟩, true, tm, st⟩) (n := 0) (k := 0) (by simp [actP, riseI, riseP]) (by simp [actN]) (by simp [actK, riseIK, riseK]) rfl ?_ hb
          exact ⟨a', c', _, _, rfl, ownsRow_mono ho hbase, ownsRow_below hB hb⟩
      ·
        refine Calls.mono (rsame_1_13 _ _ _ _ _ _ _ _ _ _ _ _ _ _ _ _ _ _ _ ) ?_
        rintro e w' ⟨rfl, hb⟩
        exact RDo.of (q := ⟨⟨uB, lb⟩, ⟨true, la⟩, true, tm, st⟩) (n := 0) (k := 14) (by simp [actP, riseI, riseP]) (by simp [actN]) (by simp [actK, riseIK, riseK]) rfl ⟨_, _, _, _, rfl, ownsRow_below hA hb, ownsRow_below hB hb⟩ hb
end Go.Proofs.Ytigkcbnlbdiimaa

/- corncriblaw20.maps; what stays beside a pair; calls that answer nothing. -/
namespace Go.Proofs.Ytigkcbnlbdiimaa
open Go.RowKit
set_option maxRecDepth 100000 in
set_option maxHeartbeats 4000000 in
theorem maps_any (base : Nat) (a : Option Addr) (n cap : Nat) (cs : List Cmd) (w : World) (h : w.ownsRow base 35 8 (.slice a n cap) n (cs.flatMap Cmd.row)) (hl : cs.length = n) (hn : n ≤ 1000) :
    Calls Try.prog 38 #[.slice a n cap] w
      fun e w' => ∃ v', e = .returned v' ∧ Reads w' 1 v' (mapBytes (doAll [] cs)).length ((mapBytes (doAll [] cs)).map bv) ∧ Below w.heap.size w w' := by
  have H := Lib.hid h
  have HL := Lib.hid hl
  clear h hl
  go_enter Try.func38, Try.ntmps38
  go_wp2_with fail
  go_loopw [3, 4] (fun x i wr => ∃ (k : Nat) (xv : Value), k ≤ n ∧ i = .int .i64 k ∧ x = xv ∧ wr.ownsRow w.heap.size 128 6 xv (doAll [] (cs.take k)).length ((doAll [] (cs.take k)).flatMap Ent.row) ∧ Below w.heap.size w wr) (fun _ i _ => n - (intOf i).toNat)
  case atStart => exact ⟨0, _, Nat.zero_le _, rfl, rfl, World.ownsRow_nil _ _ _ _, Below.refl _ _⟩
  case round =>
    obtain ⟨i, x, hi, rfl, hx, hown, hb⟩ := hrel
    have hx' := hx.symm
    clear hx
    subst hx'
    have HX := Lib.hid hown
    have HB := Lib.hid hb
    have hzr := hb.size
    clear hown hb
    by_cases hlt : i < n
    · obtain ⟨c, hc⟩ : ∃ c, cs[i]? = some c := ⟨_, List.getElem?_eq_getElem (by rw [HL.out]; exact hlt)⟩
      have HTK := Lib.hid (take_snoc_get cs i c hc)
      obtain ⟨g, cg, e1, hg, _, _, q0, q1, q2, q3, q4, q5, q6, q7⟩ := row_cmd19 (ownsRow_below H.out HB.out) i c hc
      obtain ⟨e1a, -, e1c⟩ := slice_inj e1
      subst e1a e1c
      have hdl : (doAll [] (cs.take i)).length ≤ 4096 := by have := doAll_le (cs.take i) []; simp at this; omega
      have HDL := Lib.hid hdl
      obtain ⟨es, hes⟩ : ∃ es, es = doAll [] (cs.take i) := ⟨_, rfl⟩
      have HES := Lib.hid hes
      have HX' := Lib.hid (show wr.ownsRow w.heap.size 128 6 x es.length (es.flatMap Ent.row) by rw [hes]; exact HX.out)
      have HDL' := Lib.hid (show es.length ≤ 4096 by rw [hes]; exact hdl)
      clear e1 hc hdl hes HX HDL
      have hi0 : (0 : Int) ≤ (i : Int) := by omega
      have hi1 : (i : Int) < (n : Int) := by omega
      obtain ⟨ck, cv, ce, cp, cn, c0, c1, c2⟩ := c
      go_wp2_with fail
      refine (ref_do_any w.heap.size x es ⟨ck, cv, ce, cp, cn, c0, c1, c2⟩ _ HX'.out HDL'.out (by omega)).mono ?_
      rintro e w6 ⟨v6, rfl, hr6, hb6⟩
      have HX6 := Lib.hid hr6
      have HB6 := Lib.hid (HB.out.trans (hb6.mono hzr))
      clear hr6 hb6
      go_wp2_with fail
      go_roundw
      case rel =>
        refine ⟨i + 1, v6, by omega, by go_num, rfl, ?_, HB6.out⟩
        rw [HTK.out, doAll_snoc, ← HES.out]
        exact HX6.out
      case measure => simp [intOf]; omega
    · have hcs : cs.take i = cs := List.take_of_length_le (by rw [HL.out]; omega)
      have HX' := Lib.hid (show wr.ownsRow w.heap.size 128 6 x (doAll [] cs).length ((doAll [] cs).flatMap Ent.row) by rw [← hcs]; exact HX.out)
      clear HX hcs
      have HDL := Lib.hid (show (doAll [] cs).length ≤ 4096 by have := doAll_le cs []; rw [HL.out] at this; simp at this; omega)
      have HGD := Lib.hid (good_log cs (by rw [HL.out]; omega))
      have HCL := Lib.hid (show cs.length ≤ 1000 by rw [HL.out]; omega)
      go_wp2_with fail
      refine (ref_bytes _ _ (doAll [] cs) _ _ HX'.out HDL.out HGD.out (by have := HCL.out; omega)).mono ?_
      rintro e w12 ⟨v12, rfl, ho12, hb12⟩
      have HR12 := Lib.hid (reads_of_owns ho12)
      have HB12 := Lib.hid (HB.out.trans (hb12.mono hzr))
      clear ho12 hb12
      go_wp2_with fail
      go_ret
      exact ⟨_, rfl, HR12.out, HB12.out⟩
/-- Blocks of other kinds stay. -/
def BStays (w w' : World) : Prop := ∀ (k : Nat) (cs : Array Value) (t : TypeId), w.heap[k]? = some (.cells cs t (0, 0)) → t ≠ 119 → t ≠ 32 → w'.heap[k]? = some (.cells cs t (0, 0))
theorem PairAt.apartB {w : World} {base bp k : Nat} {t : TypeId} {va vb : Value} {p : Pr} {cs : Array Value} (h : PairAt w base bp va vb p) (hh : w.heap[k]? = some (.cells cs t (0, 0))) (h1 : t ≠ 119) (h2 : t ≠ 32) : ¬ Foot bp va vb k := by
  intro hf
  rcases hf with rfl | hf | hf
  · rw [h.blk] at hh
    simp only [Option.some.injEq, Obj.cells.injEq] at hh
    exact h1 hh.2.1.symm
  · rcases h.ra.2 with ⟨e, _⟩ | ⟨g2, cap2, cur2, e, _, hh2, _⟩
    · rw [e] at hf; cases hf
    · rw [e] at hf
      simp only [Value.ownBlock, Option.some.injEq] at hf
      subst hf
      rw [hh2] at hh
      simp only [Option.some.injEq, Obj.cells.injEq] at hh
      exact h2 hh.2.1.symm
  · rcases h.rb.2 with ⟨e, _⟩ | ⟨g2, cap2, cur2, e, _, hh2, _⟩
    · rw [e] at hf; cases hf
    · rw [e] at hf
      simp only [Value.ownBlock, Option.some.injEq] at hf
      subst hf
      rw [hh2] at hh
      simp only [Option.some.injEq, Obj.cells.injEq] at hh
      exact h2 hh.2.1.symm
theorem PairTo.bstays {w w' : World} {base bp : Nat} {va vb : Value} {p q : Pr} (h : PairAt w base bp va vb p) (hp : PairTo w base bp va vb q w') : BStays w w' := by
  obtain ⟨_, _, _, _, hk⟩ := hp
  exact fun k cs t hh h1 h2 => (hk.block k (Array.getElem?_eq_some_iff.1 hh).1 (h.apartB hh h1 h2)).trans hh
theorem act_ps2 (w0 : World) (N bp : Nat) (p : Pr) (a : Act) (w : World) (h : PS w0 w bp p) (hi : PrInv N p) (hN : N ≤ 10000) :
    Calls Try.prog 27 #[.pointer (some ⟨bp, 0, none⟩), .agg #[.int .i64 a.kind, .int .i64 a.term, .int .i64 a.side, .int .i64 a.c.kind, .int .i64 a.c.vol, .int .i64 a.c.epoch, .int .i64 a.c.spot, .int .i64 a.c.node, .int .i64 a.c.n0, .int .i64 a.c.n1, .int .i64 a.c.n2]] w
      fun e w' => e = .returned (.tuple #[.int .i64 (actN p a), .int .i64 (actK p a)]) ∧ PS w0 w' bp (actP p a) ∧ Stays w w' ∧ BStays w w' := by
  obtain ⟨va, vb, h1, h2⟩ := h
  exact (act_any N _ bp va vb p a w h1 hi hN).mono fun e w' ⟨he, hp⟩ => ⟨he, PS.to h1 h2 hp, PairTo.stays h1 hp, PairTo.bstays h1 hp⟩
set_option maxHeartbeats 1000000 in
theorem answer_out (w0 : World) (bp : Nat) (p : Pr) (j : Int) (w : World) (h : PS w0 w bp p) (hj : j = p.settled) (hs0 : 0 ≤ p.settled) :
    Calls Try.prog 29 #[.pointer (some ⟨bp, 0, none⟩), .int .i64 j] w fun e w' => e = .returned (.tuple #[.int .i64 0, errV 6]) ∧ Below w.heap.size w w' := by
  obtain ⟨va, vb, h1, _⟩ := h
  obtain ⟨_, _, _, _, _, _, k6, _⟩ := h1.cell
  clear h1
  subst hj
  generalize p.settled = st at *
  have HN := Lib.hid errV_6
  go_enter Try.func29, Try.ntmps29
  go_wp2_with fail
  go_ret2
  exact ⟨by rw [HN.out]; rfl, Below.refl _ _⟩
/-- The document's pair in a block of its own. -/
def RBox (w : World) (base bm : Nat) (q : Pr) : Prop :=
  ∃ aA cA aB cB, w.heap[bm]? = some (.cells #[.slice aA q.a.log.length cA, .slice aB q.b.log.length cB, .bool q.a.up, .bool q.b.up, .int .i64 q.ld, .int .i64 q.term, .int .i64 q.settled] 67 (0, 0)) ∧
    w.ownsRow base 35 8 (.slice aA q.a.log.length cA) q.a.log.length (q.a.log.flatMap Cmd.row) ∧ w.ownsRow base 35 8 (.slice aB q.b.log.length cB) q.b.log.length (q.b.log.flatMap Cmd.row)
theorem RBox.stays {w w' : World} {base bm : Nat} {q : Pr} (h : RBox w base bm q) (h1 : Stays w w') (h2 : BStays w w') : RBox w' base bm q := by
  obtain ⟨aA, cA, aB, cB, hb, hA, hB⟩ := h
  exact ⟨aA, cA, aB, cB, h2 _ _ _ hb (by decide) (by decide), h1 _ _ _ _ _ _ (by decide) (by decide) hA, h1 _ _ _ _ _ _ (by decide) (by decide) hB⟩
theorem RBox.later {w w' : World} {base bm : Nat} {q : Pr} (h : RBox w base bm q) (hb : Below w.heap.size w w') : RBox w' base bm q := by
  obtain ⟨aA, cA, aB, cB, hk, hA, hB⟩ := h
  exact ⟨aA, cA, aB, cB, (hb.block _ (Array.getElem?_eq_some_iff.1 hk).1).trans hk, ownsRow_below hA hb, ownsRow_below hB hb⟩
theorem RBox.lt {w : World} {base bm : Nat} {q : Pr} (h : RBox w base bm q) : bm < w.heap.size := by
  obtain ⟨_, _, _, _, hk, _, _⟩ := h
  exact (Array.getElem?_eq_some_iff.1 hk).1
/-- A row of another kind stays while one block is written. -/
theorem row_apart {w w' : World} {base bm n s : Nat} {t u : TypeId} {v : Value} {xs : List Value} {ca : Array Value} (h : w.ownsRow base t s v n xs) (hb : w.heap[bm]? = some (.cells ca u (0, 0))) (hne : t ≠ u) (hk : Keeps (fun b => b = bm) w w') : w'.ownsRow base t s v n xs := by
  refine ownsRow_keeps h hk fun g hg e => ?_
  subst e
  rcases h.2 with ⟨rfl, _⟩ | ⟨g', cap, cur, rfl, _, hh, _⟩
  · cases hg
  · simp only [Value.ownBlock, Option.some.injEq] at hg
    subst hg
    rw [hb] at hh
    simp only [Option.some.injEq, Obj.cells.injEq] at hh
    exact hne hh.2.1.symm
theorem PS.set {w0 w w' : World} {bp bm : Nat} {p : Pr} {ca : Array Value} (h : PS w0 w bp p) (hb : w.heap[bm]? = some (.cells ca 67 (0, 0))) (hlt : w0.heap.size ≤ bm) (hk : Keeps (fun b => b = bm) w w') : PS w0 w' bp p := by
  obtain ⟨va, vb, h1, h2⟩ := h
  exact ⟨va, vb, h1.keeps hk (fun k hf e => h1.apartB hb (by decide) (by decide) (by rw [← e]; exact hf)), h2.trans (hk.below h2.size (fun k e => by rw [e]; exact hlt))⟩
theorem rdo_any (N base : Nat) (p : Pr) (a : Act) (aA aB : Option Addr) (cA cB : Nat) (w : World) (hA : w.ownsRow base 35 8 (.slice aA p.a.log.length cA) p.a.log.length (p.a.log.flatMap Cmd.row)) (hB : w.ownsRow base 35 8 (.slice aB p.b.log.length cB) p.b.log.length (p.b.log.flatMap Cmd.row))
    (hi : PrInv N p) (hN : N ≤ 900) (hk0 : 0 ≤ a.kind) (hk3 : a.kind ≤ 3) (hbase : base ≤ w.heap.size) :
    Calls Try.prog 37 #[.agg #[.slice aA p.a.log.length cA, .slice aB p.b.log.length cB, .bool p.a.up, .bool p.b.up, .int .i64 p.ld, .int .i64 p.term, .int .i64 p.settled], .agg #[.int .i64 a.kind, .int .i64 a.term, .int .i64 a.side, .int .i64 a.c.kind, .int .i64 a.c.vol, .int .i64 a.c.epoch, .int .i64 a.c.spot, .int .i64 a.c.node, .int .i64 a.c.n0, .int .i64 a.c.n1, .int .i64 a.c.n2]] w (RDo w base p a) := by
  obtain ⟨⟨uL, lL⟩, ⟨uF, lF⟩, ld, tm, st⟩ := p
  cases ld
  · exact rdo_0 N base aA aB cA cB lL lF uL uF tm st _ _ _ _ _ _ _ _ _ _ _ w hA hB hi hN hk0 hk3 hbase
  · exact rdo_1 N base aA aB cA cB lF lL uF uL tm st _ _ _ _ _ _ _ _ _ _ _ w hA hB hi hN hk0 hk3 hbase
theorem store7_keeps {w : World} {b : Nat} (u0 u1 u2 u3 u4 u5 u6 : Value) :
    Keeps (fun k => k = b) w (((((((w.setCell ⟨b, 0, none⟩ u0).setCell ⟨b, 1, none⟩ u1).setCell ⟨b, 2, none⟩ u2).setCell ⟨b, 3, none⟩ u3).setCell ⟨b, 4, none⟩ u4).setCell ⟨b, 5, none⟩ u5).setCell ⟨b, 6, none⟩ u6) := by
  repeat (with_reducible refine Keeps.setCell ?_ _ _ (fun _ => rfl))
  exact Keeps.refl _ _
end Go.Proofs.Ytigkcbnlbdiimaa

/- A region that draws its order, walked along a plan, as XOrderT; who waits for whom stands in bit masks, checked once (a great region would take the elder check too long). -/
namespace Go.Proofs.Ytigkcbnlbdiimaa
open Go.RowKit
def bitOf (ms : List Nat) (j i : Nat) : Bool := (ms.getD j 0).testBit i
def stepMask (ms : List Nat) (o : Oper) (j : Nat) : Nat := o.after.toList.foldl (fun m e => if (Region.binds .any e && decide (e.on < j)) = true then m ||| (2 ^ e.on ||| ms.getD e.on 0) else m) 0
def okMasks (ops : Array Oper) (ms : List Nat) : Bool := (List.range ops.size).all fun j => match ops[j]? with | some o => ms.getD j 0 == stepMask ms o j | none => true
theorem fold_bit (ms : List Nat) (j i : Nat) : ∀ (l : List Edge) (m : Nat), (l.foldl (fun m e => if (Region.binds .any e && decide (e.on < j)) = true then m ||| (2 ^ e.on ||| ms.getD e.on 0) else m) m).testBit i = true →
    m.testBit i = true ∨ ∃ e ∈ l, Region.binds .any e = true ∧ e.on < j ∧ (e.on = i ∨ bitOf ms e.on i = true)
  | [], m, h => .inl h
  | e :: l, m, h => by
    rw [List.foldl_cons] at h
    rcases fold_bit ms j i l _ h with h1 | ⟨e', he, h2⟩
    · split at h1
      · rename_i hb
        simp only [Bool.and_eq_true, decide_eq_true_eq] at hb
        rw [Nat.testBit_or, Nat.testBit_or, Nat.testBit_two_pow] at h1
        simp only [Bool.or_eq_true, decide_eq_true_eq] at h1
        rcases h1 with h1 | h1 | h1
        · exact .inl h1
        · exact .inr ⟨e, List.mem_cons_self, hb.1, hb.2, .inl h1⟩
        · exact .inr ⟨e, List.mem_cons_self, hb.1, hb.2, .inr h1⟩
      · exact .inl h1
    · exact .inr ⟨e', List.mem_cons_of_mem _ he, h2⟩
theorem Closed.bits {ops : Array Oper} {ms : List Nat} {listed : Array Bool} (hc : Closed ops listed) (hm : okMasks ops ms = true) (i : Nat) : ∀ (n j : Nat), j < n → ∀ (o : Oper), ops[j]? = some o → (∀ e ∈ o.after, Region.binds .any e = true → listed.getD e.on false = true) →
    bitOf ms j i = true → listed.getD i false = true
  | 0, _, h, _, _, _, _ => by omega
  | n + 1, j, hj, o, ho, hall, h => by
    have hjs := (Array.getElem?_eq_some_iff.1 ho).1
    simp only [okMasks, List.all_eq_true, List.mem_range] at hm
    have h1 := hm j hjs
    rw [ho] at h1
    simp only [beq_iff_eq] at h1
    unfold bitOf at h
    rw [h1] at h
    rcases fold_bit ms j i _ _ h with h2 | ⟨e, he, hb, hlt, h3⟩
    · simp at h2
    · have hon := hall e (by simpa using he) hb
      rcases h3 with rfl | h3
      · exact hon
      · have ho' : ops[e.on]? = some ops[e.on] := Array.getElem?_eq_getElem (by omega)
        refine Closed.bits hc (by simp only [okMasks, List.all_eq_true, List.mem_range]; exact hm) i n e.on (by omega) _ ho' (hc e.on _ ho' (getD_true_of_false hon)) h3
def needsM (ms : List Nat) (rds : List Nat) (j : Nat) : Bool := rds.any fun r => r != j && !bitOf ms j r
def freeM (ops : Array Oper) (ms : List Nat) (rds : List Nat) (rd : Bool) (listed : Array Bool) (i : Nat) (oi : Oper) : Bool :=
  (List.range ops.size).all fun j => j == i || !unlisted listed j || bitOf ms j i || match ops[j]? with
    | some oj => oi.apart ops oj && (!rd || needsM ms rds j)
    | none => true
section
variable {P : Program} {ops : Array Oper} {Q : Exit → Go.Act → World → Prop} {S : World → Prop} {rds ms : List Nat}
/-- As wpAny, and S is said behind each operation behind which it is needed. -/
def wpAnyM (P : Program) (ops : Array Oper) (ms : List Nat) (rds : List Nat) (Q : Exit → Go.Act → World → Prop) (S : World → Prop) : Nat → Array Bool → Go.Act → World → Prop
  | 0, listed, a, w => Region.ready .any ops listed = [] ∧ Q .normal a w
  | fuel + 1, listed, a, w =>
    (Region.ready .any ops listed = [] → Q .normal a w) ∧
    ∀ i ∈ Region.ready .any ops listed, wpOp P ops Q i (fun a' w' => (needsM ms rds i = true → S w → S w') ∧ wpAnyM P ops ms rds Q S fuel (listed.setIfInBounds i true) a' w') a w
theorem wpAny_of_M : ∀ (fuel : Nat) (listed : Array Bool) (a : Go.Act) (w : World), wpAnyM P ops ms rds Q S fuel listed a w → wpAny P .any ops Q fuel listed a w
  | 0, _, _, _, h => h
  | fuel + 1, listed, a, w, h => ⟨h.1, fun i hi => wpOp_mono (fun a' w' h' => wpAny_of_M fuel _ a' w' h'.2) (h.2 i hi)⟩

theorem wpAnyM_first (hms : okMasks ops ms = true) {T : World → Prop} {i : Nat} {oi : Oper} {v : Value} {rd : Bool} (hi : ops[i]? = some oi) (hsel : ∀ (j : Nat) (o : Oper) cs b, ops[j]? = some o → o.op ≠ .select cs b)
    (hQ : ∀ c a w, Q (.panic c) (a.put oi.dst v) w → Q (.panic c) a w) (hTS : rd = true → ∀ w, S w → T w) (hST : rd = true → ∀ w, T w → S w) (hT0 : rd = false → ∀ w, T w) :
    ∀ (fuel : Nat) (listed : Array Bool) (a : Go.Act) (w : World), Closed ops listed →
      (∀ j oj, ops[j]? = some oj → j ≠ i → listed.getD j true = false → bitOf ms j i = true ∨ (oi.apart ops oj = true ∧ (rd = true → needsM ms rds j = true))) →
      i ∈ Region.ready .any ops listed → T w → YieldsT P ops T oi v a →
      wpAnyM P ops ms rds Q S fuel (listed.setIfInBounds i true) (a.put oi.dst v) w → wpAnyM P ops ms rds Q S (fuel + 1) listed a w := by
  intro fuel
  induction fuel with
  | zero =>
    intro listed a w _ _ hr hT hy H
    refine ⟨fun h => (by rw [h] at hr; cases hr), fun j hj => ?_⟩
    by_cases hji : j = i
    · subst hji; exact hy.wpOp hi hT ⟨fun _ h => h, H⟩
    · have := ready_mono hj hji
      rw [H.1] at this
      cases this
  | succ fuel ih =>
    intro listed a w hcl hfree hr hT hy H
    refine ⟨fun h => (by rw [h] at hr; cases hr), fun j hj => ?_⟩
    by_cases hji : j = i
    · subst hji; exact hy.wpOp hi hT ⟨fun _ h => h, H⟩
    · have h1 := H.2 j (ready_mono hj hji)
      obtain ⟨hjun, oj, hoj, hall⟩ := mem_ready.1 hj
      have hiun := (mem_ready.1 hr).1
      have hnot : ¬ bitOf ms j i = true := fun hw => by
        have h1 := hcl.bits hms i _ j (Nat.lt_succ_self j) oj hoj hall hw
        have h2 := getD_true_of_false h1
        rw [hiun] at h2
        cases h2
      obtain ⟨hap, hnd⟩ := (hfree j oj hoj hji hjun).resolve_left hnot
      have h2 := wpOp_putT hoj hap (fun cs b => hsel i oi cs b hi) (fun cs b => hsel j oj cs b hoj) hQ hy h1
      have hfree' : ∀ k ok, ops[k]? = some ok → k ≠ i → (listed.setIfInBounds j true).getD k true = false →
          bitOf ms k i = true ∨ (oi.apart ops ok = true ∧ (rd = true → needsM ms rds k = true)) := fun k ok hk hki hun => by
        refine hfree k ok hk hki ?_
        by_cases hjk : j = k
        · subst hjk; exact hjun
        · rw [getD_set_ne true hjk] at hun; exact hun
      refine wpOp_mono (fun a' w' h3 => ?_) h2
      obtain ⟨h4, h5, h6⟩ := h3
      refine ⟨h5, ?_⟩
      have hT' : T w' := by
        cases hrd : rd with
        | true => exact hTS hrd w' (h5 (hnd hrd) (hST hrd w hT))
        | false => exact hT0 hrd w'
      refine ih (listed.setIfInBounds j true) a' w' (hcl.ready hj) hfree' (ready_mono hr (Ne.symm hji)) hT' h4 ?_
      rw [Array.setIfInBounds_comm _ _ hji]
      exact h6

theorem freeM_spec {rd : Bool} {listed : Array Bool} {i : Nat} {oi : Oper} (h : freeM ops ms rds rd listed i oi = true) (j : Nat) (oj : Oper) (hj : ops[j]? = some oj) (hne : j ≠ i) (hun : listed.getD j true = false) :
    bitOf ms j i = true ∨ (oi.apart ops oj = true ∧ (rd = true → needsM ms rds j = true)) := by
  simp only [freeM, List.all_eq_true, List.mem_range] at h
  have h1 := h j (Array.getElem?_eq_some_iff.1 hj).1
  simp only [hj, Bool.or_eq_true, Bool.and_eq_true, beq_iff_eq, hne, false_or, unlisted_of hun, Bool.not_true, Bool.false_eq_true, Bool.not_eq_true'] at h1
  rcases h1 with h1 | ⟨h1, h2⟩
  · exact .inl h1
  · exact .inr ⟨h1, fun hr => h2.resolve_left (by simp [hr])⟩

def okPlanM (ops : Array Oper) (ms rds : List Nat) : Bool → Array Bool → Plan → Bool
  | _, listed, .nil => (Region.ready .any ops listed).isEmpty
  | has, listed, .op i k rest => (match ops[i]? with
    | some oi => (Region.ready .any ops listed).contains i &&
      (match k with
       | 0 => freeM ops ms rds false listed i oi && okPlanM ops ms rds has (listed.setIfInBounds i true) rest
       | 1 => (Region.ready .any ops listed == [i]) && okPlanM ops ms rds (has && needsM ms rds i) (listed.setIfInBounds i true) rest
       | _ => has && freeM ops ms rds true listed i oi && okPlanM ops ms rds has (listed.setIfInBounds i true) rest)
    | none => false)
  | has, listed, .two i pi j pj => (ops[i]?).isSome && (ops[j]?).isSome && (Region.ready .any ops listed == [i, j]) && (pi.len == pj.len) &&
      okPlanM ops ms rds (has && needsM ms rds i) (listed.setIfInBounds i true) pi && okPlanM ops ms rds (has && needsM ms rds j) (listed.setIfInBounds j true) pj
def wpM (P : Program) (ops : Array Oper) (ms : List Nat) (rds : List Nat) (Q : Exit → Go.Act → World → Prop) (S : World → Prop) : Plan → Go.Act → World → Prop
  | .nil, a, w => Q .normal a w
  | .op i k rest, a, w => match ops[i]? with
    | none => False
    | some oi => match k with
      | 0 => ∃ v, YieldsT P ops (fun _ => True) oi v a ∧ wpM P ops ms rds Q S rest (a.put oi.dst v) w
      | 1 => wpOp P ops Q i (fun a' w' => (needsM ms rds i = true → S w → S w') ∧ wpM P ops ms rds Q S rest a' w') a w
      | _ => ∃ v, YieldsT P ops S oi v a ∧ wpM P ops ms rds Q S rest (a.put oi.dst v) w
  | .two i pi j pj, a, w => wpOp P ops Q i (fun a' w' => (needsM ms rds i = true → S w → S w') ∧ wpM P ops ms rds Q S pi a' w') a w ∧
      wpOp P ops Q j (fun a' w' => (needsM ms rds j = true → S w → S w') ∧ wpM P ops ms rds Q S pj a' w') a w
theorem wpN_of_M (hms : okMasks ops ms = true) (hsel : ∀ (j : Nat) (o : Oper) cs b, ops[j]? = some o → o.op ≠ .select cs b) (hQ : ∀ c a d v w, Q (.panic c) (a.put d v) w → Q (.panic c) a w) :
    ∀ (l : Plan) (has : Bool) (listed : Array Bool) (a : Go.Act) (w : World), Closed ops listed → okPlanM ops ms rds has listed l = true → (has = true → S w) →
      wpM P ops ms rds Q S l a w → wpAnyM P ops ms rds Q S l.len listed a w
  | .nil, has, listed, a, w, _, hok, _, h => ⟨by simpa [okPlanM] using hok, h⟩
  | .two i pi j pj, has, listed, a, w, hcl, hok, hS, h => by
    simp only [okPlanM, Bool.and_eq_true, beq_iff_eq] at hok
    obtain ⟨⟨⟨⟨⟨_, _⟩, hr⟩, hlen⟩, ho1⟩, ho2⟩ := hok
    have hri : i ∈ Region.ready .any ops listed := by rw [hr]; simp
    have hrj : j ∈ Region.ready .any ops listed := by rw [hr]; simp
    refine ⟨fun e => (by rw [e] at hr; cases hr), fun m hm => ?_⟩
    rw [hr] at hm
    rcases List.mem_cons.1 hm with hmi | hm
    · subst hmi
      refine wpOp_mono (fun a' w' h' => ⟨h'.1, wpN_of_M hms hsel hQ pi (has && needsM ms rds m) _ a' w' (hcl.ready hri) ho1 (fun e => ?_) h'.2⟩) h.1
      simp only [Bool.and_eq_true] at e
      exact h'.1 e.2 (hS e.1)
    · have hmj : m = j := by simpa using hm
      subst hmj
      refine wpOp_mono (fun a' w' h' => ⟨h'.1, ?_⟩) h.2
      have := wpN_of_M hms hsel hQ pj (has && needsM ms rds m) _ a' w' (hcl.ready hrj) ho2 (fun e => by
        simp only [Bool.and_eq_true] at e
        exact h'.1 e.2 (hS e.1)) h'.2
      rwa [← hlen] at this
  | .op i k rest, has, listed, a, w, hcl, hok, hS, h => by
    cases hi : ops[i]? with
    | none => simp [okPlanM, hi] at hok
    | some oi =>
      simp only [okPlanM, hi, Bool.and_eq_true, List.contains_iff_mem] at hok
      obtain ⟨hr, hok⟩ := hok
      simp only [wpM, hi] at h
      match k, hok, h with
      | 0, hok, h =>
        simp only [Bool.and_eq_true] at hok
        obtain ⟨v, hy, h⟩ := h
        refine wpAnyM_first hms (T := fun _ => True) (rd := false) hi hsel (fun c a w => hQ c a _ _ w) (fun e => by cases e) (fun e => by cases e) (fun _ _ => trivial) rest.len listed a w hcl (freeM_spec hok.1) hr trivial hy ?_
        exact wpN_of_M hms hsel hQ rest has _ _ w (hcl.ready hr) hok.2 hS h
      | 1, hok, h =>
        simp only [Bool.and_eq_true, beq_iff_eq] at hok
        refine ⟨fun e => (by rw [e] at hr; cases hr), fun j hj => ?_⟩
        rw [hok.1] at hj
        have hji : j = i := by simpa using hj
        subst hji
        refine wpOp_mono (fun a' w' h' => ⟨h'.1, wpN_of_M hms hsel hQ rest (has && needsM ms rds j) _ a' w' (hcl.ready hr) hok.2 (fun e => ?_) h'.2⟩) h
        simp only [Bool.and_eq_true] at e
        exact h'.1 e.2 (hS e.1)
      | k + 2, hok, h =>
        simp only [Bool.and_eq_true] at hok
        obtain ⟨v, hy, h⟩ := h
        refine wpAnyM_first hms (T := S) (rd := true) hi hsel (fun c a w => hQ c a _ _ w) (fun _ _ h => h) (fun _ _ h => h) (fun e => by cases e) rest.len listed a w hcl (freeM_spec hok.1.2) hr (hS hok.1.1) hy ?_
        exact wpN_of_M hms hsel hQ rest has _ _ w (hcl.ready hr) hok.2 hS h
theorem wp_region_mask0 {id : Nat} {a : Go.Act} {w : World} (S : World → Prop) (rds ms : List Nat) (l : Plan) (hm : P.follows .mixedOrders = true) (hsel : Region.noSelect ops = true)
    (hlen : l.len = ops.size) (hms : okMasks ops ms = true) (hok : okPlanM ops ms rds true (Array.replicate ops.size false) l = true)
    (hS : S w.drew) (h : wpM P ops ms rds (onlyNormal Q) S l a w.drew) : (Code.region id ops true).wp P Q a w := by
  refine wp_mono (?_ : (Code.region id ops true).wp P (onlyNormal Q) a w) (fun e a w h => by cases e <;> first | exact h | exact False.elim h)
  refine wp_region_any hm (wpAny_of_M (ms := ms) (rds := rds) (S := S) _ _ _ _ ?_)
  rw [← hlen]
  refine wpN_of_M hms (fun j o cs b => Region.noSelect_spec hsel j o cs b) (fun _ _ _ _ _ h => h) l true _ a _ ?_ (by rw [hlen]; exact hok) (fun _ => hS) h
  intro j o ho hj
  rcases Nat.lt_or_ge j l.len with h' | h'
  · simp [h'] at hj
  · have := (Array.getElem?_eq_some_iff.1 ho).1
    omega
section
variable {o : Oper} {i : Nat} {rest : Plan} {a : Go.Act} {w : World}
theorem stepMnil0 (h : Q .normal a w) : wpM P ops ms rds (onlyNormal Q) S .nil a w := h
theorem stepM0 (ho : ops[i]? = some o) (hw : Region.wanted o (yielded ops a.tmps) = true)
    (h : ∀ K : Go.Act → Prop, (∀ a, wpM P ops ms rds Q S rest a w → K a) → ∃ v, (∀ w1 : World, (execOp a.eval o).run P w1 = .ok (.value v) w1) ∧ K (a.put o.dst v)) : wpM P ops ms rds Q S (.op i 0 rest) a w := by
  obtain ⟨v, h1, h2⟩ := h _ (fun _ h => h)
  simp only [wpM, ho]
  exact ⟨v, .inl ⟨hw, fun w1 _ => h1 w1⟩, h2⟩
theorem stepM2 (ho : ops[i]? = some o) (hw : Region.wanted o (yielded ops a.tmps) = true) (v : Value) (h1 : ∀ w1 : World, S w1 → (execOp a.eval o).run P w1 = .ok (.value v) w1)
    (h : ∀ K : Go.Act → Prop, (∀ a, wpM P ops ms rds Q S rest a w → K a) → K (a.put o.dst v)) : wpM P ops ms rds Q S (.op i 2 rest) a w := by
  have h2 := h _ (fun _ h => h)
  simp only [wpM, ho]
  exact ⟨v, .inl ⟨hw, h1⟩, h2⟩
theorem stepM1 (ho : ops[i]? = some o) (hw : Region.wanted o (yielded ops a.tmps) = true) (hn : needsM ms rds i = false)
    (h : ∀ K : Go.Act → World → Prop, (∀ a' w', wpM P ops ms rds Q S rest a' w' → K a' w') → o.wp P a w K Q) : wpM P ops ms rds Q S (.op i 1 rest) a w := by
  simp only [wpM, ho, wpOp, hw, if_true]
  exact .inl (h _ fun a' w' h => ⟨fun e => absurd e (by rw [hn]; simp), h⟩)
theorem stepM1S (ho : ops[i]? = some o) (hw : Region.wanted o (yielded ops a.tmps) = true)
    (h : ∀ K : Go.Act → World → Prop, (∀ a' w', S w' ∧ wpM P ops ms rds Q S rest a' w' → K a' w') → o.wp P a w K Q) : wpM P ops ms rds Q S (.op i 1 rest) a w := by
  simp only [wpM, ho, wpOp, hw, if_true]
  exact .inl (h _ fun a' w' h => ⟨fun _ _ => h.1, h.2⟩)
theorem stepMy0 (ho : ops[i]? = some o) (hw : Region.wanted o (yielded ops a.tmps) = false)
    (h : ∀ K : Go.Act → Prop, (∀ a, wpM P ops ms rds Q S rest a w → K a) → K (a.put o.dst undef)) : wpM P ops ms rds Q S (.op i 0 rest) a w := by
  have h2 := h _ (fun _ h => h)
  simp only [wpM, ho]
  exact ⟨undef, .inr ⟨hw, rfl⟩, h2⟩
theorem stepMy2 (ho : ops[i]? = some o) (hw : Region.wanted o (yielded ops a.tmps) = false)
    (h : ∀ K : Go.Act → Prop, (∀ a, wpM P ops ms rds Q S rest a w → K a) → K (a.put o.dst undef)) : wpM P ops ms rds Q S (.op i 2 rest) a w := by
  have h2 := h _ (fun _ h => h)
  simp only [wpM, ho]
  exact ⟨undef, .inr ⟨hw, rfl⟩, h2⟩
theorem stepMy1 (ho : ops[i]? = some o) (hw : Region.wanted o (yielded ops a.tmps) = false)
    (h : ∀ K : Go.Act → Prop, (∀ a, wpM P ops ms rds Q S rest a w → K a) → K (a.put o.dst undef)) : wpM P ops ms rds Q S (.op i 1 rest) a w := by
  have h2 := h _ (fun _ h => h)
  simp only [wpM, ho, wpOp, hw, Bool.false_eq_true, if_false]
  exact ⟨fun _ h => h, h2⟩
theorem stepMx0 (ho : ops[i]? = some o) (hw : Region.wanted o (yielded ops a.tmps) = false) (h : wpM P ops ms rds Q S rest (a.put o.dst undef) w) : wpM P ops ms rds Q S (.op i 0 rest) a w := by
  simp only [wpM, ho]
  exact ⟨undef, .inr ⟨hw, rfl⟩, h⟩
theorem stepMx2 (ho : ops[i]? = some o) (hw : Region.wanted o (yielded ops a.tmps) = false) (h : wpM P ops ms rds Q S rest (a.put o.dst undef) w) : wpM P ops ms rds Q S (.op i 2 rest) a w := by
  simp only [wpM, ho]
  exact ⟨undef, .inr ⟨hw, rfl⟩, h⟩
theorem stepMx1 (ho : ops[i]? = some o) (hw : Region.wanted o (yielded ops a.tmps) = false) (h : wpM P ops ms rds Q S rest (a.put o.dst undef) w) : wpM P ops ms rds Q S (.op i 1 rest) a w := by
  simp only [wpM, ho, wpOp, hw, Bool.false_eq_true, if_false]
  exact ⟨fun _ h => h, h⟩
theorem stepMnil (h : Q .normal a w) : wpM P ops ms rds Q S .nil a w := h
theorem stepMtwo {pi pj : Plan} {j : Nat} (h1 : wpM P ops ms rds Q S (.op i 1 pi) a w) (h2 : wpM P ops ms rds Q S (.op j 1 pj) a w) (hi : (ops[i]?).isSome = true) (hj : (ops[j]?).isSome = true) : wpM P ops ms rds Q S (.two i pi j pj) a w := by
  obtain ⟨oi, hi⟩ := Option.isSome_iff_exists.1 hi
  obtain ⟨oj, hj⟩ := Option.isSome_iff_exists.1 hj
  simp only [wpM, hi] at h1
  simp only [wpM, hj] at h2
  exact ⟨h1, h2⟩
end
end
end Go.Proofs.Ytigkcbnlbdiimaa

/- TwinPlays: the walk. -/
namespace Go.Proofs.Ytigkcbnlbdiimaa
open Go.RowKit
set_option maxRecDepth 100000 in
set_option maxHeartbeats 16000000 in
theorem plays_any (ao : Option Addr) (n cap : Nat) (l : List Act) (w : World) (hl : l.length = n) (hn : n ≤ 60) (hA : 0 < n → ∃ b off, ao = some ⟨b, off, none⟩ ∧ b < w.heap.size ∧ ActsAt w b off l) :
    Calls Try.prog 8 #[.slice ao n cap] w fun e w' => e = .returned (.bool true) ∧ Below w.heap.size w w' := by
  have HL := Lib.hid hl
  have HA := Lib.hid hA
  clear hl hA
  have hd60 : decide ((60 : Int) < (n : Int)) = false := by simp; omega
  go_enter Try.func8, Try.ntmps8
  go_wp2_with fail
  refine (alive20 _).mono ?_
  rintro e w1 ⟨rfl, hb1⟩
  have hz1 := hb1.size
  have HB1 := Lib.hid hb1
  clear hb1
  go_wp2_with fail
  refine (twin_new _).mono ?_
  rintro e w2 ⟨rfl, hm2, hb2⟩
  have h0 : PS w w2 w1.heap.size Pr.new :=
    ⟨_, _, ⟨hm2.blk, ownsRow_mono hm2.ra hz1, ownsRow_mono hm2.rb hz1, hz1, hm2.na, hm2.nb, hm2.ap⟩, HB1.out.trans (hb2.mono hz1)⟩
  have H0 := Lib.hid h0
  clear h0 hm2 hb2
  go_wp2_with fail
  refine (ref20_new _).mono ?_
  rintro e w3 ⟨rfl, hb3⟩
  have H3 := Lib.hid (H0.out.later hb3)
  clear hb3
  go_wp2_with fail
  have HX : Hid (RBox (w3.alloc (.cells #[.slice none 0 0, .slice none 0 0, .bool true, .bool true, .int .i64 0, .int .i64 1, .int .i64 0] 67)) w.heap.size w3.heap.size Pr.new) :=
    Lib.hid ⟨none, 0, none, 0, heap_alloc_new _ _, World.ownsRow_nil _ _ _ _, World.ownsRow_nil _ _ _ _⟩
  obtain ⟨bm, hbm⟩ : ∃ bm, bm = w3.heap.size := ⟨_, rfl⟩
  have hbm0 : w.heap.size ≤ bm := by rw [hbm]; exact H3.out.size
  have HX' := Lib.hid (show RBox (w3.alloc (.cells #[.slice none 0 0, .slice none 0 0, .bool true, .bool true, .int .i64 0, .int .i64 1, .int .i64 0] 67)) w.heap.size bm Pr.new by rw [hbm]; exact HX.out)
  rw [← hbm]
  clear HX hbm
  go_loopg [5] n (fun g i wr => ∃ (k : Nat) (p : Pr), k ≤ n ∧ g = n - k ∧ i = .int .i64 k ∧ PS w wr w1.heap.size p ∧ PrInv k p ∧ RBox wr w.heap.size bm p)
  case atStart => exact ⟨0, Pr.new, Nat.zero_le _, rfl, rfl, H3.out.later (by repeat (first | (with_reducible exact Below.refl _ _) | (with_reducible refine Below.setCell ?_ ?_ _) | (with_reducible refine Below.alloc ?_ ?_ _) | (with_reducible refine Below.drewN ?_ _) | (with_reducible refine Below.drew ?_) | (with_reducible exact Nat.le_refl _) | (focus (simp only [World.size_alloc, World.size_setCell, World.size_drew, World.size_drewN]; omega)) | omega | exact Nat.le_refl _ | (focus (simp; done)) | (focus (simp; omega)))), PrInv.new, HX'.out⟩
  case round =>
    clear H0 H3 HX'
    obtain ⟨i, p, hi, rfl, rfl, hps, hpi, hrb⟩ := hrel
    have HPS := Lib.hid hps
    have HPI := Lib.hid hpi
    have HRB := Lib.hid hrb
    have hzr := hps.size
    have hlt0 := hps.lt
    have hbml := hrb.lt
    have ht1 := hpi.t1
    have ht2 := hpi.t2
    have hla := hpi.la
    have hs0 := hpi.s0
    clear hps hpi hrb
    by_cases hlt : i < n
    · obtain ⟨a, ha⟩ : ∃ a, l[i]? = some a := ⟨_, List.getElem?_eq_getElem (by rw [HL.out]; exact hlt)⟩
      obtain ⟨b, off, rfl, hb, hC⟩ := HA.out (by omega)
      have HC := Lib.hid (hC i a ha)
      obtain ⟨q0, q1, q2, q3, q4, q5, q6, q7, q8, q9, q10⟩ := hC i a ha
      have eb := fun o => HPS.out.below.cell (p := ⟨b, o, none⟩) hb
      have k0 := (eb _).trans q0
      have k1 := (eb _).trans q1
      have k2 := (eb _).trans q2
      have k3 := (eb _).trans q3
      have k4 := (eb _).trans q4
      have k5 := (eb _).trans q5
      have k6 := (eb _).trans q6
      have k7 := (eb _).trans q7
      have k8 := (eb _).trans q8
      have k9 := (eb _).trans q9
      have k10 := (eb _).trans q10
      have hbr : b < wr.heap.size := by omega
      clear ha hC q0 q1 q2 q3 q4 q5 q6 q7 q8 q9 q10 eb
      obtain ⟨ak, at0, asd, ⟨ck, cv, cE, cp, cN, c0, c1, c2⟩⟩ := a
      by_cases hk0 : ak < 0
      · go_wp2_with fail
        go_ret
        exact ⟨rfl, HPS.out.below⟩
      by_cases hk3 : 3 < ak
      · have hk0' : decide (ak < 0) = false := by simpa using hk0
        clear hk0
        go_wp2_with fail
        go_ret
        exact ⟨rfl, HPS.out.below⟩
      have hk0' : decide (ak < 0) = false := by simpa using hk0
      have hk3' : decide (3 < ak) = false := by simpa using hk3
      have HK0 := Lib.hid hk0
      have HK3 := Lib.hid hk3
      clear hk0 hk3
      have hi0 : (0 : Int) ≤ (i : Int) := by omega
      have hi1 : (i : Int) < (n : Int) := by omega
      have hbne : bm ≠ b := by omega
      go_upto_region 12 with fail
      go_cut [6, 7, 8] (fun x nn f wx => ∃ (bx : Nat) (aA : Option Addr) (cA : Nat) (aB : Option Addr) (cB : Nat), x = .pointer (some ⟨bx, 0, none⟩) ∧ nn = .int .i64 (actN p ⟨ak, at0, asd, ⟨ck, cv, cE, cp, cN, c0, c1, c2⟩⟩) ∧ f = .int .i64 (actK p ⟨ak, at0, asd, ⟨ck, cv, cE, cp, cN, c0, c1, c2⟩⟩) ∧ wr.heap.size ≤ bx ∧ Below wr.heap.size wr wx ∧
        wx.heap[bx]? = some (.cells #[.slice aA (actP p ⟨ak, at0, asd, ⟨ck, cv, cE, cp, cN, c0, c1, c2⟩⟩).a.log.length cA, .slice aB (actP p ⟨ak, at0, asd, ⟨ck, cv, cE, cp, cN, c0, c1, c2⟩⟩).b.log.length cB, .bool (actP p ⟨ak, at0, asd, ⟨ck, cv, cE, cp, cN, c0, c1, c2⟩⟩).a.up, .bool (actP p ⟨ak, at0, asd, ⟨ck, cv, cE, cp, cN, c0, c1, c2⟩⟩).b.up, .int .i64 (actP p ⟨ak, at0, asd, ⟨ck, cv, cE, cp, cN, c0, c1, c2⟩⟩).ld, .int .i64 (actP p ⟨ak, at0, asd, ⟨ck, cv, cE, cp, cN, c0, c1, c2⟩⟩).term, .int .i64 (actP p ⟨ak, at0, asd, ⟨ck, cv, cE, cp, cN, c0, c1, c2⟩⟩).settled] 67 (0, 0)) ∧ wx.ownsRow w.heap.size 35 8 (.slice aA (actP p ⟨ak, at0, asd, ⟨ck, cv, cE, cp, cN, c0, c1, c2⟩⟩).a.log.length cA) (actP p ⟨ak, at0, asd, ⟨ck, cv, cE, cp, cN, c0, c1, c2⟩⟩).a.log.length ((actP p ⟨ak, at0, asd, ⟨ck, cv, cE, cp, cN, c0, c1, c2⟩⟩).a.log.flatMap Cmd.row) ∧ wx.ownsRow w.heap.size 35 8 (.slice aB (actP p ⟨ak, at0, asd, ⟨ck, cv, cE, cp, cN, c0, c1, c2⟩⟩).b.log.length cB) (actP p ⟨ak, at0, asd, ⟨ck, cv, cE, cp, cN, c0, c1, c2⟩⟩).b.log.length ((actP p ⟨ak, at0, asd, ⟨ck, cv, cE, cp, cN, c0, c1, c2⟩⟩).b.log.flatMap Cmd.row))
      case first =>
        focus
          obtain ⟨aA, cA, aB, cB, hbk, hoA, hoB⟩ := HRB.out
          have HBK := Lib.hid hbk
          have HOA := Lib.hid hoA
          have HOB := Lib.hid hoB
          clear hbk hoA hoB
          have HCC := Lib.hid (And.intro k0 (And.intro k1 (And.intro k2 (And.intro k3 (And.intro k4 (And.intro k5 (And.intro k6 (And.intro k7 (And.intro k8 (And.intro k9 k10))))))))))
          clear k0 k1 k2 k3 k4 k5 k6 k7 k8 k9 k10
          obtain ⟨SS, HSD⟩ : ∃ SS : World → Prop, Hid (SS = fun w' => w'.heap[bm]? = some (.cells #[.slice aA p.a.log.length cA, .slice aB p.b.log.length cB, .bool p.a.up, .bool p.b.up, .int .i64 p.ld, .int .i64 p.term, .int .i64 p.settled] 67 (0, 0)) ∧ w'.heap[b]? = wr.heap[b]?) := ⟨_, Lib.hid rfl⟩
          refine wp_region_mask0 SS [0, 4] [0, 0, 0, 6, 14, 31, 63, 127, 127, 127, 0, 1279, 3583, 8191] (.op 0 2 (.op 1 0 (.op 2 0 (.op 3 0 (.op 4 2 (.two 5 (.op 6 0 (.op 7 0 (.op 8 0 (.op 9 0 (.op 10 1 (.op 11 1 (.op 12 0 (.op 13 0 .nil)))))))) 10 (.op 5 1 (.op 6 0 (.op 7 0 (.op 8 0 (.op 9 0 (.op 11 1 (.op 12 0 (.op 13 0 .nil)))))))))))))) (by kernel_rfl) (by kernel_rfl) rfl (by kernel_rfl) (by kernel_rfl) ?_ ?_
          focus (rw [HSD.out]; exact ⟨HBK.out, rfl⟩)
          refine stepM2 rfl rfl ?_ (fun w1 hS => ?_) (fun K hK => ?_)
          rotate_left
          focus (rw [HSD.out] at hS; obtain ⟨sp, sb⟩ := hS; obtain ⟨s0, s1, s2, s3, s4, s5, s6, -⟩ := cells7 sp; have sc := (fun (o : Nat) => World.cell?_of_block (a := ⟨b, o, none⟩) sb); obtain ⟨k0, k1, k2, k3, k4, k5, k6, k7, k8, k9, k10⟩ := HCC.out; have z0 := (sc _).trans k0; have z1 := (sc _).trans k1; have z2 := (sc _).trans k2; have z3 := (sc _).trans k3; have z4 := (sc _).trans k4; have z5 := (sc _).trans k5; have z6 := (sc _).trans k6; have z7 := (sc _).trans k7; have z8 := (sc _).trans k8; have z9 := (sc _).trans k9; have z10 := (sc _).trans k10; clear sc k0 k1 k2 k3 k4 k5 k6 k7 k8 k9 k10; go_simp; rfl)
          go_simp
          refine hK _ ?_
          clear hK K
          refine stepM0 rfl rfl (fun K hK => ?_)
          go_simp
          refine hK _ ?_
          clear hK K
          refine stepM0 rfl rfl (fun K hK => ?_)
          go_simp
          refine hK _ ?_
          clear hK K
          refine stepM0 rfl rfl (fun K hK => ?_)
          go_simp
          refine hK _ ?_
          clear hK K
          refine stepM2 rfl rfl ?_ (fun w1 hS => ?_) (fun K hK => ?_)
          rotate_left
          focus (rw [HSD.out] at hS; obtain ⟨sp, sb⟩ := hS; obtain ⟨s0, s1, s2, s3, s4, s5, s6, -⟩ := cells7 sp; have sc := (fun (o : Nat) => World.cell?_of_block (a := ⟨b, o, none⟩) sb); obtain ⟨k0, k1, k2, k3, k4, k5, k6, k7, k8, k9, k10⟩ := HCC.out; have z0 := (sc _).trans k0; have z1 := (sc _).trans k1; have z2 := (sc _).trans k2; have z3 := (sc _).trans k3; have z4 := (sc _).trans k4; have z5 := (sc _).trans k5; have z6 := (sc _).trans k6; have z7 := (sc _).trans k7; have z8 := (sc _).trans k8; have z9 := (sc _).trans k9; have z10 := (sc _).trans k10; clear sc k0 k1 k2 k3 k4 k5 k6 k7 k8 k9 k10; go_simp; rfl)
          go_simp
          refine hK _ ?_
          clear hK K
          refine stepMtwo ?_ ?_ (by kernel_rfl) (by kernel_rfl)
          ·
            refine stepM1 rfl rfl (by kernel_rfl) (fun K hK => ?_)
            (go_wp2_with fail; refine Calls.mono (rdo_any i w.heap.size p ⟨ak, at0, asd, ⟨ck, cv, cE, cp, cN, c0, c1, c2⟩⟩ aA aB cA cB _ (ownsRow_below HOA.out (by repeat (first | (with_reducible exact Below.refl _ _) | (with_reducible refine Below.setCell ?_ ?_ _) | (with_reducible refine Below.alloc ?_ ?_ _) | (with_reducible refine Below.drewN ?_ _) | (with_reducible refine Below.drew ?_) | (with_reducible exact Nat.le_refl _) | (focus (simp only [World.size_alloc, World.size_setCell, World.size_drew, World.size_drewN]; omega)) | omega | exact Nat.le_refl _ | (focus (simp; done)) | (focus (simp; omega))))) (ownsRow_below HOB.out (by repeat (first | (with_reducible exact Below.refl _ _) | (with_reducible refine Below.setCell ?_ ?_ _) | (with_reducible refine Below.alloc ?_ ?_ _) | (with_reducible refine Below.drewN ?_ _) | (with_reducible refine Below.drew ?_) | (with_reducible exact Nat.le_refl _) | (focus (simp only [World.size_alloc, World.size_setCell, World.size_drew, World.size_drewN]; omega)) | omega | exact Nat.le_refl _ | (focus (simp; done)) | (focus (simp; omega))))) HPI.out (by omega) (by have := HK0.out; show 0 ≤ ak; omega) (by have := HK3.out; show ak ≤ 3; omega) (by first | omega | (simp; done) | (simp; omega))) ?_; rintro e w5 ⟨v5, rfl, ⟨aA', cA', aB', cB', rfl, hoA5, hoB5⟩, hb5⟩; have hB5 := (show Below wr.heap.size wr w5 from Below.trans (by repeat (first | (with_reducible exact Below.refl _ _) | (with_reducible refine Below.setCell ?_ ?_ _) | (with_reducible refine Below.alloc ?_ ?_ _) | (with_reducible refine Below.drewN ?_ _) | (with_reducible refine Below.drew ?_) | (with_reducible exact Nat.le_refl _) | (focus (simp only [World.size_alloc, World.size_setCell, World.size_drew, World.size_drewN]; omega)) | omega | exact Nat.le_refl _ | (focus (simp; done)) | (focus (simp; omega)))) (hb5.mono (by first | omega | (simp; done) | (simp; omega)))); have hz5 := hB5.size; have HBW5 := Lib.hid hB5; have HBK5 := Lib.hid ((hB5.block bm hbml).trans HBK.out); have HB5 := Lib.hid (hB5.block b hbr); have hbr5 : b < w5.heap.size := (by omega); have HOA5 := Lib.hid hoA5; have HOB5 := Lib.hid hoB5; clear hoA5 hoB5 hb5 hB5; go_wp2)
            refine stepM0 rfl rfl (fun K hK => ?_)
            go_simp
            refine hK _ ?_
            clear hK K
            refine stepM0 rfl rfl (fun K hK => ?_)
            go_simp
            refine hK _ ?_
            clear hK K
            refine stepM0 rfl rfl (fun K hK => ?_)
            go_simp
            refine hK _ ?_
            clear hK K
            refine stepM0 rfl rfl (fun K hK => ?_)
            go_simp
            refine hK _ ?_
            clear hK K
            refine stepM1S rfl rfl (fun K hK => ?_)
            go_wp2
            refine ⟨by rw [HSD.out]; exact (⟨blk_alloc HBK5.out _, ((Below.heap_alloc _ _ _ hbr5).trans HB5.out)⟩), ?_⟩
            refine stepM1 rfl rfl (by kernel_rfl) (fun K hK => ?_)
            go_wp2
            refine stepM0 rfl rfl (fun K hK => ?_)
            go_simp
            refine hK _ ?_
            clear hK K
            refine stepM0 rfl rfl (fun K hK => ?_)
            go_simp
            refine hK _ ?_
            clear hK K
            try refine stepMnil0 ?_
            clear HSD SS
            go_wp2_with fail
            go_meet
            exact ⟨w5.heap.size, aA', cA', aB', cB', rfl, rfl, rfl, hz5, HBW5.out.alloc hz5 _, (by repeat (first | (with_reducible refine blk_drew ?_) | (with_reducible refine blk_drewN _ ?_) | ((with_reducible refine blk_new _ ?_); (focus (simp; done))) | (with_reducible refine blk_alloc ?_ _))), HOA5.out.alloc _, HOB5.out.alloc _⟩
          ·
            refine stepM1S rfl rfl (fun K hK => ?_)
            go_wp2
            refine ⟨by rw [HSD.out]; exact (⟨blk_alloc HBK.out _, (Below.heap_alloc _ _ _ hbr)⟩), ?_⟩
            refine stepM1 rfl rfl (by kernel_rfl) (fun K hK => ?_)
            (go_wp2_with fail; refine Calls.mono (rdo_any i w.heap.size p ⟨ak, at0, asd, ⟨ck, cv, cE, cp, cN, c0, c1, c2⟩⟩ aA aB cA cB _ (ownsRow_below HOA.out (by repeat (first | (with_reducible exact Below.refl _ _) | (with_reducible refine Below.setCell ?_ ?_ _) | (with_reducible refine Below.alloc ?_ ?_ _) | (with_reducible refine Below.drewN ?_ _) | (with_reducible refine Below.drew ?_) | (with_reducible exact Nat.le_refl _) | (focus (simp only [World.size_alloc, World.size_setCell, World.size_drew, World.size_drewN]; omega)) | omega | exact Nat.le_refl _ | (focus (simp; done)) | (focus (simp; omega))))) (ownsRow_below HOB.out (by repeat (first | (with_reducible exact Below.refl _ _) | (with_reducible refine Below.setCell ?_ ?_ _) | (with_reducible refine Below.alloc ?_ ?_ _) | (with_reducible refine Below.drewN ?_ _) | (with_reducible refine Below.drew ?_) | (with_reducible exact Nat.le_refl _) | (focus (simp only [World.size_alloc, World.size_setCell, World.size_drew, World.size_drewN]; omega)) | omega | exact Nat.le_refl _ | (focus (simp; done)) | (focus (simp; omega))))) HPI.out (by omega) (by have := HK0.out; show 0 ≤ ak; omega) (by have := HK3.out; show ak ≤ 3; omega) (by first | omega | (simp; done) | (simp; omega))) ?_; rintro e w5 ⟨v5, rfl, ⟨aA', cA', aB', cB', rfl, hoA5, hoB5⟩, hb5⟩; have hB5 := (show Below wr.heap.size wr w5 from Below.trans (by repeat (first | (with_reducible exact Below.refl _ _) | (with_reducible refine Below.setCell ?_ ?_ _) | (with_reducible refine Below.alloc ?_ ?_ _) | (with_reducible refine Below.drewN ?_ _) | (with_reducible refine Below.drew ?_) | (with_reducible exact Nat.le_refl _) | (focus (simp only [World.size_alloc, World.size_setCell, World.size_drew, World.size_drewN]; omega)) | omega | exact Nat.le_refl _ | (focus (simp; done)) | (focus (simp; omega)))) (hb5.mono (by first | omega | (simp; done) | (simp; omega)))); have hz5 := hB5.size; have HBW5 := Lib.hid hB5; have HBK5 := Lib.hid ((hB5.block bm hbml).trans HBK.out); have HB5 := Lib.hid (hB5.block b hbr); have hbr5 : b < w5.heap.size := (by omega); have HOA5 := Lib.hid hoA5; have HOB5 := Lib.hid hoB5; have hxb5 : w5.heap[wr.heap.size]? = some (.cells #[.slice none 0 0, .slice none 0 0, .bool false, .bool false, .int .i64 0, .int .i64 0, .int .i64 0] 67 (0, 0)) := (hb5.block _ (by first | omega | (simp; done) | (simp; omega))).trans (by repeat (first | (with_reducible refine blk_drew ?_) | (with_reducible refine blk_drewN _ ?_) | ((with_reducible refine blk_new _ ?_); (focus (simp; done))) | (with_reducible refine blk_alloc ?_ _))); obtain ⟨x50, x51, x52, x53, x54, x55, x56, xf5⟩ := cells7 hxb5; have HXB5 := Lib.hid hxb5; clear hxb5; clear hoA5 hoB5 hb5 hB5; go_wp2)
            refine stepM0 rfl rfl (fun K hK => ?_)
            go_simp
            refine hK _ ?_
            clear hK K
            refine stepM0 rfl rfl (fun K hK => ?_)
            go_simp
            refine hK _ ?_
            clear hK K
            refine stepM0 rfl rfl (fun K hK => ?_)
            go_simp
            refine hK _ ?_
            clear hK K
            refine stepM0 rfl rfl (fun K hK => ?_)
            go_simp
            refine hK _ ?_
            clear hK K
            refine stepM1 rfl rfl (by kernel_rfl) (fun K hK => ?_)
            go_wp2
            refine stepM0 rfl rfl (fun K hK => ?_)
            go_simp
            refine hK _ ?_
            clear hK K
            refine stepM0 rfl rfl (fun K hK => ?_)
            go_simp
            refine hK _ ?_
            clear hK K
            try refine stepMnil0 ?_
            clear HSD SS
            go_wp2_with fail
            go_meet
            exact ⟨wr.heap.size, aA', cA', aB', cB', rfl, rfl, rfl, Nat.le_refl _, HBW5.out.trans (Keeps.below (store7_keeps _ _ _ _ _ _ _) hz5 (fun k e => by rw [e]; exact Nat.le_refl _)), store7 HXB5.out _ _ _ _ _ _ _, row_apart HOA5.out HXB5.out (by decide) (store7_keeps _ _ _ _ _ _ _), row_apart HOB5.out HXB5.out (by decide) (store7_keeps _ _ _ _ _ _ _)⟩
      case rest =>
          obtain ⟨bx, aA, cA, aB, cB, rfl, rfl, rfl, hbx, hbc, hxb, hoA, hoB⟩ := hcut
          obtain ⟨q, hq⟩ : ∃ q, q = actP p ⟨ak, at0, asd, ⟨ck, cv, cE, cp, cN, c0, c1, c2⟩⟩ := ⟨_, rfl⟩
          rw [← hq] at hxb hoA hoB
          have HQ := Lib.hid hq
          have HQI := Lib.hid (show PrInv (i + 1) q by rw [hq]; exact (act_step i p _ HPI.out).1)
          clear hq
          have hqa := HQI.out.la
          have hqb := HQI.out.lb
          have HOA := Lib.hid hoA
          have HOB := Lib.hid hoB
          obtain ⟨x0, x1, x2, x3, x4, x5, x6, xf⟩ := cells7 hxb
          obtain ⟨aA0, cA0, aB0, cB0, hbk0, _, _⟩ := HRB.out
          have hbk := (hbc.block bm hbml).trans hbk0
          obtain ⟨m0, m1, m2, m3, m4, m5, m6, mf⟩ := cells7 hbk
          have HBK := Lib.hid hbk
          have HBC := Lib.hid hbc
          have eb := fun o => hbc.cell (p := ⟨b, o, none⟩) hbr
          have j0 := (eb _).trans k0
          have j1 := (eb _).trans k1
          have j2 := (eb _).trans k2
          have j3 := (eb _).trans k3
          have j4 := (eb _).trans k4
          have j5 := (eb _).trans k5
          have j6 := (eb _).trans k6
          have j7 := (eb _).trans k7
          have j8 := (eb _).trans k8
          have j9 := (eb _).trans k9
          have j10 := (eb _).trans k10
          have hzc := hbc.size
          clear k0 k1 k2 k3 k4 k5 k6 k7 k8 k9 k10 eb hbk0 hbk hbc hxb hoA hoB HRB
          have hbx1 : bx ≠ bm := by omega
          have hbx2 : bm ≠ bx := by omega
          have hbb : b ≠ bm := by omega
          go_wp2_with fail
          refine (act_ps2 w i _ p ⟨ak, at0, asd, ⟨ck, cv, cE, cp, cN, c0, c1, c2⟩⟩ _ (PS.set (HPS.out.later HBC.out) HBK.out hbm0 (store7_keeps _ _ _ _ _ _ _)) HPI.out (by omega)).mono ?_
          rintro e w14 ⟨rfl, hp14, hst, hbst⟩
          rw [← HQ.out] at hp14
          have hr14 := RBox.stays (q := q) (bm := bm) ⟨aA, cA, aB, cB, store7 HBK.out _ _ _ _ _ _ _, row_apart HOA.out HBK.out (by decide) (store7_keeps _ _ _ _ _ _ _), row_apart HOB.out HBK.out (by decide) (store7_keeps _ _ _ _ _ _ _)⟩ hst hbst
          have H14 := Lib.hid hp14
          have HR14 := Lib.hid hr14
          have hbm14 := hr14.lt
          obtain ⟨aA1, cA1, aB1, cB1, hk14, hoA14, hoB14⟩ := hr14
          have HBK14 := Lib.hid hk14
          have HOA14 := Lib.hid hoA14
          have HOB14 := Lib.hid hoB14
          clear hk14 hoA14 hoB14 hp14 hst hbst x0 x1 x2 x3 x4 x5 x6 xf m0 m1 m2 m3 m4 m5 m6 mf j0 j1 j2 j3 j4 j5 j6 j7 j8 j9 j10
          have hqal : q.a.log.length ≤ i + 1 := by unfold Pr.a; split <;> assumption
          have hqbl : q.b.log.length ≤ i + 1 := by unfold Pr.b; split <;> assumption
          go_wp2_with fail
          refine (lead_ps w _ _ _ H14.out).mono ?_
          rintro e w15 ⟨rfl, rfl⟩
          go_wp2_with fail
          refine (logs_ps w _ _ _ (H14.out.later (by repeat (first | (with_reducible exact Below.refl _ _) | (with_reducible refine Below.setCell ?_ ?_ _) | (with_reducible refine Below.alloc ?_ ?_ _) | (with_reducible refine Below.drewN ?_ _) | (with_reducible refine Below.drew ?_) | (with_reducible exact Nat.le_refl _) | (focus (simp only [World.size_alloc, World.size_setCell, World.size_drew, World.size_drewN]; omega)) | omega | exact Nat.le_refl _ | (focus (simp; done)) | (focus (simp; omega)))))).mono ?_
          rintro e w15 ⟨rfl, rfl⟩
          go_wp2_with fail
          obtain ⟨SS, HSD⟩ : ∃ SS : World → Prop, Hid (SS = fun w' => w'.heap[bm]? = some (.cells #[.slice aA1 q.a.log.length cA1, .slice aB1 q.b.log.length cB1, .bool q.a.up, .bool q.b.up, .int .i64 q.ld, .int .i64 q.term, .int .i64 q.settled] 67 (0, 0))) := ⟨_, Lib.hid rfl⟩
          refine wp_region_mask0 SS [11, 17, 24, 30, 37] [0, 0, 3, 7, 15, 15, 63, 127, 255, 511, 511, 1535, 4095, 8191, 16383, 32767, 32767, 98303, 262143, 524287, 1048575, 2097151, 4194303, 2097151, 10485759, 33554431, 67108863, 134217727, 268435455, 268435455, 805306367, 1879048191, 4294967295, 8589934591, 17179869183, 34359738367, 34359738367, 103079215103, 240518168575, 549755813887, 1099511627775] (.op 0 0 (.op 1 0 (.op 2 0 (.op 3 0 (.op 4 0 (.op 5 0 (.op 6 0 (.op 7 0 (.op 8 0 (.op 9 0 (.op 10 0 (.op 11 2 (.op 12 0 (.op 13 0 (.op 14 0 (.op 15 0 (.op 16 0 (.op 17 2 (.op 18 0 (.op 19 0 (.op 20 0 (.op 21 0 (.op 23 0 (.op 24 2 (.op 22 1 (.op 25 0 (.op 26 0 (.op 27 0 (.op 28 0 (.op 29 0 (.op 30 2 (.op 31 0 (.op 32 0 (.op 33 0 (.op 34 0 (.op 35 0 (.op 36 0 (.op 37 2 (.op 38 0 (.op 39 0 (.op 40 0 .nil))))))))))))))))))))))))))))))))))))))))) (by kernel_rfl) (by kernel_rfl) rfl (by kernel_rfl) (by kernel_rfl) ?_ ?_
          focus (rw [HSD.out]; exact HBK14.out)
          refine stepM0 rfl rfl (fun K hK => ?_)
          go_simp
          refine hK _ ?_
          clear hK K
          refine stepM0 rfl rfl (fun K hK => ?_)
          go_simp
          refine hK _ ?_
          clear hK K
          refine stepM0 rfl rfl (fun K hK => ?_)
          go_simp
          refine hK _ ?_
          clear hK K
          refine stepM0 rfl rfl (fun K hK => ?_)
          go_simp
          refine hK _ ?_
          clear hK K
          refine stepM0 rfl rfl (fun K hK => ?_)
          go_simp
          refine hK _ ?_
          clear hK K
          refine stepM0 rfl rfl (fun K hK => ?_)
          go_simp
          refine hK _ ?_
          clear hK K
          refine stepM0 rfl rfl (fun K hK => ?_)
          go_simp
          refine hK _ ?_
          clear hK K
          refine stepM0 rfl rfl (fun K hK => ?_)
          go_simp
          refine hK _ ?_
          clear hK K
          refine stepM0 rfl rfl (fun K hK => ?_)
          go_simp
          refine hK _ ?_
          clear hK K
          refine stepM0 rfl rfl (fun K hK => ?_)
          go_simp
          refine hK _ ?_
          clear hK K
          refine stepM0 rfl rfl (fun K hK => ?_)
          go_simp
          refine hK _ ?_
          clear hK K
          refine stepM2 rfl rfl ?_ (fun w1 hS => ?_) (fun K hK => ?_)
          rotate_left
          focus (rw [HSD.out] at hS; obtain ⟨s0, s1, s2, s3, s4, s5, s6, -⟩ := cells7 hS; go_simp; rfl)
          go_simp
          refine hK _ ?_
          clear hK K
          refine stepM0 rfl rfl (fun K hK => ?_)
          go_simp
          refine hK _ ?_
          clear hK K
          refine stepM0 rfl rfl (fun K hK => ?_)
          go_simp
          refine hK _ ?_
          clear hK K
          refine stepM0 rfl rfl (fun K hK => ?_)
          go_simp
          refine hK _ ?_
          clear hK K
          refine stepM0 rfl rfl (fun K hK => ?_)
          go_simp
          refine hK _ ?_
          clear hK K
          refine stepM0 rfl rfl (fun K hK => ?_)
          go_simp
          refine hK _ ?_
          clear hK K
          refine stepM2 rfl rfl ?_ (fun w1 hS => ?_) (fun K hK => ?_)
          rotate_left
          focus (rw [HSD.out] at hS; obtain ⟨s0, s1, s2, s3, s4, s5, s6, -⟩ := cells7 hS; go_simp; rfl)
          go_simp
          refine hK _ ?_
          clear hK K
          refine stepM0 rfl rfl (fun K hK => ?_)
          go_simp
          refine hK _ ?_
          clear hK K
          refine stepM0 rfl rfl (fun K hK => ?_)
          go_simp
          refine hK _ ?_
          clear hK K
          refine stepM0 rfl rfl (fun K hK => ?_)
          go_simp
          refine hK _ ?_
          clear hK K
          refine stepM0 rfl rfl (fun K hK => ?_)
          go_simp
          refine hK _ ?_
          clear hK K
          refine stepM0 rfl rfl (fun K hK => ?_)
          go_simp
          refine hK _ ?_
          clear hK K
          refine stepM2 rfl rfl ?_ (fun w1 hS => ?_) (fun K hK => ?_)
          rotate_left
          focus (rw [HSD.out] at hS; obtain ⟨s0, s1, s2, s3, s4, s5, s6, -⟩ := cells7 hS; go_simp; rfl)
          go_simp
          refine hK _ ?_
          clear hK K
          refine stepM1S rfl rfl (fun K hK => ?_)
          (go_wp2_with fail; refine Calls.mono (settled_ps w _ _ _ (H14.out.later (by repeat (first | (with_reducible exact Below.refl _ _) | (with_reducible refine Below.setCell ?_ ?_ _) | (with_reducible refine Below.alloc ?_ ?_ _) | (with_reducible refine Below.drewN ?_ _) | (with_reducible refine Below.drew ?_) | (with_reducible exact Nat.le_refl _) | (focus (simp only [World.size_alloc, World.size_setCell, World.size_drew, World.size_drewN]; omega)) | omega | exact Nat.le_refl _ | (focus (simp; done)) | (focus (simp; omega)))))) ?_; rintro e w15 ⟨rfl, rfl⟩; go_wp2)
          refine ⟨by rw [HSD.out]; exact (HBK14.out), ?_⟩
          refine stepM0 rfl rfl (fun K hK => ?_)
          go_simp
          refine hK _ ?_
          clear hK K
          refine stepM0 rfl rfl (fun K hK => ?_)
          go_simp
          refine hK _ ?_
          clear hK K
          refine stepM0 rfl rfl (fun K hK => ?_)
          go_simp
          refine hK _ ?_
          clear hK K
          refine stepM0 rfl rfl (fun K hK => ?_)
          go_simp
          refine hK _ ?_
          clear hK K
          refine stepM0 rfl rfl (fun K hK => ?_)
          go_simp
          refine hK _ ?_
          clear hK K
          refine stepM2 rfl rfl ?_ (fun w1 hS => ?_) (fun K hK => ?_)
          rotate_left
          focus (rw [HSD.out] at hS; obtain ⟨s0, s1, s2, s3, s4, s5, s6, -⟩ := cells7 hS; go_simp; rfl)
          go_simp
          refine hK _ ?_
          clear hK K
          refine stepM0 rfl rfl (fun K hK => ?_)
          go_simp
          refine hK _ ?_
          clear hK K
          refine stepM0 rfl rfl (fun K hK => ?_)
          go_simp
          refine hK _ ?_
          clear hK K
          refine stepM0 rfl rfl (fun K hK => ?_)
          go_simp
          refine hK _ ?_
          clear hK K
          refine stepM0 rfl rfl (fun K hK => ?_)
          go_simp
          refine hK _ ?_
          clear hK K
          refine stepM0 rfl rfl (fun K hK => ?_)
          go_simp
          refine hK _ ?_
          clear hK K
          refine stepM0 rfl rfl (fun K hK => ?_)
          go_simp
          refine hK _ ?_
          clear hK K
          refine stepM2 rfl rfl ?_ (fun w1 hS => ?_) (fun K hK => ?_)
          rotate_left
          focus (rw [HSD.out] at hS; obtain ⟨s0, s1, s2, s3, s4, s5, s6, -⟩ := cells7 hS; go_simp; rfl)
          go_simp
          refine hK _ ?_
          clear hK K
          refine stepM0 rfl rfl (fun K hK => ?_)
          go_simp
          refine hK _ ?_
          clear hK K
          refine stepM0 rfl rfl (fun K hK => ?_)
          go_simp
          refine hK _ ?_
          clear hK K
          refine stepM0 rfl rfl (fun K hK => ?_)
          go_simp
          refine hK _ ?_
          clear hK K
          try refine stepMnil0 ?_
          clear HSD SS
          go_wp2_with fail
          focus
            obtain ⟨SS, HSD⟩ : ∃ SS : World → Prop, Hid (SS = fun w' => w'.heap[bm]? = some (.cells #[.slice aA1 q.a.log.length cA1, .slice aB1 q.b.log.length cB1, .bool q.a.up, .bool q.b.up, .int .i64 q.ld, .int .i64 q.term, .int .i64 q.settled] 67 (0, 0))) := ⟨_, Lib.hid rfl⟩
            refine wp_region_mask0 SS [4, 13] [0, 1, 3, 0, 8, 31, 63, 127, 255, 511, 1023, 2047, 511, 4607, 16383, 32767, 65535, 131071] (.op 0 0 (.op 3 0 (.op 4 2 (.op 1 1 (.op 2 1 (.op 5 1 (.op 6 1 (.op 7 0 (.op 8 0 (.op 9 0 (.op 12 0 (.op 13 2 (.op 10 1 (.op 11 1 (.op 14 1 (.op 15 1 (.op 16 0 (.op 17 0 .nil)))))))))))))))))) (by kernel_rfl) (by kernel_rfl) rfl (by kernel_rfl) (by kernel_rfl) ?_ ?_
            focus (rw [HSD.out]; exact HBK14.out)
            refine stepM0 rfl rfl (fun K hK => ?_)
            go_simp
            refine hK _ ?_
            clear hK K
            refine stepM0 rfl rfl (fun K hK => ?_)
            go_simp
            refine hK _ ?_
            clear hK K
            refine stepM2 rfl rfl ?_ (fun w1 hS => ?_) (fun K hK => ?_)
            rotate_left
            focus (rw [HSD.out] at hS; obtain ⟨s0, s1, s2, s3, s4, s5, s6, -⟩ := cells7 hS; go_simp; rfl)
            go_simp
            refine hK _ ?_
            clear hK K
            refine stepM1S rfl rfl (fun K hK => ?_)
            (go_wp2_with fail; refine Calls.mono (map_0 w _ q _ (H14.out.later (by repeat (first | (with_reducible exact Below.refl _ _) | (with_reducible refine Below.setCell ?_ ?_ _) | (with_reducible refine Below.alloc ?_ ?_ _) | (with_reducible refine Below.drewN ?_ _) | (with_reducible refine Below.drew ?_) | (with_reducible exact Nat.le_refl _) | (focus (simp only [World.size_alloc, World.size_setCell, World.size_drew, World.size_drewN]; omega)) | omega | exact Nat.le_refl _ | (focus (simp; done)) | (focus (simp; omega))))) (by omega)) ?_; rintro e w15 ⟨rfl, ⟨v15, hm15⟩, hb15⟩; have HM15 := Lib.hid hm15; clear hm15; have HB15 := Lib.hid (show Below w14.heap.size w14 w15 from Below.trans (by repeat (first | (with_reducible exact Below.refl _ _) | (with_reducible refine Below.setCell ?_ ?_ _) | (with_reducible refine Below.alloc ?_ ?_ _) | (with_reducible refine Below.drewN ?_ _) | (with_reducible refine Below.drew ?_) | (with_reducible exact Nat.le_refl _) | (focus (simp only [World.size_alloc, World.size_setCell, World.size_drew, World.size_drewN]; omega)) | omega | exact Nat.le_refl _ | (focus (simp; done)) | (focus (simp; omega)))) (hb15.mono (by first | omega | (simp; done) | (simp; omega)))); have hz15 := HB15.out.size; clear hb15; go_wp2)
            refine ⟨by rw [HSD.out]; exact (((show Below w14.heap.size w14 _ from HB15.out).block bm hbm14).trans HBK14.out), ?_⟩
            refine stepM1S rfl rfl (fun K hK => ?_)
            (go_wp2_with fail; refine Calls.mono (bytes_log q.a.log _ _ _ _ HM15.out (by omega)) ?_; rintro e w16 ⟨v16, rfl, hr16, hb16⟩; have HR16 := Lib.hid hr16; clear hr16; have HB16 := Lib.hid (show Below w14.heap.size w14 w16 from Below.trans HB15.out (hb16.mono (by first | omega | (simp; done) | (simp; omega)))); have hz16 := HB16.out.size; clear hb16; go_wp2)
            refine ⟨by rw [HSD.out]; exact (((show Below w14.heap.size w14 _ from HB16.out).block bm hbm14).trans HBK14.out), ?_⟩
            refine stepM1S rfl rfl (fun K hK => ?_)
            (go_wp2_with fail; refine Calls.mono (maps_any w.heap.size aA1 _ cA1 q.a.log _ (ownsRow_below HOA14.out HB16.out) rfl (by omega)) ?_; rintro e w17 ⟨v17, rfl, hr17, hb17⟩; have HR17 := Lib.hid hr17; have HS17 := Lib.hid (HR16.out.below hb17); clear hr17; have HB17 := Lib.hid (show Below w14.heap.size w14 w17 from Below.trans HB16.out (hb17.mono (by first | omega | (simp; done) | (simp; omega)))); have hz17 := HB17.out.size; clear hb17; go_wp2)
            refine ⟨by rw [HSD.out]; exact (((show Below w14.heap.size w14 _ from HB17.out).block bm hbm14).trans HBK14.out), ?_⟩
            refine stepM1S rfl rfl (fun K hK => ?_)
            (go_wp2_with fail; refine Calls.mono (same_any _ _ _ _ _ HS17.out HR17.out) ?_; rintro e w18 ⟨rfl, hb18⟩; rw [decide_eq_true (rfl : mapBytes (doAll [] q.a.log) = mapBytes (doAll [] q.a.log))]; have HB18 := Lib.hid (show Below w14.heap.size w14 w18 from Below.trans HB17.out (hb18.mono (by first | omega | (simp; done) | (simp; omega)))); have hz18 := HB18.out.size; clear hb18; go_wp2)
            refine ⟨by rw [HSD.out]; exact (((show Below w14.heap.size w14 _ from HB18.out).block bm hbm14).trans HBK14.out), ?_⟩
            refine stepM0 rfl rfl (fun K hK => ?_)
            go_simp
            refine hK _ ?_
            clear hK K
            refine stepM0 rfl rfl (fun K hK => ?_)
            go_simp
            refine hK _ ?_
            clear hK K
            refine stepM0 rfl rfl (fun K hK => ?_)
            go_simp
            refine hK _ ?_
            clear hK K
            refine stepM0 rfl rfl (fun K hK => ?_)
            go_simp
            refine hK _ ?_
            clear hK K
            refine stepM2 rfl rfl ?_ (fun w1 hS => ?_) (fun K hK => ?_)
            rotate_left
            focus (rw [HSD.out] at hS; obtain ⟨s0, s1, s2, s3, s4, s5, s6, -⟩ := cells7 hS; go_simp; rfl)
            go_simp
            refine hK _ ?_
            clear hK K
            refine stepM1S rfl rfl (fun K hK => ?_)
            (go_wp2_with fail; refine Calls.mono (map_1 w _ q _ (H14.out.later HB18.out) (by omega)) ?_; rintro e w19 ⟨rfl, ⟨v19, hm19⟩, hb19⟩; have HM19 := Lib.hid hm19; clear hm19; have HB19 := Lib.hid (show Below w14.heap.size w14 w19 from Below.trans HB18.out (hb19.mono (by first | omega | (simp; done) | (simp; omega)))); have hz19 := HB19.out.size; clear hb19; go_wp2)
            refine ⟨by rw [HSD.out]; exact (((show Below w14.heap.size w14 _ from HB19.out).block bm hbm14).trans HBK14.out), ?_⟩
            refine stepM1S rfl rfl (fun K hK => ?_)
            (go_wp2_with fail; refine Calls.mono (bytes_log q.b.log _ _ _ _ HM19.out (by omega)) ?_; rintro e w20 ⟨v20, rfl, hr20, hb20⟩; have HR20 := Lib.hid hr20; clear hr20; have HB20 := Lib.hid (show Below w14.heap.size w14 w20 from Below.trans HB19.out (hb20.mono (by first | omega | (simp; done) | (simp; omega)))); have hz20 := HB20.out.size; clear hb20; go_wp2)
            refine ⟨by rw [HSD.out]; exact (((show Below w14.heap.size w14 _ from HB20.out).block bm hbm14).trans HBK14.out), ?_⟩
            refine stepM1 rfl rfl (by kernel_rfl) (fun K hK => ?_)
            (go_wp2_with fail; refine Calls.mono (maps_any w.heap.size aB1 _ cB1 q.b.log _ (ownsRow_below HOB14.out HB20.out) rfl (by omega)) ?_; rintro e w21 ⟨v21, rfl, hr21, hb21⟩; have HR21 := Lib.hid hr21; have HS21 := Lib.hid (HR20.out.below hb21); clear hr21; have HB21 := Lib.hid (show Below w14.heap.size w14 w21 from Below.trans HB20.out (hb21.mono (by first | omega | (simp; done) | (simp; omega)))); have hz21 := HB21.out.size; clear hb21; go_wp2)
            refine stepM1 rfl rfl (by kernel_rfl) (fun K hK => ?_)
            (go_wp2_with fail; refine Calls.mono (same_any _ _ _ _ _ HS21.out HR21.out) ?_; rintro e w22 ⟨rfl, hb22⟩; rw [decide_eq_true (rfl : mapBytes (doAll [] q.b.log) = mapBytes (doAll [] q.b.log))]; have HB22 := Lib.hid (show Below w14.heap.size w14 w22 from Below.trans HB21.out (hb22.mono (by first | omega | (simp; done) | (simp; omega)))); have hz22 := HB22.out.size; clear hb22; go_wp2)
            refine stepM0 rfl rfl (fun K hK => ?_)
            go_simp
            refine hK _ ?_
            clear hK K
            refine stepM0 rfl rfl (fun K hK => ?_)
            go_simp
            refine hK _ ?_
            clear hK K
            try refine stepMnil0 ?_
            clear HSD SS
            go_wp2_with fail
            go_roundg (n - (i + 1))
            case measure => omega
            case rel => exact ⟨i + 1, q, by omega, rfl, by go_num, H14.out.later HB22.out, HQI.out, HR14.out.later HB22.out⟩
    · focus
      obtain ⟨aA0, cA0, aB0, cB0, hbk0, _, _⟩ := HRB.out
      obtain ⟨m0, m1, m2, m3, m4, m5, m6, mf⟩ := cells7 hbk0
      clear hbk0
      go_wp2_with fail
      refine (answer_out w _ p _ _ HPS.out rfl hs0).mono ?_
      rintro e w5 ⟨rfl, hb5⟩
      have H5 := Lib.hid (HPS.out.later hb5)
      clear hb5
      go_wp2_with fail
      refine (code_any 6 (by omega) (by omega) _).mono ?_
      rintro e w6 ⟨rfl, rfl⟩
      go_wp2_with fail
      refine (map_bad _ 2 (by omega) _).mono ?_
      rintro e w6 ⟨rfl, rfl⟩
      go_wp2_with fail
      refine (map_bad _ (-1) (by omega) _).mono ?_
      rintro e w6 ⟨rfl, rfl⟩
      go_wp2_with fail
      go_ret
      exact ⟨rfl, H5.out.below⟩
end Go.Proofs.Ytigkcbnlbdiimaa
