/- Package twin in plain words: what the calls make of a pair, and what stays. No program. -/
import Derived.Test.YtigkcbnlbdiimaaTwin2
namespace Go.Proofs.Ytigkcbnlbdiimaa
open Go.RowKit
def Pr.settle (p : Pr) (n : Nat) : Pr := { p with settled := max p.settled n }
def askK (p : Pr) (t : Int) : Nat := if p.L.up = false then 12 else if t ≠ p.term then 13 else 0
def askP (p : Pr) (t : Int) (c : Cmd) : Pr :=
  if askK p t = 0 then
    (if p.F.up then { p with L := ⟨p.L.up, p.L.log ++ [c]⟩ } else { p with L := ⟨p.L.up, p.L.log ++ [c]⟩, settled := max p.settled ((p.L.log.length : Int) + 1) })
  else p
def askN (p : Pr) (t : Int) : Int := if askK p t = 0 then p.L.log.length else 0
def shipK (p : Pr) (t : Int) : Nat := if p.L.up = false ∨ p.F.up = false then 12 else if t ≠ p.term then 13 else if p.F.log.length = p.L.log.length then 6 else 0
def shipP (p : Pr) (t : Int) : Pr :=
  if shipK p t = 0 then
    match p.L.log[p.F.log.length]? with
    | some c => { p with F := ⟨p.F.up, p.F.log ++ [c]⟩, settled := max p.settled ((p.F.log.length : Int) + 1) }
    | none => p
  else p
def fallK (p : Pr) (s : Bool) : Nat := if (if s = p.lead then p.L.up else p.F.up) then 0 else 12
def fallP (p : Pr) (s : Bool) : Pr :=
  if s = p.lead then
    if p.L.up then
      (if p.F.up then { L := p.F, F := ⟨false, p.L.log⟩, lead := !p.lead, term := p.term + 1, settled := max p.settled (p.F.log.length : Int) } else { p with L := ⟨false, p.L.log⟩ })
    else p
  else if p.F.up then (if p.L.up then { p with F := ⟨false, p.F.log⟩, settled := max p.settled (p.L.log.length : Int) } else { p with F := ⟨false, p.F.log⟩ }) else p
def riseK (p : Pr) (s : Bool) : Nat :=
  if s = p.lead then (if p.L.up then 14 else 0) else if p.F.up then 14 else if p.L.up then 0 else 12
/-- (A leader that is down has nobody that is up beside it.) -/
def riseP (p : Pr) (s : Bool) : Pr :=
  if s = p.lead then (if p.L.up then p else { p with L := ⟨true, p.L.log⟩, term := p.term + 1, settled := max p.settled (p.L.log.length : Int) })
  else if p.F.up then p else if p.L.up then { p with F := ⟨true, p.L.log⟩ } else p
/-- What always holds. -/
structure PrInv (N : Nat) (p : Pr) : Prop where
  la : p.L.log.length ≤ N
  lb : p.F.log.length ≤ N
  t1 : 1 ≤ p.term
  t2 : p.term ≤ N + 1
  s0 : 0 ≤ p.settled
  up : p.L.up = false → p.F.up = false
  pre : p.F.up = true → p.F.log <+: p.L.log
  sl : p.settled ≤ p.L.log.length
  sf : p.F.up = true → p.settled ≤ p.F.log.length
  se : p.settled = ((if p.F.up = true then p.F.log.length else p.L.log.length : Nat) : Int)
theorem PrInv.new : PrInv 0 Pr.new := by
  constructor <;> simp [Pr.new]
theorem PrInv.mono {N M : Nat} {p : Pr} (h : PrInv N p) (hm : N ≤ M) : PrInv M p :=
  ⟨by have := h.la; omega, by have := h.lb; omega, h.t1, by have := h.t2; omega, h.s0, h.up, h.pre, h.sl, h.sf, h.se⟩
/-- A step: terms and what is settled only rise, and what was settled is what the leader has there. -/
structure PrStep (p q : Pr) : Prop where
  t : p.term ≤ q.term
  s : p.settled ≤ q.settled
  l : q.L.log.take p.settled.toNat = p.L.log.take p.settled.toNat
theorem PrStep.refl (p : Pr) : PrStep p p := ⟨Int.le_refl _, Int.le_refl _, rfl⟩
theorem take_pre {α : Type} {l m : List α} (h : l <+: m) (k : Nat) (hk : k ≤ l.length) : m.take k = l.take k := by
  obtain ⟨t, rfl⟩ := h
  rw [List.take_append_of_le_length hk]
theorem ask_step (N : Nat) (p : Pr) (t : Int) (c : Cmd) (h : PrInv N p) : PrInv (N + 1) (askP p t c) ∧ PrStep p (askP p t c) := by
  obtain ⟨⟨ua, la⟩, ⟨ub, lb⟩, ld, tm, st⟩ := p
  obtain ⟨h1, h2, h3, h4, h5, h6, h7, h8, h9, h10⟩ := h
  simp only at h1 h2 h3 h4 h5 h6 h7 h8 h9 h10
  have hp := List.prefix_append la [c]
  have ht := take_pre hp st.toNat (by omega)
  unfold askP
  split
  · rename_i hk
    have hu : ua = true := by
      cases ua
      · simp [askK] at hk
      · rfl
    subst hu
    split
    · rename_i hf
      simp only at hf
      subst hf
      exact ⟨⟨by simp; omega, by show lb.length ≤ N + 1; omega, h3, by show tm ≤ _; omega, h5, (fun e => by cases e), fun _ => (h7 rfl).trans hp, by show st ≤ ((la ++ [c]).length : Int); simp; omega, h9, h10⟩, ⟨Int.le_refl _, Int.le_refl _, ht⟩⟩
    · rename_i hf
      have hf' : ub = false := by simpa using hf
      subst hf'
      exact ⟨⟨by simp; omega, by show lb.length ≤ N + 1; omega, h3, by show tm ≤ _; omega, by show 0 ≤ max st _; omega, (fun e => by cases e), (fun e => by cases e), by show max st ((la.length : Int) + 1) ≤ ((la ++ [c]).length : Int); simp; omega, (fun e => by cases e), by simp at h10 ⊢; omega⟩, ⟨Int.le_refl _, by show st ≤ max st _; omega, ht⟩⟩
  · exact ⟨PrInv.mono (N := N) ⟨h1, h2, h3, h4, h5, h6, h7, h8, h9, h10⟩ (by omega), PrStep.refl _⟩
theorem pre_snoc {α : Type} {l m : List α} {c : α} (h : l <+: m) (hc : m[l.length]? = some c) : l ++ [c] <+: m := by
  obtain ⟨t, rfl⟩ := h
  rw [List.getElem?_append_right (Nat.le_refl _), Nat.sub_self] at hc
  cases t with
  | nil => simp at hc
  | cons x t =>
    simp at hc
    subst hc
    exact ⟨t, by simp⟩
theorem ship_step (N : Nat) (p : Pr) (t : Int) (h : PrInv N p) : PrInv (N + 1) (shipP p t) ∧ PrStep p (shipP p t) := by
  obtain ⟨⟨ua, la⟩, ⟨ub, lb⟩, ld, tm, st⟩ := p
  have h0 := h
  obtain ⟨h1, h2, h3, h4, h5, h6, h7, h8, h9, h10⟩ := h
  simp only at h1 h2 h3 h4 h5 h6 h7 h8 h9 h10
  unfold shipP
  split
  · rename_i hk
    have hu : ua = true ∧ ub = true := by
      cases ua <;> cases ub <;> simp [shipK] at hk ⊢
    obtain ⟨rfl, rfl⟩ := hu
    split
    · rename_i c hc
      simp only at hc
      have hp := pre_snoc (h7 rfl) hc
      have hl := hp.length_le
      simp at hl
      have hst := h9 rfl
      exact ⟨⟨by show la.length ≤ N + 1; omega, by show (lb ++ [c]).length ≤ N + 1; simp; omega, h3, by show tm ≤ _; omega, by show 0 ≤ max st _; omega, (fun e => by cases e), fun _ => hp, by show max st ((lb.length : Int) + 1) ≤ (la.length : Int); omega, fun _ => by show max st ((lb.length : Int) + 1) ≤ ((lb ++ [c]).length : Int); simp; omega, by simp at h10 ⊢; omega⟩, ⟨Int.le_refl _, by show st ≤ max st _; omega, rfl⟩⟩
    · exact ⟨h0.mono (by omega), PrStep.refl _⟩
  · exact ⟨h0.mono (by omega), PrStep.refl _⟩
theorem fall_step (N : Nat) (p : Pr) (s : Bool) (h : PrInv N p) : PrInv (N + 1) (fallP p s) ∧ PrStep p (fallP p s) := by
  obtain ⟨⟨ua, la⟩, ⟨ub, lb⟩, ld, tm, st⟩ := p
  have h0 := h
  obtain ⟨h1, h2, h3, h4, h5, h6, h7, h8, h9, h10⟩ := h
  simp only at h1 h2 h3 h4 h5 h6 h7 h8 h9 h10
  unfold fallP
  simp only
  split
  · split
    · rename_i hu
      subst hu
      split
      · rename_i hf
        subst hf
        have hst := h9 rfl
        have ht := take_pre (h7 rfl) st.toNat (by omega)
        exact ⟨⟨by show lb.length ≤ N + 1; omega, by show la.length ≤ N + 1; omega, by show 1 ≤ tm + 1; omega, by show tm + 1 ≤ _; omega, by show 0 ≤ max st _; omega, fun _ => rfl, (fun e => by cases e), by show max st (lb.length : Int) ≤ (lb.length : Int); omega, (fun e => by cases e), by simp at h10 ⊢; omega⟩, ⟨by show tm ≤ tm + 1; omega, by show st ≤ max st _; omega, ht.symm⟩⟩
      · rename_i hf
        have hf' : ub = false := by simpa using hf
        subst hf'
        exact ⟨⟨by show la.length ≤ N + 1; omega, by show lb.length ≤ N + 1; omega, h3, by show tm ≤ _; omega, h5, fun _ => rfl, (fun e => by cases e), h8, (fun e => by cases e), h10⟩, ⟨Int.le_refl _, Int.le_refl _, rfl⟩⟩
    · exact ⟨h0.mono (by omega), PrStep.refl _⟩
  · split
    · rename_i hf
      subst hf
      split
      · exact ⟨⟨by show la.length ≤ N + 1; omega, by show lb.length ≤ N + 1; omega, h3, by show tm ≤ _; omega, by show 0 ≤ max st _; omega, fun _ => rfl, (fun e => by cases e), by show max st (la.length : Int) ≤ (la.length : Int); omega, (fun e => by cases e), by have := (h7 rfl).length_le; simp at h10 ⊢; omega⟩, ⟨Int.le_refl _, by show st ≤ max st _; omega, rfl⟩⟩
      · rename_i hu
        have hu' : ua = false := by simpa using hu
        have := h6 hu'
        cases this
    · exact ⟨h0.mono (by omega), PrStep.refl _⟩
theorem rise_step (N : Nat) (p : Pr) (s : Bool) (h : PrInv N p) : PrInv (N + 1) (riseP p s) ∧ PrStep p (riseP p s) := by
  obtain ⟨⟨ua, la⟩, ⟨ub, lb⟩, ld, tm, st⟩ := p
  have h0 := h
  obtain ⟨h1, h2, h3, h4, h5, h6, h7, h8, h9, h10⟩ := h
  simp only at h1 h2 h3 h4 h5 h6 h7 h8 h9 h10
  unfold riseP
  simp only
  split
  · split
    · exact ⟨h0.mono (by omega), PrStep.refl _⟩
    · rename_i hu
      have hu' : ua = false := by simpa using hu
      have hb := h6 hu'
      subst hu' hb
      exact ⟨⟨by show la.length ≤ N + 1; omega, by show lb.length ≤ N + 1; omega, by show 1 ≤ tm + 1; omega, by show tm + 1 ≤ _; omega, by show 0 ≤ max st _; omega, (fun e => by cases e), (fun e => by cases e), by show max st (la.length : Int) ≤ (la.length : Int); omega, (fun e => by cases e), by simp at h10 ⊢; omega⟩, ⟨by show tm ≤ tm + 1; omega, by show st ≤ max st _; omega, rfl⟩⟩
  · split
    · exact ⟨h0.mono (by omega), PrStep.refl _⟩
    · split
      · rename_i hf hu
        have hf' : ub = false := by simpa using hf
        subst hu hf'
        exact ⟨⟨by show la.length ≤ N + 1; omega, by show la.length ≤ N + 1; omega, h3, by show tm ≤ _; omega, h5, (fun e => by cases e), fun _ => List.prefix_refl _, h8, fun _ => h8, by simpa using h10⟩, ⟨Int.le_refl _, Int.le_refl _, rfl⟩⟩
      · exact ⟨h0.mono (by omega), PrStep.refl _⟩
end Go.Proofs.Ytigkcbnlbdiimaa
