/- Joined texts: TwinPlain, Twin3, Twin4, Twin5, Twin6, Twin7, Twin8, OpenAct, TwinShips, Ref19, AppReads. -/
import Derived.Test.YtigkcbnlbdiimaaPl2
import Derived.OwnWalk
import Derived.Maps.AppendAt
import Derived.Laws.AppendOwnNone
/- Package twin in plain words: what the calls make of a pair, and what stays. No program. -/
namespace Go.Proofs.Ytigkcbnlbdiimaa
open Go.RowKit
def Pr.settle (p : Pr) (n : Nat) : Pr := { p with settled := max p.settled n }
def askK (p : Pr) (t : Int) : Nat := if p.L.up = false then 12 else if t ≠ p.term then 13 else 0
def askP (p : Pr) (t : Int) (c : Cmd) : Pr :=
  if askK p t = 0 then
    (if p.F.up then { p with L := ⟨p.L.up, p.L.log ++ [c]⟩ } else { p with L := ⟨p.L.up, p.L.log ++ [c]⟩, settled := max p.settled ((p.L.log.length : Int) + 1) })
  else p
def askN (p : Pr) (t : Int) : Int := if askK p t = 0 then p.L.log.length else 0
def shipK (p : Pr) (t : Int) : Nat := if p.L.up = false ∨ p.F.up = false then 12 else if t ≠ p.term then 13 else if p.F.log.length = p.L.log.length then 6 else 0
def shipP (p : Pr) (t : Int) : Pr :=
  if shipK p t = 0 then
    match p.L.log[p.F.log.length]? with
    | some c => { p with F := ⟨p.F.up, p.F.log ++ [c]⟩, settled := max p.settled ((p.F.log.length : Int) + 1) }
    | none => p
  else p
def fallK (p : Pr) (s : Bool) : Nat := if (if s = p.lead then p.L.up else p.F.up) then 0 else 12
def fallP (p : Pr) (s : Bool) : Pr :=
  if s = p.lead then
    if p.L.up then
      (if p.F.up then { L := p.F, F := ⟨false, p.L.log⟩, lead := !p.lead, term := p.term + 1, settled := max p.settled (p.F.log.length : Int) } else { p with L := ⟨false, p.L.log⟩ })
    else p
  else if p.F.up then (if p.L.up then { p with F := ⟨false, p.F.log⟩, settled := max p.settled (p.L.log.length : Int) } else { p with F := ⟨false, p.F.log⟩ }) else p
def riseK (p : Pr) (s : Bool) : Nat :=
  if s = p.lead then (if p.L.up then 14 else 0) else if p.F.up then 14 else if p.L.up then 0 else 12
/-- (A leader that is down has nobody that is up beside it.) -/
def riseP (p : Pr) (s : Bool) : Pr :=
  if s = p.lead then (if p.L.up then p else { p with L := ⟨true, p.L.log⟩, term := p.term + 1, settled := max p.settled (p.L.log.length : Int) })
  else if p.F.up then p else if p.L.up then { p with F := ⟨true, p.L.log⟩ } else p
/-- What always holds. -/
structure PrInv (N : Nat) (p : Pr) : Prop where
  la : p.L.log.length ≤ N
  lb : p.F.log.length ≤ N
  t1 : 1 ≤ p.term
  t2 : p.term ≤ N + 1
  s0 : 0 ≤ p.settled
  up : p.L.up = false → p.F.up = false
  pre : p.F.up = true → p.F.log <+: p.L.log
  sl : p.settled ≤ p.L.log.length
  sf : p.F.up = true → p.settled ≤ p.F.log.length
  se : p.settled = ((if p.F.up = true then p.F.log.length else p.L.log.length : Nat) : Int)
theorem PrInv.new : PrInv 0 Pr.new := by
  constructor <;> simp [Pr.new]
theorem PrInv.mono {N M : Nat} {p : Pr} (h : PrInv N p) (hm : N ≤ M) : PrInv M p :=
  ⟨by have := h.la; omega, by have := h.lb; omega, h.t1, by have := h.t2; omega, h.s0, h.up, h.pre, h.sl, h.sf, h.se⟩
/-- A step: terms and what is settled only rise, and what was settled is what the leader has there. -/
structure PrStep (p q : Pr) : Prop where
  t : p.term ≤ q.term
  s : p.settled ≤ q.settled
  l : q.L.log.take p.settled.toNat = p.L.log.take p.settled.toNat
theorem PrStep.refl (p : Pr) : PrStep p p := ⟨Int.le_refl _, Int.le_refl _, rfl⟩
theorem take_pre {α : Type} {l m : List α} (h : l <+: m) (k : Nat) (hk : k ≤ l.length) : m.take k = l.take k := by
  obtain ⟨t, rfl⟩ := h
  rw [List.take_append_of_le_length hk]
theorem ask_step (N : Nat) (p : Pr) (t : Int) (c : Cmd) (h : PrInv N p) : PrInv (N + 1) (askP p t c) ∧ PrStep p (askP p t c) := by
  obtain ⟨⟨ua, la⟩, ⟨ub, lb⟩, ld, tm, st⟩ := p
  obtain ⟨h1, h2, h3, h4, h5, h6, h7, h8, h9, h10⟩ := h
  simp only at h1 h2 h3 h4 h5 h6 h7 h8 h9 h10
  have hp := List.prefix_append la [c]
  have ht := take_pre hp st.toNat (by omega)
  unfold askP
  split
  · rename_i hk
    have hu : ua = true := by
      cases ua
      · simp [askK] at hk
      · rfl
    subst hu
    split
    · rename_i hf
      simp only at hf
      subst hf
      exact ⟨⟨by simp; omega, by show lb.length ≤ N + 1; omega, h3, by show tm ≤ _; omega, h5, (fun e => by cases e), fun _ => (h7 rfl).trans hp, by show st ≤ ((la ++ [c]).length : Int); simp; omega, h9, h10⟩, ⟨Int.le_refl _, Int.le_refl _, ht⟩⟩
    · rename_i hf
      have hf' : ub = false := by simpa using hf
      subst hf'
      exact ⟨⟨by simp; omega, by show lb.length ≤ N + 1; omega, h3, by show tm ≤ _; omega, by show 0 ≤ max st _; omega, (fun e => by cases e), (fun e => by cases e), by show max st ((la.length : Int) + 1) ≤ ((la ++ [c]).length : Int); simp; omega, (fun e => by cases e), by simp at h10 ⊢; omega⟩, ⟨Int.le_refl _, by show st ≤ max st _; omega, ht⟩⟩
  · exact ⟨PrInv.mono (N := N) ⟨h1, h2, h3, h4, h5, h6, h7, h8, h9, h10⟩ (by omega), PrStep.refl _⟩
theorem pre_snoc {α : Type} {l m : List α} {c : α} (h : l <+: m) (hc : m[l.length]? = some c) : l ++ [c] <+: m := by
  obtain ⟨t, rfl⟩ := h
  rw [List.getElem?_append_right (Nat.le_refl _), Nat.sub_self] at hc
  cases t with
  | nil => simp at hc
  | cons x t =>
    simp at hc
    subst hc
    exact ⟨t, by simp⟩
theorem ship_step (N : Nat) (p : Pr) (t : Int) (h : PrInv N p) : PrInv (N + 1) (shipP p t) ∧ PrStep p (shipP p t) := by
  obtain ⟨⟨ua, la⟩, ⟨ub, lb⟩, ld, tm, st⟩ := p
  have h0 := h
  obtain ⟨h1, h2, h3, h4, h5, h6, h7, h8, h9, h10⟩ := h
  simp only at h1 h2 h3 h4 h5 h6 h7 h8 h9 h10
  unfold shipP
  split
  · rename_i hk
    have hu : ua = true ∧ ub = true := by
      cases ua <;> cases ub <;> simp [shipK] at hk ⊢
    obtain ⟨rfl, rfl⟩ := hu
    split
    · rename_i c hc
      simp only at hc
      have hp := pre_snoc (h7 rfl) hc
      have hl := hp.length_le
      simp at hl
      have hst := h9 rfl
      exact ⟨⟨by show la.length ≤ N + 1; omega, by show (lb ++ [c]).length ≤ N + 1; simp; omega, h3, by show tm ≤ _; omega, by show 0 ≤ max st _; omega, (fun e => by cases e), fun _ => hp, by show max st ((lb.length : Int) + 1) ≤ (la.length : Int); omega, fun _ => by show max st ((lb.length : Int) + 1) ≤ ((lb ++ [c]).length : Int); simp; omega, by simp at h10 ⊢; omega⟩, ⟨Int.le_refl _, by show st ≤ max st _; omega, rfl⟩⟩
    · exact ⟨h0.mono (by omega), PrStep.refl _⟩
  · exact ⟨h0.mono (by omega), PrStep.refl _⟩
theorem fall_step (N : Nat) (p : Pr) (s : Bool) (h : PrInv N p) : PrInv (N + 1) (fallP p s) ∧ PrStep p (fallP p s) := by
  obtain ⟨⟨ua, la⟩, ⟨ub, lb⟩, ld, tm, st⟩ := p
  have h0 := h
  obtain ⟨h1, h2, h3, h4, h5, h6, h7, h8, h9, h10⟩ := h
  simp only at h1 h2 h3 h4 h5 h6 h7 h8 h9 h10
  unfold fallP
  simp only
  split
  · split
    · rename_i hu
      subst hu
      split
      · rename_i hf
        subst hf
        have hst := h9 rfl
        have ht := take_pre (h7 rfl) st.toNat (by omega)
        exact ⟨⟨by show lb.length ≤ N + 1; omega, by show la.length ≤ N + 1; omega, by show 1 ≤ tm + 1; omega, by show tm + 1 ≤ _; omega, by show 0 ≤ max st _; omega, fun _ => rfl, (fun e => by cases e), by show max st (lb.length : Int) ≤ (lb.length : Int); omega, (fun e => by cases e), by simp at h10 ⊢; omega⟩, ⟨by show tm ≤ tm + 1; omega, by show st ≤ max st _; omega, ht.symm⟩⟩
      · rename_i hf
        have hf' : ub = false := by simpa using hf
        subst hf'
        exact ⟨⟨by show la.length ≤ N + 1; omega, by show lb.length ≤ N + 1; omega, h3, by show tm ≤ _; omega, h5, fun _ => rfl, (fun e => by cases e), h8, (fun e => by cases e), h10⟩, ⟨Int.le_refl _, Int.le_refl _, rfl⟩⟩
    · exact ⟨h0.mono (by omega), PrStep.refl _⟩
  · split
    · rename_i hf
      subst hf
      split
      · exact ⟨⟨by show la.length ≤ N + 1; omega, by show lb.length ≤ N + 1; omega, h3, by show tm ≤ _; omega, by show 0 ≤ max st _; omega, fun _ => rfl, (fun e => by cases e), by show max st (la.length : Int) ≤ (la.length : Int); omega, (fun e => by cases e), by have := (h7 rfl).length_le; simp at h10 ⊢; omega⟩, ⟨Int.le_refl _, by show st ≤ max st _; omega, rfl⟩⟩
      · rename_i hu
        have hu' : ua = false := by simpa using hu
        have := h6 hu'
        cases this
    · exact ⟨h0.mono (by omega), PrStep.refl _⟩
theorem rise_step (N : Nat) (p : Pr) (s : Bool) (h : PrInv N p) : PrInv (N + 1) (riseP p s) ∧ PrStep p (riseP p s) := by
  obtain ⟨⟨ua, la⟩, ⟨ub, lb⟩, ld, tm, st⟩ := p
  have h0 := h
  obtain ⟨h1, h2, h3, h4, h5, h6, h7, h8, h9, h10⟩ := h
  simp only at h1 h2 h3 h4 h5 h6 h7 h8 h9 h10
  unfold riseP
  simp only
  split
  · split
    · exact ⟨h0.mono (by omega), PrStep.refl _⟩
    · rename_i hu
      have hu' : ua = false := by simpa using hu
      have hb := h6 hu'
      subst hu' hb
      exact ⟨⟨by show la.length ≤ N + 1; omega, by show lb.length ≤ N + 1; omega, by show 1 ≤ tm + 1; omega, by show tm + 1 ≤ _; omega, by show 0 ≤ max st _; omega, (fun e => by cases e), (fun e => by cases e), by show max st (la.length : Int) ≤ (la.length : Int); omega, (fun e => by cases e), by simp at h10 ⊢; omega⟩, ⟨by show tm ≤ tm + 1; omega, by show st ≤ max st _; omega, rfl⟩⟩
  · split
    · exact ⟨h0.mono (by omega), PrStep.refl _⟩
    · split
      · rename_i hf hu
        have hf' : ub = false := by simpa using hf
        subst hu hf'
        exact ⟨⟨by show la.length ≤ N + 1; omega, by show la.length ≤ N + 1; omega, h3, by show tm ≤ _; omega, h5, (fun e => by cases e), fun _ => List.prefix_refl _, h8, fun _ => h8, by simpa using h10⟩, ⟨Int.le_refl _, Int.le_refl _, rfl⟩⟩
      · exact ⟨h0.mono (by omega), PrStep.refl _⟩
end Go.Proofs.Ytigkcbnlbdiimaa

/- Package twin: Ask, Ship. (Written by wip/gentwin.py.) -/
namespace Go.Proofs.Ytigkcbnlbdiimaa
open Go.RowKit
theorem errV_13 : errV 13 = .iface 106 (.int .i64 13) := errV_ne (by omega)
theorem errV_12 : errV 12 = .iface 106 (.int .i64 12) := errV_ne (by omega)
theorem errV_6 : errV 6 = .iface 106 (.int .i64 6) := errV_ne (by omega)
theorem errV_14 : errV 14 = .iface 106 (.int .i64 14) := errV_ne (by omega)
theorem errV_1 : errV 1 = .iface 106 (.int .i64 1) := errV_ne (by omega)
set_option maxRecDepth 100000 in
set_option maxHeartbeats 4000000 in
theorem ask_false (base bp : Nat) (va vb : Value) (ua ub : Bool) (la lb : List Cmd) (tm st t : Int) (c : Cmd) (w : World) (h : PairAt w base bp va vb ⟨⟨ua, la⟩, ⟨ub, lb⟩, false, tm, st⟩) (hN : la.length ≤ 100000) :
    Calls Try.prog 30 #[.pointer (some ⟨bp, 0, none⟩), .int .i64 t, .agg #[.int .i64 c.kind, .int .i64 c.vol, .int .i64 c.epoch, .int .i64 c.spot, .int .i64 c.node, .int .i64 c.n0, .int .i64 c.n1, .int .i64 c.n2]] w
      fun e w' => e = .returned (.tuple #[.int .i64 (askN ⟨⟨ua, la⟩, ⟨ub, lb⟩, false, tm, st⟩ t), errV (askK ⟨⟨ua, la⟩, ⟨ub, lb⟩, false, tm, st⟩ t)]) ∧ PairTo w base bp va vb (askP ⟨⟨ua, la⟩, ⟨ub, lb⟩, false, tm, st⟩ t c) w' := by
  obtain ⟨i0, hi, hz0, hz1, hz2⟩ := info_parts cmd_info
  have HI := Lib.hid hi
  have HZ0 := Lib.hid hz0
  have HZ1 := Lib.hid hz1
  have HZ2 := Lib.hid hz2
  clear hi hz0 hz1 hz2
  obtain ⟨ck, cv, ce, cp, cn, c0, c1, c2⟩ := c
  have H := Lib.hid h
  have hlt := h.lt
  obtain ⟨k0, k1, k2, k3, k4, k5, k6, kf⟩ := h.cell
  simp only [Pr.a, Pr.b, Pr.ld, if_true, if_false, Bool.false_eq_true] at k0 k1 k2 k3 k4 k5 k6
  obtain ⟨aL, cL, rfl⟩ := ownsRow_len h.ra
  simp only [Pr.a, Pr.b, if_true, if_false, Bool.false_eq_true] at k1 k3
  clear h
  cases ua
  · have e1 : askK ⟨⟨false, la⟩, ⟨ub, lb⟩, false, tm, st⟩ t = 12 := by simp [askK]
    have HE := Lib.hid e1
    clear e1
    go_enter Try.func30, Try.ntmps30
    go_wp2_with fail
    refine (leader_any base bp _ _ _ _ (H.out.below (by repeat (first | (with_reducible exact Below.refl _ _) | (with_reducible refine Below.setCell ?_ ?_ _) | (with_reducible refine Below.alloc ?_ ?_ _) | (with_reducible refine Below.drewN ?_ _) | (with_reducible refine Below.drew ?_) | (with_reducible exact Nat.le_refl _) | (focus (simp only [World.size_alloc, World.size_setCell, World.size_drew, World.size_drewN]; omega)) | omega | exact Nat.le_refl _ | (focus (simp; done)) | (focus (simp; omega)))))).mono ?_
    rintro e w1 ⟨rfl, rfl⟩
    simp only [if_true, if_false, Bool.false_eq_true]
    go_wp2_with fail
    go_ret2
    refine ⟨by rw [askN, HE.out, if_neg (by omega)]; exact congrArg _ (congrArg (fun v => Value.tuple #[.int .i64 0, v]) errV_12.symm), ?_⟩
    rw [askP, HE.out, if_neg (by omega)]
    exact PairTo.same H.out (by repeat (first | (with_reducible exact Below.refl _ _) | (with_reducible refine Below.setCell ?_ ?_ _) | (with_reducible refine Below.alloc ?_ ?_ _) | (with_reducible refine Below.drewN ?_ _) | (with_reducible refine Below.drew ?_) | (with_reducible exact Nat.le_refl _) | (focus (simp only [World.size_alloc, World.size_setCell, World.size_drew, World.size_drewN]; omega)) | omega | exact Nat.le_refl _ | (focus (simp; done)) | (focus (simp; omega))))
  by_cases ht : t = tm
  · have e1 : askK ⟨⟨true, la⟩, ⟨ub, lb⟩, false, tm, st⟩ t = 0 := by simp [askK, ht]
    have HE := Lib.hid e1
    have htb : (t != tm) = false := by rw [ht]; simp
    clear e1 ht
    have HR := Lib.hid (show w.ownsRow base 32 8 (.slice aL la.length cL) la.length (la.flatMap Cmd.row) from H.out.ra)
    have hne : ∀ k, (Value.slice aL la.length cL).ownBlock = some k → k ≠ bp ∧ k < w.heap.size := fun k hk => ⟨fun e => H.out.na (by rw [← e]; exact hk), (HR.out.lt k hk).2⟩
    have HNE := Lib.hid hne
    clear hne
    have hbase : base ≤ w.heap.size := by have := H.out.low; omega
    go_enter Try.func30, Try.ntmps30
    go_wp2_with fail
    refine (leader_any base bp _ _ _ _ (H.out.below (by repeat (first | (with_reducible exact Below.refl _ _) | (with_reducible refine Below.setCell ?_ ?_ _) | (with_reducible refine Below.alloc ?_ ?_ _) | (with_reducible refine Below.drewN ?_ _) | (with_reducible refine Below.drew ?_) | (with_reducible exact Nat.le_refl _) | (focus (simp only [World.size_alloc, World.size_setCell, World.size_drew, World.size_drewN]; omega)) | omega | exact Nat.le_refl _ | (focus (simp; done)) | (focus (simp; omega)))))).mono ?_
    rintro e w1 ⟨rfl, rfl⟩
    simp only [if_true, if_false, Bool.false_eq_true]
    go_wp2_with fail
    refine (leader_any base bp _ _ _ _ (H.out.below (by repeat (first | (with_reducible exact Below.refl _ _) | (with_reducible refine Below.setCell ?_ ?_ _) | (with_reducible refine Below.alloc ?_ ?_ _) | (with_reducible refine Below.drewN ?_ _) | (with_reducible refine Below.drew ?_) | (with_reducible exact Nat.le_refl _) | (focus (simp only [World.size_alloc, World.size_setCell, World.size_drew, World.size_drewN]; omega)) | omega | exact Nat.le_refl _ | (focus (simp; done)) | (focus (simp; omega)))))).mono ?_
    rintro e w1 ⟨rfl, rfl⟩
    simp only [if_true, if_false, Bool.false_eq_true]
    go_wp2_with fail
    obtain ⟨SS, HSD⟩ : ∃ SS : World → Prop, Hid (SS = fun w' => w'.cell? ⟨bp, 1, none⟩ = some (.slice aL la.length cL) ∧ w'.cell? ⟨w.heap.size, 0, none⟩ = some (.int .i64 ck) ∧ w'.cell? ⟨w.heap.size, 1, none⟩ = some (.int .i64 cv) ∧ w'.cell? ⟨w.heap.size, 2, none⟩ = some (.int .i64 ce) ∧ w'.cell? ⟨w.heap.size, 3, none⟩ = some (.int .i64 cp) ∧ w'.cell? ⟨w.heap.size, 4, none⟩ = some (.int .i64 cn) ∧ w'.cell? ⟨w.heap.size, 5, none⟩ = some (.int .i64 c0) ∧ w'.cell? ⟨w.heap.size, 6, none⟩ = some (.int .i64 c1) ∧ w'.cell? ⟨w.heap.size, 7, none⟩ = some (.int .i64 c2)) := ⟨_, Lib.hid rfl⟩
    refine wp_region_order0 SS [4, 5] [(0, 0), (1, 0), (2, 0), (3, 0), (4, 2), (5, 2), (6, 1), (7, 1), (8, 0), (9, 0), (10, 1)] (by kernel_rfl) (by kernel_rfl) rfl (by kernel_rfl) ?_ ?_
    focus (rw [HSD.out]; refine ⟨?_, ?_, ?_, ?_, ?_, ?_, ?_, ?_, ?_⟩ <;> go_simp)
    refine stepE0 rfl rfl (fun K hK => ?_)
    go_simp
    refine hK _ ?_
    clear hK K
    refine stepE0 rfl rfl (fun K hK => ?_)
    go_simp
    refine hK _ ?_
    clear hK K
    refine stepE0 rfl rfl (fun K hK => ?_)
    go_simp
    refine hK _ ?_
    clear hK K
    refine stepE0 rfl rfl (fun K hK => ?_)
    go_simp
    refine hK _ ?_
    clear hK K
    refine stepE2 rfl rfl ?_ (fun w1 hS => ?_) (fun K hK => ?_)
    rotate_left
    focus (rw [HSD.out] at hS; obtain ⟨s0, s1, s2, s3, s4, s5, s6, s7, s8⟩ := hS; go_simp; rfl)
    go_simp
    refine hK _ ?_
    clear hK K
    refine stepE2 rfl rfl ?_ (fun w1 hS => ?_) (fun K hK => ?_)
    rotate_left
    focus (rw [HSD.out] at hS; obtain ⟨s0, s1, s2, s3, s4, s5, s6, s7, s8⟩ := hS; go_simp; rfl)
    go_simp
    refine hK _ ?_
    clear hK K
    refine stepE1S rfl rfl (fun K hK => ?_)
    go_wp2
    refine ⟨by rw [HSD.out]; exact (by refine ⟨?_, ?_, ?_, ?_, ?_, ?_, ?_, ?_, ?_⟩ <;> go_simp), ?_⟩
    refine stepE1 rfl rfl (by kernel_rfl) (fun K hK => ?_)
    (refine wp_append_lies _ _ _ 46 rfl base 32 i0 (.agg #[.int .i64 0, .int .i64 0, .int .i64 0, .int .i64 0, .int .i64 0, .int .i64 0, .int .i64 0, .int .i64 0]) 8 64 Try.underlying46 HI.out HZ0.out HZ1.out HZ2.out rfl (by decide) (.slice aL la.length cL) la.length (la.flatMap Cmd.row) rfl ((((HR.out.alloc _).alloc _).drew).drew).drew ⟨w.heap.size + 1, 0, none⟩ 1 1 [.int .i64 ck, .int .i64 cv, .int .i64 ce, .int .i64 cp, .int .i64 cn, .int .i64 c0, .int .i64 c1, .int .i64 c2] rfl rfl (World.news_of_block (by have h := heap_alloc_new (w.alloc (.cells #[.int .i64 ck, .int .i64 cv, .int .i64 ce, .int .i64 cp, .int .i64 cn, .int .i64 c0, .int .i64 c1, .int .i64 c2] 32)) (.cells #[.int .i64 ck, .int .i64 cv, .int .i64 ce, .int .i64 cp, .int .i64 cn, .int .i64 c0, .int .i64 c1, .int .i64 c2] 32); rw [World.size_alloc] at h; exact h)) (by simp [Value.oneCell']) (by omega) (by unfold maxLen; omega) (by omega) (by simp; omega) _ rfl ?_; intro g cg w2 hown2 hgrow hat hlt2; have HP := Lib.hid (Pst.grown (F := fun k => k = bp ∨ (Value.slice aL la.length cL).ownBlock = some k) ((((((Pst.refl H.out.blk).alloc _).alloc _).drew).drew).drew) hgrow (fun k e => .inr e) H.out.na); have kx : w2.cell? ⟨bp, 1, none⟩ = some (.slice aL la.length cL) := (grown_cell hgrow (by simp; omega) H.out.na).trans (by go_simp); have ku : w2.cell? ⟨bp, 2, none⟩ = some (.bool ub) := (grown_cell hgrow (by simp; omega) H.out.na).trans (by go_simp); have ks : w2.cell? ⟨bp, 6, none⟩ = some (.int .i64 st) := (grown_cell hgrow (by simp; omega) H.out.na).trans (by go_simp); have kl : w2.cell? ⟨bp, 4, none⟩ = some (.int .i64 0) := (grown_cell hgrow (by simp; omega) H.out.na).trans (by go_simp); have kfx : ∀ o, w2.frozen? ⟨bp, o, none⟩ = false := (fun o => (grown_frozen hgrow (by simp; omega) H.out.na).trans (by go_simp)); have HO2 := Lib.hid hown2; have HAT := Lib.hid hat; clear hown2 hgrow hat; go_wp2)
    refine stepE0 rfl rfl (fun K hK => ?_)
    go_simp
    refine hK _ ?_
    clear hK K
    refine stepE0 rfl rfl (fun K hK => ?_)
    go_simp
    refine hK _ ?_
    clear hK K
    refine stepE1 rfl rfl (by kernel_rfl) (fun K hK => ?_)
    go_wp2
    try refine stepEnil0 ?_
    clear HSD SS
    have HPS := Lib.hid (HP.out.setCell (i := 1) (v := .slice (some ⟨g, 0, none⟩) (la.length + 1) cg) (.inl rfl))
    have HKK := Lib.hid ((Keeps.refl (fun k => k = bp) w2).setCell ⟨bp, 1, none⟩ (.slice (some ⟨g, 0, none⟩) (la.length + 1) cg) (fun _ => rfl))
    have HAT' : Hid ((Value.slice aL la.length cL).ownBlock = some g ∨ w.heap.size ≤ g) := by
      rcases HAT.out with h | h
      · exact .inl h
      · exact .inr (by simp at h; omega)
    clear HP
    cases ub
    · go_wp2_with fail
      refine Calls.mono (follower_0 bp _ ?_) ?_
      · go_simp
      rintro e w3 ⟨rfl, rfl⟩
      go_wp2_with fail
      refine Calls.mono (settle_any bp st _ _ ?_ ?_) ?_
      · go_simp
      · go_simp
      rintro e w3 ⟨rfl, rfl⟩
      go_wp2_with fail
      go_ret2
      refine ⟨by rw [askN, HE.out, if_pos rfl]; exact congrArg Ending.returned (congrArg (fun v => Value.tuple #[.int .i64 v, .nilIface]) (by simp)), ?_⟩
      rw [askP, HE.out, if_pos rfl]
      refine PairTo.of_a (w1 := w2) H.out (Pst.cast (HPS.out.setCell (i := 6) (.inl rfl)).drew ?_) (ownsRow_cast HO2.out ?_ ?_) ((HKK.out.setCell _ _ (fun _ => rfl)).drew) HAT'.out rfl
      · simp [Pr.cells, Pr.a, Pr.b, Pr.ld]
      · simp [Pr.a, Pr.b]
      · simp [Pr.a, Pr.b, Cmd.row]
    · go_wp2_with fail
      refine Calls.mono (follower_0 bp _ ?_) ?_
      · go_simp
      rintro e w3 ⟨rfl, rfl⟩
      go_wp2_with fail
      go_ret2
      refine ⟨by rw [askN, HE.out, if_pos rfl]; exact congrArg Ending.returned (congrArg (fun v => Value.tuple #[.int .i64 v, .nilIface]) (by simp)), ?_⟩
      rw [askP, HE.out, if_pos rfl]
      refine PairTo.of_a (w1 := w2) H.out (Pst.cast HPS.out.drew ?_) (ownsRow_cast HO2.out ?_ ?_) HKK.out.drew HAT'.out rfl
      · simp [Pr.cells, Pr.a, Pr.b, Pr.ld]
      · simp [Pr.a, Pr.b]
      · simp [Pr.a, Pr.b, Cmd.row]
  · have e1 : askK ⟨⟨true, la⟩, ⟨ub, lb⟩, false, tm, st⟩ t = 13 := by simp [askK, ht]
    have HE := Lib.hid e1
    have htb : (t != tm) = true := by rw [bne_iff_ne]; exact ht
    clear e1 ht
    go_enter Try.func30, Try.ntmps30
    go_wp2_with fail
    refine (leader_any base bp _ _ _ _ (H.out.below (by repeat (first | (with_reducible exact Below.refl _ _) | (with_reducible refine Below.setCell ?_ ?_ _) | (with_reducible refine Below.alloc ?_ ?_ _) | (with_reducible refine Below.drewN ?_ _) | (with_reducible refine Below.drew ?_) | (with_reducible exact Nat.le_refl _) | (focus (simp only [World.size_alloc, World.size_setCell, World.size_drew, World.size_drewN]; omega)) | omega | exact Nat.le_refl _ | (focus (simp; done)) | (focus (simp; omega)))))).mono ?_
    rintro e w1 ⟨rfl, rfl⟩
    simp only [if_true, if_false, Bool.false_eq_true]
    go_wp2_with fail
    go_ret2
    refine ⟨by rw [askN, HE.out, if_neg (by omega)]; exact congrArg _ (congrArg (fun v => Value.tuple #[.int .i64 0, v]) errV_13.symm), ?_⟩
    rw [askP, HE.out, if_neg (by omega)]
    exact PairTo.same H.out (by repeat (first | (with_reducible exact Below.refl _ _) | (with_reducible refine Below.setCell ?_ ?_ _) | (with_reducible refine Below.alloc ?_ ?_ _) | (with_reducible refine Below.drewN ?_ _) | (with_reducible refine Below.drew ?_) | (with_reducible exact Nat.le_refl _) | (focus (simp only [World.size_alloc, World.size_setCell, World.size_drew, World.size_drewN]; omega)) | omega | exact Nat.le_refl _ | (focus (simp; done)) | (focus (simp; omega))))
set_option maxRecDepth 100000 in
set_option maxHeartbeats 4000000 in
theorem ask_true (base bp : Nat) (va vb : Value) (ua ub : Bool) (la lb : List Cmd) (tm st t : Int) (c : Cmd) (w : World) (h : PairAt w base bp va vb ⟨⟨ua, la⟩, ⟨ub, lb⟩, true, tm, st⟩) (hN : la.length ≤ 100000) :
    Calls Try.prog 30 #[.pointer (some ⟨bp, 0, none⟩), .int .i64 t, .agg #[.int .i64 c.kind, .int .i64 c.vol, .int .i64 c.epoch, .int .i64 c.spot, .int .i64 c.node, .int .i64 c.n0, .int .i64 c.n1, .int .i64 c.n2]] w
      fun e w' => e = .returned (.tuple #[.int .i64 (askN ⟨⟨ua, la⟩, ⟨ub, lb⟩, true, tm, st⟩ t), errV (askK ⟨⟨ua, la⟩, ⟨ub, lb⟩, true, tm, st⟩ t)]) ∧ PairTo w base bp va vb (askP ⟨⟨ua, la⟩, ⟨ub, lb⟩, true, tm, st⟩ t c) w' := by
  obtain ⟨i0, hi, hz0, hz1, hz2⟩ := info_parts cmd_info
  have HI := Lib.hid hi
  have HZ0 := Lib.hid hz0
  have HZ1 := Lib.hid hz1
  have HZ2 := Lib.hid hz2
  clear hi hz0 hz1 hz2
  obtain ⟨ck, cv, ce, cp, cn, c0, c1, c2⟩ := c
  have H := Lib.hid h
  have hlt := h.lt
  obtain ⟨k0, k1, k2, k3, k4, k5, k6, kf⟩ := h.cell
  simp only [Pr.a, Pr.b, Pr.ld, if_true, if_false, Bool.false_eq_true] at k0 k1 k2 k3 k4 k5 k6
  obtain ⟨aL, cL, rfl⟩ := ownsRow_len h.rb
  simp only [Pr.a, Pr.b, if_true, if_false, Bool.false_eq_true] at k1 k3
  clear h
  cases ua
  · have e1 : askK ⟨⟨false, la⟩, ⟨ub, lb⟩, true, tm, st⟩ t = 12 := by simp [askK]
    have HE := Lib.hid e1
    clear e1
    go_enter Try.func30, Try.ntmps30
    go_wp2_with fail
    refine (leader_any base bp _ _ _ _ (H.out.below (by repeat (first | (with_reducible exact Below.refl _ _) | (with_reducible refine Below.setCell ?_ ?_ _) | (with_reducible refine Below.alloc ?_ ?_ _) | (with_reducible refine Below.drewN ?_ _) | (with_reducible refine Below.drew ?_) | (with_reducible exact Nat.le_refl _) | (focus (simp only [World.size_alloc, World.size_setCell, World.size_drew, World.size_drewN]; omega)) | omega | exact Nat.le_refl _ | (focus (simp; done)) | (focus (simp; omega)))))).mono ?_
    rintro e w1 ⟨rfl, rfl⟩
    simp only [if_true, if_false, Bool.false_eq_true]
    go_wp2_with fail
    go_ret2
    refine ⟨by rw [askN, HE.out, if_neg (by omega)]; exact congrArg _ (congrArg (fun v => Value.tuple #[.int .i64 0, v]) errV_12.symm), ?_⟩
    rw [askP, HE.out, if_neg (by omega)]
    exact PairTo.same H.out (by repeat (first | (with_reducible exact Below.refl _ _) | (with_reducible refine Below.setCell ?_ ?_ _) | (with_reducible refine Below.alloc ?_ ?_ _) | (with_reducible refine Below.drewN ?_ _) | (with_reducible refine Below.drew ?_) | (with_reducible exact Nat.le_refl _) | (focus (simp only [World.size_alloc, World.size_setCell, World.size_drew, World.size_drewN]; omega)) | omega | exact Nat.le_refl _ | (focus (simp; done)) | (focus (simp; omega))))
  by_cases ht : t = tm
  · have e1 : askK ⟨⟨true, la⟩, ⟨ub, lb⟩, true, tm, st⟩ t = 0 := by simp [askK, ht]
    have HE := Lib.hid e1
    have htb : (t != tm) = false := by rw [ht]; simp
    clear e1 ht
    have HR := Lib.hid (show w.ownsRow base 32 8 (.slice aL la.length cL) la.length (la.flatMap Cmd.row) from H.out.rb)
    have hne : ∀ k, (Value.slice aL la.length cL).ownBlock = some k → k ≠ bp ∧ k < w.heap.size := fun k hk => ⟨fun e => H.out.nb (by rw [← e]; exact hk), (HR.out.lt k hk).2⟩
    have HNE := Lib.hid hne
    clear hne
    have hbase : base ≤ w.heap.size := by have := H.out.low; omega
    go_enter Try.func30, Try.ntmps30
    go_wp2_with fail
    refine (leader_any base bp _ _ _ _ (H.out.below (by repeat (first | (with_reducible exact Below.refl _ _) | (with_reducible refine Below.setCell ?_ ?_ _) | (with_reducible refine Below.alloc ?_ ?_ _) | (with_reducible refine Below.drewN ?_ _) | (with_reducible refine Below.drew ?_) | (with_reducible exact Nat.le_refl _) | (focus (simp only [World.size_alloc, World.size_setCell, World.size_drew, World.size_drewN]; omega)) | omega | exact Nat.le_refl _ | (focus (simp; done)) | (focus (simp; omega)))))).mono ?_
    rintro e w1 ⟨rfl, rfl⟩
    simp only [if_true, if_false, Bool.false_eq_true]
    go_wp2_with fail
    refine (leader_any base bp _ _ _ _ (H.out.below (by repeat (first | (with_reducible exact Below.refl _ _) | (with_reducible refine Below.setCell ?_ ?_ _) | (with_reducible refine Below.alloc ?_ ?_ _) | (with_reducible refine Below.drewN ?_ _) | (with_reducible refine Below.drew ?_) | (with_reducible exact Nat.le_refl _) | (focus (simp only [World.size_alloc, World.size_setCell, World.size_drew, World.size_drewN]; omega)) | omega | exact Nat.le_refl _ | (focus (simp; done)) | (focus (simp; omega)))))).mono ?_
    rintro e w1 ⟨rfl, rfl⟩
    simp only [if_true, if_false, Bool.false_eq_true]
    go_wp2_with fail
    obtain ⟨SS, HSD⟩ : ∃ SS : World → Prop, Hid (SS = fun w' => w'.cell? ⟨bp, 3, none⟩ = some (.slice aL la.length cL) ∧ w'.cell? ⟨w.heap.size, 0, none⟩ = some (.int .i64 ck) ∧ w'.cell? ⟨w.heap.size, 1, none⟩ = some (.int .i64 cv) ∧ w'.cell? ⟨w.heap.size, 2, none⟩ = some (.int .i64 ce) ∧ w'.cell? ⟨w.heap.size, 3, none⟩ = some (.int .i64 cp) ∧ w'.cell? ⟨w.heap.size, 4, none⟩ = some (.int .i64 cn) ∧ w'.cell? ⟨w.heap.size, 5, none⟩ = some (.int .i64 c0) ∧ w'.cell? ⟨w.heap.size, 6, none⟩ = some (.int .i64 c1) ∧ w'.cell? ⟨w.heap.size, 7, none⟩ = some (.int .i64 c2)) := ⟨_, Lib.hid rfl⟩
    refine wp_region_order0 SS [4, 5] [(0, 0), (1, 0), (2, 0), (3, 0), (4, 2), (5, 2), (6, 1), (7, 1), (8, 0), (9, 0), (10, 1)] (by kernel_rfl) (by kernel_rfl) rfl (by kernel_rfl) ?_ ?_
    focus (rw [HSD.out]; refine ⟨?_, ?_, ?_, ?_, ?_, ?_, ?_, ?_, ?_⟩ <;> go_simp)
    refine stepE0 rfl rfl (fun K hK => ?_)
    go_simp
    refine hK _ ?_
    clear hK K
    refine stepE0 rfl rfl (fun K hK => ?_)
    go_simp
    refine hK _ ?_
    clear hK K
    refine stepE0 rfl rfl (fun K hK => ?_)
    go_simp
    refine hK _ ?_
    clear hK K
    refine stepE0 rfl rfl (fun K hK => ?_)
    go_simp
    refine hK _ ?_
    clear hK K
    refine stepE2 rfl rfl ?_ (fun w1 hS => ?_) (fun K hK => ?_)
    rotate_left
    focus (rw [HSD.out] at hS; obtain ⟨s0, s1, s2, s3, s4, s5, s6, s7, s8⟩ := hS; go_simp; rfl)
    go_simp
    refine hK _ ?_
    clear hK K
    refine stepE2 rfl rfl ?_ (fun w1 hS => ?_) (fun K hK => ?_)
    rotate_left
    focus (rw [HSD.out] at hS; obtain ⟨s0, s1, s2, s3, s4, s5, s6, s7, s8⟩ := hS; go_simp; rfl)
    go_simp
    refine hK _ ?_
    clear hK K
    refine stepE1S rfl rfl (fun K hK => ?_)
    go_wp2
    refine ⟨by rw [HSD.out]; exact (by refine ⟨?_, ?_, ?_, ?_, ?_, ?_, ?_, ?_, ?_⟩ <;> go_simp), ?_⟩
    refine stepE1 rfl rfl (by kernel_rfl) (fun K hK => ?_)
    (refine wp_append_lies _ _ _ 46 rfl base 32 i0 (.agg #[.int .i64 0, .int .i64 0, .int .i64 0, .int .i64 0, .int .i64 0, .int .i64 0, .int .i64 0, .int .i64 0]) 8 64 Try.underlying46 HI.out HZ0.out HZ1.out HZ2.out rfl (by decide) (.slice aL la.length cL) la.length (la.flatMap Cmd.row) rfl ((((HR.out.alloc _).alloc _).drew).drew).drew ⟨w.heap.size + 1, 0, none⟩ 1 1 [.int .i64 ck, .int .i64 cv, .int .i64 ce, .int .i64 cp, .int .i64 cn, .int .i64 c0, .int .i64 c1, .int .i64 c2] rfl rfl (World.news_of_block (by have h := heap_alloc_new (w.alloc (.cells #[.int .i64 ck, .int .i64 cv, .int .i64 ce, .int .i64 cp, .int .i64 cn, .int .i64 c0, .int .i64 c1, .int .i64 c2] 32)) (.cells #[.int .i64 ck, .int .i64 cv, .int .i64 ce, .int .i64 cp, .int .i64 cn, .int .i64 c0, .int .i64 c1, .int .i64 c2] 32); rw [World.size_alloc] at h; exact h)) (by simp [Value.oneCell']) (by omega) (by unfold maxLen; omega) (by omega) (by simp; omega) _ rfl ?_; intro g cg w2 hown2 hgrow hat hlt2; have HP := Lib.hid (Pst.grown (F := fun k => k = bp ∨ (Value.slice aL la.length cL).ownBlock = some k) ((((((Pst.refl H.out.blk).alloc _).alloc _).drew).drew).drew) hgrow (fun k e => .inr e) H.out.nb); have kx : w2.cell? ⟨bp, 3, none⟩ = some (.slice aL la.length cL) := (grown_cell hgrow (by simp; omega) H.out.nb).trans (by go_simp); have ku : w2.cell? ⟨bp, 0, none⟩ = some (.bool ub) := (grown_cell hgrow (by simp; omega) H.out.nb).trans (by go_simp); have ks : w2.cell? ⟨bp, 6, none⟩ = some (.int .i64 st) := (grown_cell hgrow (by simp; omega) H.out.nb).trans (by go_simp); have kl : w2.cell? ⟨bp, 4, none⟩ = some (.int .i64 1) := (grown_cell hgrow (by simp; omega) H.out.nb).trans (by go_simp); have kfx : ∀ o, w2.frozen? ⟨bp, o, none⟩ = false := (fun o => (grown_frozen hgrow (by simp; omega) H.out.nb).trans (by go_simp)); have HO2 := Lib.hid hown2; have HAT := Lib.hid hat; clear hown2 hgrow hat; go_wp2)
    refine stepE0 rfl rfl (fun K hK => ?_)
    go_simp
    refine hK _ ?_
    clear hK K
    refine stepE0 rfl rfl (fun K hK => ?_)
    go_simp
    refine hK _ ?_
    clear hK K
    refine stepE1 rfl rfl (by kernel_rfl) (fun K hK => ?_)
    go_wp2
    try refine stepEnil0 ?_
    clear HSD SS
    have HPS := Lib.hid (HP.out.setCell (i := 3) (v := .slice (some ⟨g, 0, none⟩) (la.length + 1) cg) (.inl rfl))
    have HKK := Lib.hid ((Keeps.refl (fun k => k = bp) w2).setCell ⟨bp, 3, none⟩ (.slice (some ⟨g, 0, none⟩) (la.length + 1) cg) (fun _ => rfl))
    have HAT' : Hid ((Value.slice aL la.length cL).ownBlock = some g ∨ w.heap.size ≤ g) := by
      rcases HAT.out with h | h
      · exact .inl h
      · exact .inr (by simp at h; omega)
    clear HP
    cases ub
    · go_wp2_with fail
      refine Calls.mono (follower_1 bp _ ?_) ?_
      · go_simp
      rintro e w3 ⟨rfl, rfl⟩
      go_wp2_with fail
      refine Calls.mono (settle_any bp st _ _ ?_ ?_) ?_
      · go_simp
      · go_simp
      rintro e w3 ⟨rfl, rfl⟩
      go_wp2_with fail
      go_ret2
      refine ⟨by rw [askN, HE.out, if_pos rfl]; exact congrArg Ending.returned (congrArg (fun v => Value.tuple #[.int .i64 v, .nilIface]) (by simp)), ?_⟩
      rw [askP, HE.out, if_pos rfl]
      refine PairTo.of_b (w1 := w2) H.out (Pst.cast (HPS.out.setCell (i := 6) (.inl rfl)).drew ?_) (ownsRow_cast HO2.out ?_ ?_) ((HKK.out.setCell _ _ (fun _ => rfl)).drew) HAT'.out rfl
      · simp [Pr.cells, Pr.a, Pr.b, Pr.ld]
      · simp [Pr.a, Pr.b]
      · simp [Pr.a, Pr.b, Cmd.row]
    · go_wp2_with fail
      refine Calls.mono (follower_1 bp _ ?_) ?_
      · go_simp
      rintro e w3 ⟨rfl, rfl⟩
      go_wp2_with fail
      go_ret2
      refine ⟨by rw [askN, HE.out, if_pos rfl]; exact congrArg Ending.returned (congrArg (fun v => Value.tuple #[.int .i64 v, .nilIface]) (by simp)), ?_⟩
      rw [askP, HE.out, if_pos rfl]
      refine PairTo.of_b (w1 := w2) H.out (Pst.cast HPS.out.drew ?_) (ownsRow_cast HO2.out ?_ ?_) HKK.out.drew HAT'.out rfl
      · simp [Pr.cells, Pr.a, Pr.b, Pr.ld]
      · simp [Pr.a, Pr.b]
      · simp [Pr.a, Pr.b, Cmd.row]
  · have e1 : askK ⟨⟨true, la⟩, ⟨ub, lb⟩, true, tm, st⟩ t = 13 := by simp [askK, ht]
    have HE := Lib.hid e1
    have htb : (t != tm) = true := by rw [bne_iff_ne]; exact ht
    clear e1 ht
    go_enter Try.func30, Try.ntmps30
    go_wp2_with fail
    refine (leader_any base bp _ _ _ _ (H.out.below (by repeat (first | (with_reducible exact Below.refl _ _) | (with_reducible refine Below.setCell ?_ ?_ _) | (with_reducible refine Below.alloc ?_ ?_ _) | (with_reducible refine Below.drewN ?_ _) | (with_reducible refine Below.drew ?_) | (with_reducible exact Nat.le_refl _) | (focus (simp only [World.size_alloc, World.size_setCell, World.size_drew, World.size_drewN]; omega)) | omega | exact Nat.le_refl _ | (focus (simp; done)) | (focus (simp; omega)))))).mono ?_
    rintro e w1 ⟨rfl, rfl⟩
    simp only [if_true, if_false, Bool.false_eq_true]
    go_wp2_with fail
    go_ret2
    refine ⟨by rw [askN, HE.out, if_neg (by omega)]; exact congrArg _ (congrArg (fun v => Value.tuple #[.int .i64 0, v]) errV_13.symm), ?_⟩
    rw [askP, HE.out, if_neg (by omega)]
    exact PairTo.same H.out (by repeat (first | (with_reducible exact Below.refl _ _) | (with_reducible refine Below.setCell ?_ ?_ _) | (with_reducible refine Below.alloc ?_ ?_ _) | (with_reducible refine Below.drewN ?_ _) | (with_reducible refine Below.drew ?_) | (with_reducible exact Nat.le_refl _) | (focus (simp only [World.size_alloc, World.size_setCell, World.size_drew, World.size_drewN]; omega)) | omega | exact Nat.le_refl _ | (focus (simp; done)) | (focus (simp; omega))))
end Go.Proofs.Ytigkcbnlbdiimaa

/- Package twin: Ask, Ship. (Written by wip/gentwin.py.) -/
namespace Go.Proofs.Ytigkcbnlbdiimaa
open Go.RowKit
set_option maxRecDepth 100000 in
set_option maxHeartbeats 4000000 in
theorem ship_false (base bp : Nat) (va vb : Value) (ua ub : Bool) (la lb : List Cmd) (tm st t : Int) (w : World) (h : PairAt w base bp va vb ⟨⟨ua, la⟩, ⟨ub, lb⟩, false, tm, st⟩) (hN : la.length ≤ 100000) (hle : ub = true → lb.length ≤ la.length) :
    Calls Try.prog 32 #[.pointer (some ⟨bp, 0, none⟩), .int .i64 t] w
      fun e w' => e = .returned (errV (shipK ⟨⟨ua, la⟩, ⟨ub, lb⟩, false, tm, st⟩ t)) ∧ PairTo w base bp va vb (shipP ⟨⟨ua, la⟩, ⟨ub, lb⟩, false, tm, st⟩ t) w' := by
  obtain ⟨i0, hi, hz0, hz1, hz2⟩ := info_parts cmd_info
  have HI := Lib.hid hi
  have HZ0 := Lib.hid hz0
  have HZ1 := Lib.hid hz1
  have HZ2 := Lib.hid hz2
  clear hi hz0 hz1 hz2
  have H := Lib.hid h
  have hlt := h.lt
  obtain ⟨k0, k1, k2, k3, k4, k5, k6, kf⟩ := h.cell
  simp only [Pr.a, Pr.b, Pr.ld, if_true, if_false, Bool.false_eq_true] at k0 k1 k2 k3 k4 k5 k6
  obtain ⟨aA, cA, rfl⟩ := ownsRow_len h.ra
  obtain ⟨aB, cB, rfl⟩ := ownsRow_len h.rb
  simp only [Pr.a, Pr.b, if_true, if_false, Bool.false_eq_true] at k1 k3
  clear h
  have HLE := Lib.hid hle
  clear hle
  cases ua
  · have e1 : shipK ⟨⟨false, la⟩, ⟨ub, lb⟩, false, tm, st⟩ t = 12 := by simp [shipK]
    have HE := Lib.hid e1
    clear e1
    go_enter Try.func32, Try.ntmps32
    go_wp2_with fail
    refine Calls.mono (leader_0 bp _ ?_) ?_
    · go_simp
    rintro e w1 ⟨rfl, rfl⟩
    go_wp2_with fail
    go_ret
    refine ⟨by rw [HE.out]; exact congrArg _ errV_12.symm, ?_⟩
    rw [shipP, HE.out, if_neg (by omega)]
    exact PairTo.same H.out (by repeat (first | (with_reducible exact Below.refl _ _) | (with_reducible refine Below.setCell ?_ ?_ _) | (with_reducible refine Below.alloc ?_ ?_ _) | (with_reducible refine Below.drewN ?_ _) | (with_reducible refine Below.drew ?_) | (with_reducible exact Nat.le_refl _) | (focus (simp only [World.size_alloc, World.size_setCell, World.size_drew, World.size_drewN]; omega)) | omega | exact Nat.le_refl _ | (focus (simp; done)) | (focus (simp; omega))))
  cases ub
  · have e1 : shipK ⟨⟨true, la⟩, ⟨false, lb⟩, false, tm, st⟩ t = 12 := by simp [shipK]
    have HE := Lib.hid e1
    clear e1
    go_enter Try.func32, Try.ntmps32
    go_wp2_with fail
    refine Calls.mono (leader_0 bp _ ?_) ?_
    · go_simp
    rintro e w1 ⟨rfl, rfl⟩
    go_wp2_with fail
    refine Calls.mono (follower_0 bp _ ?_) ?_
    · go_simp
    rintro e w1 ⟨rfl, rfl⟩
    go_wp2_with fail
    go_ret
    refine ⟨by rw [HE.out]; exact congrArg _ errV_12.symm, ?_⟩
    rw [shipP, HE.out, if_neg (by omega)]
    exact PairTo.same H.out (by repeat (first | (with_reducible exact Below.refl _ _) | (with_reducible refine Below.setCell ?_ ?_ _) | (with_reducible refine Below.alloc ?_ ?_ _) | (with_reducible refine Below.drewN ?_ _) | (with_reducible refine Below.drew ?_) | (with_reducible exact Nat.le_refl _) | (focus (simp only [World.size_alloc, World.size_setCell, World.size_drew, World.size_drewN]; omega)) | omega | exact Nat.le_refl _ | (focus (simp; done)) | (focus (simp; omega))))
  by_cases ht : t = tm
  · have htb : (t != tm) = false := by rw [ht]; simp
    by_cases hll : lb.length = la.length
    · have e1 : shipK ⟨⟨true, la⟩, ⟨true, lb⟩, false, tm, st⟩ t = 6 := by simp [shipK, ht, hll]
      have HE := Lib.hid e1
      have hlb : ((lb.length : Int) == (la.length : Int)) = true := by rw [hll]; simp
      clear e1 ht hll
      go_enter Try.func32, Try.ntmps32
      go_wp2_with fail
      refine Calls.mono (leader_0 bp _ ?_) ?_
      · go_simp
      rintro e w1 ⟨rfl, rfl⟩
      go_wp2_with fail
      refine Calls.mono (follower_0 bp _ ?_) ?_
      · go_simp
      rintro e w1 ⟨rfl, rfl⟩
      go_wp2_with fail
      refine Calls.mono (follower_0 bp _ ?_) ?_
      · go_simp
      rintro e w1 ⟨rfl, rfl⟩
      go_wp2_with fail
      refine Calls.mono (leader_0 bp _ ?_) ?_
      · go_simp
      rintro e w1 ⟨rfl, rfl⟩
      go_wp2_with fail
      go_ret
      refine ⟨by rw [HE.out]; exact congrArg _ errV_6.symm, ?_⟩
      rw [shipP, HE.out, if_neg (by omega)]
      exact PairTo.same H.out (by repeat (first | (with_reducible exact Below.refl _ _) | (with_reducible refine Below.setCell ?_ ?_ _) | (with_reducible refine Below.alloc ?_ ?_ _) | (with_reducible refine Below.drewN ?_ _) | (with_reducible refine Below.drew ?_) | (with_reducible exact Nat.le_refl _) | (focus (simp only [World.size_alloc, World.size_setCell, World.size_drew, World.size_drewN]; omega)) | omega | exact Nat.le_refl _ | (focus (simp; done)) | (focus (simp; omega))))
    · have e1 : shipK ⟨⟨true, la⟩, ⟨true, lb⟩, false, tm, st⟩ t = 0 := by simp [shipK, ht, hll]
      have HE := Lib.hid e1
      have hlb : ((lb.length : Int) == (la.length : Int)) = false := by rw [beq_eq_false_iff_ne]; omega
      have hlt2 : lb.length < la.length := by have := HLE.out rfl; omega
      obtain ⟨c, hc⟩ : ∃ c, la[lb.length]? = some c := ⟨_, List.getElem?_eq_getElem hlt2⟩
      have HRL := Lib.hid (show w.ownsRow base 32 8 (.slice aA la.length cA) la.length (la.flatMap Cmd.row) from H.out.ra)
      have HRF := Lib.hid (show w.ownsRow base 32 8 (.slice aB lb.length cB) lb.length (lb.flatMap Cmd.row) from H.out.rb)
      obtain ⟨gL, cl, eL, hgL, _, _, q0, q1, q2, q3, q4, q5, q6, q7⟩ := row_cmd HRL.out lb.length c hc
      obtain ⟨rfl, -, rfl⟩ := slice_inj eL
      have HC := Lib.hid hc
      obtain ⟨ck, cv, ce, cp, cn, c0, c1, c2⟩ := c
      have hbase : base ≤ w.heap.size := by have := H.out.low; omega
      have hn0 : (0 : Int) ≤ (lb.length : Int) := by omega
      have hn1 : (lb.length : Int) < (la.length : Int) := by omega
      clear e1 ht hll hc eL
      go_enter Try.func32, Try.ntmps32
      go_wp2_with fail
      refine Calls.mono (leader_0 bp _ ?_) ?_
      · go_simp
      rintro e w1 ⟨rfl, rfl⟩
      go_wp2_with fail
      refine Calls.mono (follower_0 bp _ ?_) ?_
      · go_simp
      rintro e w1 ⟨rfl, rfl⟩
      go_wp2_with fail
      refine Calls.mono (follower_0 bp _ ?_) ?_
      · go_simp
      rintro e w1 ⟨rfl, rfl⟩
      go_wp2_with fail
      refine Calls.mono (leader_0 bp _ ?_) ?_
      · go_simp
      rintro e w1 ⟨rfl, rfl⟩
      go_wp2_with fail
      obtain ⟨SS, HSD⟩ : ∃ SS : World → Prop, Hid (SS = fun w' => w'.cell? ⟨bp, 3, none⟩ = some (.slice aB lb.length cB) ∧ w'.cell? ⟨bp, 1, none⟩ = some (.slice (some ⟨gL, 0, none⟩) la.length cA) ∧ w'.cell? ⟨gL, lb.length * 8, none⟩ = some (.int .i64 ck) ∧ w'.cell? ⟨gL, lb.length * 8 + 1, none⟩ = some (.int .i64 cv) ∧ w'.cell? ⟨gL, lb.length * 8 + 2, none⟩ = some (.int .i64 ce) ∧ w'.cell? ⟨gL, lb.length * 8 + 3, none⟩ = some (.int .i64 cp) ∧ w'.cell? ⟨gL, lb.length * 8 + 4, none⟩ = some (.int .i64 cn) ∧ w'.cell? ⟨gL, lb.length * 8 + 5, none⟩ = some (.int .i64 c0) ∧ w'.cell? ⟨gL, lb.length * 8 + 6, none⟩ = some (.int .i64 c1) ∧ w'.cell? ⟨gL, lb.length * 8 + 7, none⟩ = some (.int .i64 c2)) := ⟨_, Lib.hid rfl⟩
      refine wp_region_order0 SS [4, 9, 12] [(0, 0), (1, 0), (2, 0), (3, 0), (4, 2), (5, 0), (10, 0), (6, 1), (7, 0), (8, 0), (9, 2), (11, 0), (12, 2), (13, 1), (14, 1), (15, 0), (16, 0), (17, 1)] (by kernel_rfl) (by kernel_rfl) rfl (by kernel_rfl) ?_ ?_
      focus (rw [HSD.out]; refine ⟨?_, ?_, ?_, ?_, ?_, ?_, ?_, ?_, ?_, ?_⟩ <;> go_simp)
      refine stepE0 rfl rfl (fun K hK => ?_)
      go_simp
      refine hK _ ?_
      clear hK K
      refine stepE0 rfl rfl (fun K hK => ?_)
      go_simp
      refine hK _ ?_
      clear hK K
      refine stepE0 rfl rfl (fun K hK => ?_)
      go_simp
      refine hK _ ?_
      clear hK K
      refine stepE0 rfl rfl (fun K hK => ?_)
      go_simp
      refine hK _ ?_
      clear hK K
      refine stepE2 rfl rfl ?_ (fun w1 hS => ?_) (fun K hK => ?_)
      rotate_left
      focus (rw [HSD.out] at hS; obtain ⟨s0, s9, s1, s2, s3, s4, s5, s6, s7, s8⟩ := hS; go_simp; rfl)
      go_simp
      refine hK _ ?_
      clear hK K
      refine stepE0 rfl rfl (fun K hK => ?_)
      go_simp
      refine hK _ ?_
      clear hK K
      refine stepE0 rfl rfl (fun K hK => ?_)
      go_simp
      refine hK _ ?_
      clear hK K
      refine stepE1S rfl rfl (fun K hK => ?_)
      (go_wp2_with fail; refine Calls.mono (leader_0 bp _ ?_) ?_; (focus (go_simp)); rintro e w2 ⟨rfl, rfl⟩; go_wp2)
      refine ⟨by rw [HSD.out]; exact (by refine ⟨?_, ?_, ?_, ?_, ?_, ?_, ?_, ?_, ?_, ?_⟩ <;> go_simp), ?_⟩
      refine stepE0 rfl rfl (fun K hK => ?_)
      go_simp
      refine hK _ ?_
      clear hK K
      refine stepE0 rfl rfl (fun K hK => ?_)
      go_simp
      refine hK _ ?_
      clear hK K
      refine stepE2 rfl rfl ?_ (fun w1 hS => ?_) (fun K hK => ?_)
      rotate_left
      focus (rw [HSD.out] at hS; obtain ⟨s0, s9, s1, s2, s3, s4, s5, s6, s7, s8⟩ := hS; go_simp; rfl)
      go_simp
      refine hK _ ?_
      clear hK K
      refine stepE0 rfl rfl (fun K hK => ?_)
      go_simp
      refine hK _ ?_
      clear hK K
      refine stepE2 rfl rfl ?_ (fun w1 hS => ?_) (fun K hK => ?_)
      rotate_left
      focus (rw [HSD.out] at hS; obtain ⟨s0, s9, s1, s2, s3, s4, s5, s6, s7, s8⟩ := hS; go_simp; rfl)
      go_simp
      refine hK _ ?_
      clear hK K
      refine stepE1S rfl rfl (fun K hK => ?_)
      go_wp2
      refine ⟨by rw [HSD.out]; exact (by refine ⟨?_, ?_, ?_, ?_, ?_, ?_, ?_, ?_, ?_, ?_⟩ <;> go_simp), ?_⟩
      refine stepE1 rfl rfl (by kernel_rfl) (fun K hK => ?_)
      (refine wp_append_lies _ _ _ 46 rfl base 32 i0 (.agg #[.int .i64 0, .int .i64 0, .int .i64 0, .int .i64 0, .int .i64 0, .int .i64 0, .int .i64 0, .int .i64 0]) 8 64 Try.underlying46 HI.out HZ0.out HZ1.out HZ2.out rfl (by decide) (.slice aB lb.length cB) lb.length (lb.flatMap Cmd.row) rfl (by have h := ((((((HRF.out.alloc (.cells #[.int .i64 ck, .int .i64 cv, .int .i64 ce, .int .i64 cp, .int .i64 cn, .int .i64 c0, .int .i64 c1, .int .i64 c2] 32)).drew).drew).drew).drew).drew).drew; exact h) ⟨w.heap.size, 0, none⟩ 1 1 [.int .i64 ck, .int .i64 cv, .int .i64 ce, .int .i64 cp, .int .i64 cn, .int .i64 c0, .int .i64 c1, .int .i64 c2] rfl rfl (World.news_of_block (heap_alloc_new w (.cells #[.int .i64 ck, .int .i64 cv, .int .i64 ce, .int .i64 cp, .int .i64 cn, .int .i64 c0, .int .i64 c1, .int .i64 c2] 32))) (by simp [Value.oneCell']) (by omega) (by unfold maxLen; omega) (by omega) (by simp; omega) _ rfl ?_; intro g cg w2 hown2 hgrow hat hlt2; have HP := Lib.hid (Pst.grown (F := fun k => k = bp ∨ (Value.slice aB lb.length cB).ownBlock = some k) (((((((((Pst.refl H.out.blk).alloc (.cells #[.int .i64 ck, .int .i64 cv, .int .i64 ce, .int .i64 cp, .int .i64 cn, .int .i64 c0, .int .i64 c1, .int .i64 c2] 32)).drew).drew).drew).drew).drew).drew)) hgrow (fun k e => .inr e) H.out.nb); have kx : w2.cell? ⟨bp, 3, none⟩ = some (.slice aB lb.length cB) := (grown_cell hgrow (by simp; omega) H.out.nb).trans (by go_simp); have ks : w2.cell? ⟨bp, 6, none⟩ = some (.int .i64 st) := (grown_cell hgrow (by simp; omega) H.out.nb).trans (by go_simp); have kfx : ∀ o, w2.frozen? ⟨bp, o, none⟩ = false := (fun o => (grown_frozen hgrow (by simp; omega) H.out.nb).trans (by go_simp)); have HO2 := Lib.hid hown2; have HAT := Lib.hid hat; clear hown2 hgrow hat; go_wp2)
      refine stepE0 rfl rfl (fun K hK => ?_)
      go_simp
      refine hK _ ?_
      clear hK K
      refine stepE0 rfl rfl (fun K hK => ?_)
      go_simp
      refine hK _ ?_
      clear hK K
      refine stepE1 rfl rfl (by kernel_rfl) (fun K hK => ?_)
      go_wp2
      try refine stepEnil0 ?_
      clear HSD SS
      have HPS := Lib.hid (HP.out.setCell (i := 3) (v := .slice (some ⟨g, 0, none⟩) (lb.length + 1) cg) (.inl rfl))
      have HKK := Lib.hid ((Keeps.refl (fun k => k = bp) w2).setCell ⟨bp, 3, none⟩ (.slice (some ⟨g, 0, none⟩) (lb.length + 1) cg) (fun _ => rfl))
      have HAT' : Hid ((Value.slice aB lb.length cB).ownBlock = some g ∨ w.heap.size ≤ g) := by
        rcases HAT.out with h | h
        · exact .inl h
        · exact .inr (by simp at h; omega)
      clear HP
      go_wp2_with fail
      refine Calls.mono (settle_any bp st _ _ ?_ ?_) ?_
      · go_simp
      · go_simp
      rintro e w3 ⟨rfl, rfl⟩
      go_wp2_with fail
      go_ret
      refine ⟨by rw [HE.out]; rfl, ?_⟩
      rw [shipP, HE.out, if_pos rfl]
      simp only [HC.out]
      refine PairTo.of_b (w1 := w2) H.out (Pst.cast (HPS.out.setCell (i := 6) (.inl rfl)) ?_) (ownsRow_cast HO2.out ?_ ?_) (HKK.out.setCell _ _ (fun _ => rfl)) HAT'.out rfl
      · simp [Pr.cells, Pr.a, Pr.b, Pr.ld]
      · simp [Pr.a, Pr.b]
      · simp [Pr.a, Pr.b, Cmd.row]
  · have e1 : shipK ⟨⟨true, la⟩, ⟨true, lb⟩, false, tm, st⟩ t = 13 := by simp [shipK, ht]
    have HE := Lib.hid e1
    have htb : (t != tm) = true := by rw [bne_iff_ne]; exact ht
    clear e1 ht
    go_enter Try.func32, Try.ntmps32
    go_wp2_with fail
    refine Calls.mono (leader_0 bp _ ?_) ?_
    · go_simp
    rintro e w1 ⟨rfl, rfl⟩
    go_wp2_with fail
    refine Calls.mono (follower_0 bp _ ?_) ?_
    · go_simp
    rintro e w1 ⟨rfl, rfl⟩
    go_wp2_with fail
    go_ret
    refine ⟨by rw [HE.out]; exact congrArg _ errV_13.symm, ?_⟩
    rw [shipP, HE.out, if_neg (by omega)]
    exact PairTo.same H.out (by repeat (first | (with_reducible exact Below.refl _ _) | (with_reducible refine Below.setCell ?_ ?_ _) | (with_reducible refine Below.alloc ?_ ?_ _) | (with_reducible refine Below.drewN ?_ _) | (with_reducible refine Below.drew ?_) | (with_reducible exact Nat.le_refl _) | (focus (simp only [World.size_alloc, World.size_setCell, World.size_drew, World.size_drewN]; omega)) | omega | exact Nat.le_refl _ | (focus (simp; done)) | (focus (simp; omega))))
set_option maxRecDepth 100000 in
set_option maxHeartbeats 4000000 in
theorem ship_true (base bp : Nat) (va vb : Value) (ua ub : Bool) (la lb : List Cmd) (tm st t : Int) (w : World) (h : PairAt w base bp va vb ⟨⟨ua, la⟩, ⟨ub, lb⟩, true, tm, st⟩) (hN : la.length ≤ 100000) (hle : ub = true → lb.length ≤ la.length) :
    Calls Try.prog 32 #[.pointer (some ⟨bp, 0, none⟩), .int .i64 t] w
      fun e w' => e = .returned (errV (shipK ⟨⟨ua, la⟩, ⟨ub, lb⟩, true, tm, st⟩ t)) ∧ PairTo w base bp va vb (shipP ⟨⟨ua, la⟩, ⟨ub, lb⟩, true, tm, st⟩ t) w' := by
  obtain ⟨i0, hi, hz0, hz1, hz2⟩ := info_parts cmd_info
  have HI := Lib.hid hi
  have HZ0 := Lib.hid hz0
  have HZ1 := Lib.hid hz1
  have HZ2 := Lib.hid hz2
  clear hi hz0 hz1 hz2
  have H := Lib.hid h
  have hlt := h.lt
  obtain ⟨k0, k1, k2, k3, k4, k5, k6, kf⟩ := h.cell
  simp only [Pr.a, Pr.b, Pr.ld, if_true, if_false, Bool.false_eq_true] at k0 k1 k2 k3 k4 k5 k6
  obtain ⟨aA, cA, rfl⟩ := ownsRow_len h.ra
  obtain ⟨aB, cB, rfl⟩ := ownsRow_len h.rb
  simp only [Pr.a, Pr.b, if_true, if_false, Bool.false_eq_true] at k1 k3
  clear h
  have HLE := Lib.hid hle
  clear hle
  cases ua
  · have e1 : shipK ⟨⟨false, la⟩, ⟨ub, lb⟩, true, tm, st⟩ t = 12 := by simp [shipK]
    have HE := Lib.hid e1
    clear e1
    go_enter Try.func32, Try.ntmps32
    go_wp2_with fail
    refine Calls.mono (leader_1 bp _ ?_) ?_
    · go_simp
    rintro e w1 ⟨rfl, rfl⟩
    go_wp2_with fail
    go_ret
    refine ⟨by rw [HE.out]; exact congrArg _ errV_12.symm, ?_⟩
    rw [shipP, HE.out, if_neg (by omega)]
    exact PairTo.same H.out (by repeat (first | (with_reducible exact Below.refl _ _) | (with_reducible refine Below.setCell ?_ ?_ _) | (with_reducible refine Below.alloc ?_ ?_ _) | (with_reducible refine Below.drewN ?_ _) | (with_reducible refine Below.drew ?_) | (with_reducible exact Nat.le_refl _) | (focus (simp only [World.size_alloc, World.size_setCell, World.size_drew, World.size_drewN]; omega)) | omega | exact Nat.le_refl _ | (focus (simp; done)) | (focus (simp; omega))))
  cases ub
  · have e1 : shipK ⟨⟨true, la⟩, ⟨false, lb⟩, true, tm, st⟩ t = 12 := by simp [shipK]
    have HE := Lib.hid e1
    clear e1
    go_enter Try.func32, Try.ntmps32
    go_wp2_with fail
    refine Calls.mono (leader_1 bp _ ?_) ?_
    · go_simp
    rintro e w1 ⟨rfl, rfl⟩
    go_wp2_with fail
    refine Calls.mono (follower_1 bp _ ?_) ?_
    · go_simp
    rintro e w1 ⟨rfl, rfl⟩
    go_wp2_with fail
    go_ret
    refine ⟨by rw [HE.out]; exact congrArg _ errV_12.symm, ?_⟩
    rw [shipP, HE.out, if_neg (by omega)]
    exact PairTo.same H.out (by repeat (first | (with_reducible exact Below.refl _ _) | (with_reducible refine Below.setCell ?_ ?_ _) | (with_reducible refine Below.alloc ?_ ?_ _) | (with_reducible refine Below.drewN ?_ _) | (with_reducible refine Below.drew ?_) | (with_reducible exact Nat.le_refl _) | (focus (simp only [World.size_alloc, World.size_setCell, World.size_drew, World.size_drewN]; omega)) | omega | exact Nat.le_refl _ | (focus (simp; done)) | (focus (simp; omega))))
  by_cases ht : t = tm
  · have htb : (t != tm) = false := by rw [ht]; simp
    by_cases hll : lb.length = la.length
    · have e1 : shipK ⟨⟨true, la⟩, ⟨true, lb⟩, true, tm, st⟩ t = 6 := by simp [shipK, ht, hll]
      have HE := Lib.hid e1
      have hlb : ((lb.length : Int) == (la.length : Int)) = true := by rw [hll]; simp
      clear e1 ht hll
      go_enter Try.func32, Try.ntmps32
      go_wp2_with fail
      refine Calls.mono (leader_1 bp _ ?_) ?_
      · go_simp
      rintro e w1 ⟨rfl, rfl⟩
      go_wp2_with fail
      refine Calls.mono (follower_1 bp _ ?_) ?_
      · go_simp
      rintro e w1 ⟨rfl, rfl⟩
      go_wp2_with fail
      refine Calls.mono (follower_1 bp _ ?_) ?_
      · go_simp
      rintro e w1 ⟨rfl, rfl⟩
      go_wp2_with fail
      refine Calls.mono (leader_1 bp _ ?_) ?_
      · go_simp
      rintro e w1 ⟨rfl, rfl⟩
      go_wp2_with fail
      go_ret
      refine ⟨by rw [HE.out]; exact congrArg _ errV_6.symm, ?_⟩
      rw [shipP, HE.out, if_neg (by omega)]
      exact PairTo.same H.out (by repeat (first | (with_reducible exact Below.refl _ _) | (with_reducible refine Below.setCell ?_ ?_ _) | (with_reducible refine Below.alloc ?_ ?_ _) | (with_reducible refine Below.drewN ?_ _) | (with_reducible refine Below.drew ?_) | (with_reducible exact Nat.le_refl _) | (focus (simp only [World.size_alloc, World.size_setCell, World.size_drew, World.size_drewN]; omega)) | omega | exact Nat.le_refl _ | (focus (simp; done)) | (focus (simp; omega))))
    · have e1 : shipK ⟨⟨true, la⟩, ⟨true, lb⟩, true, tm, st⟩ t = 0 := by simp [shipK, ht, hll]
      have HE := Lib.hid e1
      have hlb : ((lb.length : Int) == (la.length : Int)) = false := by rw [beq_eq_false_iff_ne]; omega
      have hlt2 : lb.length < la.length := by have := HLE.out rfl; omega
      obtain ⟨c, hc⟩ : ∃ c, la[lb.length]? = some c := ⟨_, List.getElem?_eq_getElem hlt2⟩
      have HRL := Lib.hid (show w.ownsRow base 32 8 (.slice aB la.length cB) la.length (la.flatMap Cmd.row) from H.out.rb)
      have HRF := Lib.hid (show w.ownsRow base 32 8 (.slice aA lb.length cA) lb.length (lb.flatMap Cmd.row) from H.out.ra)
      obtain ⟨gL, cl, eL, hgL, _, _, q0, q1, q2, q3, q4, q5, q6, q7⟩ := row_cmd HRL.out lb.length c hc
      obtain ⟨rfl, -, rfl⟩ := slice_inj eL
      have HC := Lib.hid hc
      obtain ⟨ck, cv, ce, cp, cn, c0, c1, c2⟩ := c
      have hbase : base ≤ w.heap.size := by have := H.out.low; omega
      have hn0 : (0 : Int) ≤ (lb.length : Int) := by omega
      have hn1 : (lb.length : Int) < (la.length : Int) := by omega
      clear e1 ht hll hc eL
      go_enter Try.func32, Try.ntmps32
      go_wp2_with fail
      refine Calls.mono (leader_1 bp _ ?_) ?_
      · go_simp
      rintro e w1 ⟨rfl, rfl⟩
      go_wp2_with fail
      refine Calls.mono (follower_1 bp _ ?_) ?_
      · go_simp
      rintro e w1 ⟨rfl, rfl⟩
      go_wp2_with fail
      refine Calls.mono (follower_1 bp _ ?_) ?_
      · go_simp
      rintro e w1 ⟨rfl, rfl⟩
      go_wp2_with fail
      refine Calls.mono (leader_1 bp _ ?_) ?_
      · go_simp
      rintro e w1 ⟨rfl, rfl⟩
      go_wp2_with fail
      obtain ⟨SS, HSD⟩ : ∃ SS : World → Prop, Hid (SS = fun w' => w'.cell? ⟨bp, 1, none⟩ = some (.slice aA lb.length cA) ∧ w'.cell? ⟨bp, 3, none⟩ = some (.slice (some ⟨gL, 0, none⟩) la.length cB) ∧ w'.cell? ⟨gL, lb.length * 8, none⟩ = some (.int .i64 ck) ∧ w'.cell? ⟨gL, lb.length * 8 + 1, none⟩ = some (.int .i64 cv) ∧ w'.cell? ⟨gL, lb.length * 8 + 2, none⟩ = some (.int .i64 ce) ∧ w'.cell? ⟨gL, lb.length * 8 + 3, none⟩ = some (.int .i64 cp) ∧ w'.cell? ⟨gL, lb.length * 8 + 4, none⟩ = some (.int .i64 cn) ∧ w'.cell? ⟨gL, lb.length * 8 + 5, none⟩ = some (.int .i64 c0) ∧ w'.cell? ⟨gL, lb.length * 8 + 6, none⟩ = some (.int .i64 c1) ∧ w'.cell? ⟨gL, lb.length * 8 + 7, none⟩ = some (.int .i64 c2)) := ⟨_, Lib.hid rfl⟩
      refine wp_region_order0 SS [4, 9, 12] [(0, 0), (1, 0), (2, 0), (3, 0), (4, 2), (5, 0), (10, 0), (6, 1), (7, 0), (8, 0), (9, 2), (11, 0), (12, 2), (13, 1), (14, 1), (15, 0), (16, 0), (17, 1)] (by kernel_rfl) (by kernel_rfl) rfl (by kernel_rfl) ?_ ?_
      focus (rw [HSD.out]; refine ⟨?_, ?_, ?_, ?_, ?_, ?_, ?_, ?_, ?_, ?_⟩ <;> go_simp)
      refine stepE0 rfl rfl (fun K hK => ?_)
      go_simp
      refine hK _ ?_
      clear hK K
      refine stepE0 rfl rfl (fun K hK => ?_)
      go_simp
      refine hK _ ?_
      clear hK K
      refine stepE0 rfl rfl (fun K hK => ?_)
      go_simp
      refine hK _ ?_
      clear hK K
      refine stepE0 rfl rfl (fun K hK => ?_)
      go_simp
      refine hK _ ?_
      clear hK K
      refine stepE2 rfl rfl ?_ (fun w1 hS => ?_) (fun K hK => ?_)
      rotate_left
      focus (rw [HSD.out] at hS; obtain ⟨s0, s9, s1, s2, s3, s4, s5, s6, s7, s8⟩ := hS; go_simp; rfl)
      go_simp
      refine hK _ ?_
      clear hK K
      refine stepE0 rfl rfl (fun K hK => ?_)
      go_simp
      refine hK _ ?_
      clear hK K
      refine stepE0 rfl rfl (fun K hK => ?_)
      go_simp
      refine hK _ ?_
      clear hK K
      refine stepE1S rfl rfl (fun K hK => ?_)
      (go_wp2_with fail; refine Calls.mono (leader_1 bp _ ?_) ?_; (focus (go_simp)); rintro e w2 ⟨rfl, rfl⟩; go_wp2)
      refine ⟨by rw [HSD.out]; exact (by refine ⟨?_, ?_, ?_, ?_, ?_, ?_, ?_, ?_, ?_, ?_⟩ <;> go_simp), ?_⟩
      refine stepE0 rfl rfl (fun K hK => ?_)
      go_simp
      refine hK _ ?_
      clear hK K
      refine stepE0 rfl rfl (fun K hK => ?_)
      go_simp
      refine hK _ ?_
      clear hK K
      refine stepE2 rfl rfl ?_ (fun w1 hS => ?_) (fun K hK => ?_)
      rotate_left
      focus (rw [HSD.out] at hS; obtain ⟨s0, s9, s1, s2, s3, s4, s5, s6, s7, s8⟩ := hS; go_simp; rfl)
      go_simp
      refine hK _ ?_
      clear hK K
      refine stepE0 rfl rfl (fun K hK => ?_)
      go_simp
      refine hK _ ?_
      clear hK K
      refine stepE2 rfl rfl ?_ (fun w1 hS => ?_) (fun K hK => ?_)
      rotate_left
      focus (rw [HSD.out] at hS; obtain ⟨s0, s9, s1, s2, s3, s4, s5, s6, s7, s8⟩ := hS; go_simp; rfl)
      go_simp
      refine hK _ ?_
      clear hK K
      refine stepE1S rfl rfl (fun K hK => ?_)
      go_wp2
      refine ⟨by rw [HSD.out]; exact (by refine ⟨?_, ?_, ?_, ?_, ?_, ?_, ?_, ?_, ?_, ?_⟩ <;> go_simp), ?_⟩
      refine stepE1 rfl rfl (by kernel_rfl) (fun K hK => ?_)
      (refine wp_append_lies _ _ _ 46 rfl base 32 i0 (.agg #[.int .i64 0, .int .i64 0, .int .i64 0, .int .i64 0, .int .i64 0, .int .i64 0, .int .i64 0, .int .i64 0]) 8 64 Try.underlying46 HI.out HZ0.out HZ1.out HZ2.out rfl (by decide) (.slice aA lb.length cA) lb.length (lb.flatMap Cmd.row) rfl (by have h := ((((((HRF.out.alloc (.cells #[.int .i64 ck, .int .i64 cv, .int .i64 ce, .int .i64 cp, .int .i64 cn, .int .i64 c0, .int .i64 c1, .int .i64 c2] 32)).drew).drew).drew).drew).drew).drew; exact h) ⟨w.heap.size, 0, none⟩ 1 1 [.int .i64 ck, .int .i64 cv, .int .i64 ce, .int .i64 cp, .int .i64 cn, .int .i64 c0, .int .i64 c1, .int .i64 c2] rfl rfl (World.news_of_block (heap_alloc_new w (.cells #[.int .i64 ck, .int .i64 cv, .int .i64 ce, .int .i64 cp, .int .i64 cn, .int .i64 c0, .int .i64 c1, .int .i64 c2] 32))) (by simp [Value.oneCell']) (by omega) (by unfold maxLen; omega) (by omega) (by simp; omega) _ rfl ?_; intro g cg w2 hown2 hgrow hat hlt2; have HP := Lib.hid (Pst.grown (F := fun k => k = bp ∨ (Value.slice aA lb.length cA).ownBlock = some k) (((((((((Pst.refl H.out.blk).alloc (.cells #[.int .i64 ck, .int .i64 cv, .int .i64 ce, .int .i64 cp, .int .i64 cn, .int .i64 c0, .int .i64 c1, .int .i64 c2] 32)).drew).drew).drew).drew).drew).drew)) hgrow (fun k e => .inr e) H.out.na); have kx : w2.cell? ⟨bp, 1, none⟩ = some (.slice aA lb.length cA) := (grown_cell hgrow (by simp; omega) H.out.na).trans (by go_simp); have ks : w2.cell? ⟨bp, 6, none⟩ = some (.int .i64 st) := (grown_cell hgrow (by simp; omega) H.out.na).trans (by go_simp); have kfx : ∀ o, w2.frozen? ⟨bp, o, none⟩ = false := (fun o => (grown_frozen hgrow (by simp; omega) H.out.na).trans (by go_simp)); have HO2 := Lib.hid hown2; have HAT := Lib.hid hat; clear hown2 hgrow hat; go_wp2)
      refine stepE0 rfl rfl (fun K hK => ?_)
      go_simp
      refine hK _ ?_
      clear hK K
      refine stepE0 rfl rfl (fun K hK => ?_)
      go_simp
      refine hK _ ?_
      clear hK K
      refine stepE1 rfl rfl (by kernel_rfl) (fun K hK => ?_)
      go_wp2
      try refine stepEnil0 ?_
      clear HSD SS
      have HPS := Lib.hid (HP.out.setCell (i := 1) (v := .slice (some ⟨g, 0, none⟩) (lb.length + 1) cg) (.inl rfl))
      have HKK := Lib.hid ((Keeps.refl (fun k => k = bp) w2).setCell ⟨bp, 1, none⟩ (.slice (some ⟨g, 0, none⟩) (lb.length + 1) cg) (fun _ => rfl))
      have HAT' : Hid ((Value.slice aA lb.length cA).ownBlock = some g ∨ w.heap.size ≤ g) := by
        rcases HAT.out with h | h
        · exact .inl h
        · exact .inr (by simp at h; omega)
      clear HP
      go_wp2_with fail
      refine Calls.mono (settle_any bp st _ _ ?_ ?_) ?_
      · go_simp
      · go_simp
      rintro e w3 ⟨rfl, rfl⟩
      go_wp2_with fail
      go_ret
      refine ⟨by rw [HE.out]; rfl, ?_⟩
      rw [shipP, HE.out, if_pos rfl]
      simp only [HC.out]
      refine PairTo.of_a (w1 := w2) H.out (Pst.cast (HPS.out.setCell (i := 6) (.inl rfl)) ?_) (ownsRow_cast HO2.out ?_ ?_) (HKK.out.setCell _ _ (fun _ => rfl)) HAT'.out rfl
      · simp [Pr.cells, Pr.a, Pr.b, Pr.ld]
      · simp [Pr.a, Pr.b]
      · simp [Pr.a, Pr.b, Cmd.row]
  · have e1 : shipK ⟨⟨true, la⟩, ⟨true, lb⟩, true, tm, st⟩ t = 13 := by simp [shipK, ht]
    have HE := Lib.hid e1
    have htb : (t != tm) = true := by rw [bne_iff_ne]; exact ht
    clear e1 ht
    go_enter Try.func32, Try.ntmps32
    go_wp2_with fail
    refine Calls.mono (leader_1 bp _ ?_) ?_
    · go_simp
    rintro e w1 ⟨rfl, rfl⟩
    go_wp2_with fail
    refine Calls.mono (follower_1 bp _ ?_) ?_
    · go_simp
    rintro e w1 ⟨rfl, rfl⟩
    go_wp2_with fail
    go_ret
    refine ⟨by rw [HE.out]; exact congrArg _ errV_13.symm, ?_⟩
    rw [shipP, HE.out, if_neg (by omega)]
    exact PairTo.same H.out (by repeat (first | (with_reducible exact Below.refl _ _) | (with_reducible refine Below.setCell ?_ ?_ _) | (with_reducible refine Below.alloc ?_ ?_ _) | (with_reducible refine Below.drewN ?_ _) | (with_reducible refine Below.drew ?_) | (with_reducible exact Nat.le_refl _) | (focus (simp only [World.size_alloc, World.size_setCell, World.size_drew, World.size_drewN]; omega)) | omega | exact Nat.le_refl _ | (focus (simp; done)) | (focus (simp; omega))))
end Go.Proofs.Ytigkcbnlbdiimaa

/- Package twin: Fall. (Written by wip/gentwin.py.) -/
namespace Go.Proofs.Ytigkcbnlbdiimaa
open Go.RowKit
set_option maxRecDepth 100000 in
set_option maxHeartbeats 4000000 in
theorem fall_lead_false (base bp : Nat) (va vb : Value) (ua ub : Bool) (la lb : List Cmd) (tm st : Int) (w : World) (h : PairAt w base bp va vb ⟨⟨ua, la⟩, ⟨ub, lb⟩, false, tm, st⟩) (hN : la.length ≤ 100000) (hN2 : lb.length ≤ 100000) (ht0 : 0 ≤ tm) (ht1 : tm ≤ 1000000) :
    Calls Try.prog 33 #[.pointer (some ⟨bp, 0, none⟩), .int .i64 0] w
      fun e w' => e = .returned (errV (fallK ⟨⟨ua, la⟩, ⟨ub, lb⟩, false, tm, st⟩ false)) ∧ PairTo w base bp va vb (fallP ⟨⟨ua, la⟩, ⟨ub, lb⟩, false, tm, st⟩ false) w' := by
  have H := Lib.hid h
  have hlt := h.lt
  obtain ⟨k0, k1, k2, k3, k4, k5, k6, kf⟩ := h.cell
  simp only [Pr.a, Pr.b, Pr.ld, if_true, if_false, Bool.false_eq_true] at k0 k1 k2 k3 k4 k5 k6
  obtain ⟨aA, cA, rfl⟩ := ownsRow_len h.ra
  obtain ⟨aB, cB, rfl⟩ := ownsRow_len h.rb
  simp only [Pr.a, Pr.b, if_true, if_false, Bool.false_eq_true] at k1 k3
  clear h
  have hw1 : IntKind.i64.wrap 1 = 1 := IntWalk.i64_in _ (by omega)
  have hw0 : IntKind.i64.wrap 0 = 0 := IntWalk.i64_in _ (by omega)
  cases ua
  · go_enter Try.func33, Try.ntmps33
    go_wp2_with fail
    refine (right_ok bp false _).mono ?_
    rintro e w1 ⟨rfl, rfl⟩
    go_wp2_with fail
    go_ret
    refine ⟨by simp [fallK]; exact errV_12.symm, ?_⟩
    simp only [fallP, if_true, if_false, Bool.false_eq_true]
    exact PairTo.same H.out (by repeat (first | (with_reducible exact Below.refl _ _) | (with_reducible refine Below.setCell ?_ ?_ _) | (with_reducible refine Below.alloc ?_ ?_ _) | (with_reducible refine Below.drewN ?_ _) | (with_reducible refine Below.drew ?_) | (with_reducible exact Nat.le_refl _) | (focus (simp only [World.size_alloc, World.size_setCell, World.size_drew, World.size_drewN]; omega)) | omega | exact Nat.le_refl _ | (focus (simp; done)) | (focus (simp; omega))))
  cases ub
  · go_enter Try.func33, Try.ntmps33
    go_wp2_with fail
    refine (right_ok bp false _).mono ?_
    rintro e w1 ⟨rfl, rfl⟩
    go_wp2_with fail
    refine Calls.mono (follower_0 bp _ ?_) ?_
    · go_simp
    rintro e w1 ⟨rfl, rfl⟩
    go_wp2_with fail
    refine Calls.mono (leader_0 bp _ ?_) ?_
    · go_simp
    rintro e w1 ⟨rfl, rfl⟩
    go_wp2_with fail
    go_ret
    refine ⟨by simp [fallK, errV], ?_⟩
    simp only [fallP, if_true, if_false, Bool.false_eq_true]
    refine PairTo.of_pst H.out (Pst.cast ((((Pst.refl (F := fun k => k = bp) H.out.blk).setCell (i := 0) (v := .bool false) rfl).drew).drew) ?_) rfl rfl
    simp [Pr.cells, Pr.a, Pr.b, Pr.ld]
  · go_enter Try.func33, Try.ntmps33
    go_wp2_with fail
    refine (right_ok bp false _).mono ?_
    rintro e w1 ⟨rfl, rfl⟩
    go_wp2_with fail
    refine Calls.mono (follower_0 bp _ ?_) ?_
    · go_simp
    rintro e w1 ⟨rfl, rfl⟩
    go_wp2_with fail
    refine Calls.mono (leader_1 bp _ ?_) ?_
    · go_simp
    rintro e w1 ⟨rfl, rfl⟩
    go_wp2_with fail
    refine Calls.mono (leader_1 bp _ ?_) ?_
    · go_simp
    rintro e w1 ⟨rfl, rfl⟩
    go_wp2_with fail
    refine Calls.mono (settle_any bp st _ _ ?_ ?_) ?_
    · go_simp
    · go_simp
    rintro e w3 ⟨rfl, rfl⟩
    go_wp2_with fail
    go_ret
    refine ⟨by simp [fallK, errV], ?_⟩
    simp only [fallP, if_true, if_false, Bool.false_eq_true]
    refine PairTo.of_pst H.out (Pst.cast (((((((Pst.refl (F := fun k => k = bp) H.out.blk).setCell (i := 0) (v := .bool false) rfl).setCell (i := 4) (v := .int .i64 1) rfl).setCell (i := 5) (v := .int .i64 (tm + 1)) rfl).setCell (i := 6) (v := .int .i64 (max st lb.length)) rfl).drew).drew.drew) ?_) rfl rfl
    simp [Pr.cells, Pr.a, Pr.b, Pr.ld]
set_option maxRecDepth 100000 in
set_option maxHeartbeats 4000000 in
theorem fall_other_false (base bp : Nat) (va vb : Value) (ua ub : Bool) (la lb : List Cmd) (tm st : Int) (w : World) (h : PairAt w base bp va vb ⟨⟨ua, la⟩, ⟨ub, lb⟩, false, tm, st⟩) (hN : la.length ≤ 100000) (ht0 : 0 ≤ tm) (ht1 : tm ≤ 1000000) :
    Calls Try.prog 33 #[.pointer (some ⟨bp, 0, none⟩), .int .i64 1] w
      fun e w' => e = .returned (errV (fallK ⟨⟨ua, la⟩, ⟨ub, lb⟩, false, tm, st⟩ (!false))) ∧ PairTo w base bp va vb (fallP ⟨⟨ua, la⟩, ⟨ub, lb⟩, false, tm, st⟩ (!false)) w' := by
  have H := Lib.hid h
  have hlt := h.lt
  obtain ⟨k0, k1, k2, k3, k4, k5, k6, kf⟩ := h.cell
  simp only [Pr.a, Pr.b, Pr.ld, if_true, if_false, Bool.false_eq_true] at k0 k1 k2 k3 k4 k5 k6
  obtain ⟨aA, cA, rfl⟩ := ownsRow_len h.ra
  obtain ⟨aB, cB, rfl⟩ := ownsRow_len h.rb
  simp only [Pr.a, Pr.b, if_true, if_false, Bool.false_eq_true] at k1 k3
  clear h
  have hw1 : IntKind.i64.wrap 1 = 1 := IntWalk.i64_in _ (by omega)
  have hw0 : IntKind.i64.wrap 0 = 0 := IntWalk.i64_in _ (by omega)
  cases ub
  · go_enter Try.func33, Try.ntmps33
    go_wp2_with fail
    refine (right_ok bp (!false) _).mono ?_
    rintro e w1 ⟨rfl, rfl⟩
    go_wp2_with fail
    go_ret
    refine ⟨by simp [fallK]; exact errV_12.symm, ?_⟩
    have e1 : fallP ⟨⟨ua, la⟩, ⟨false, lb⟩, false, tm, st⟩ (!false) = ⟨⟨ua, la⟩, ⟨false, lb⟩, false, tm, st⟩ := by simp [fallP]
    rw [e1]
    exact PairTo.same H.out (by repeat (first | (with_reducible exact Below.refl _ _) | (with_reducible refine Below.setCell ?_ ?_ _) | (with_reducible refine Below.alloc ?_ ?_ _) | (with_reducible refine Below.drewN ?_ _) | (with_reducible refine Below.drew ?_) | (with_reducible exact Nat.le_refl _) | (focus (simp only [World.size_alloc, World.size_setCell, World.size_drew, World.size_drewN]; omega)) | omega | exact Nat.le_refl _ | (focus (simp; done)) | (focus (simp; omega))))
  cases ua
  · go_enter Try.func33, Try.ntmps33
    go_wp2_with fail
    refine (right_ok bp (!false) _).mono ?_
    rintro e w1 ⟨rfl, rfl⟩
    go_wp2_with fail
    refine Calls.mono (leader_0 bp _ ?_) ?_
    · go_simp
    rintro e w1 ⟨rfl, rfl⟩
    go_wp2_with fail
    go_ret
    refine ⟨by simp [fallK, errV], ?_⟩
    have e1 : fallP ⟨⟨false, la⟩, ⟨true, lb⟩, false, tm, st⟩ (!false) = ⟨⟨false, la⟩, ⟨false, lb⟩, false, tm, st⟩ := by simp [fallP]
    rw [e1]
    refine PairTo.of_pst H.out (Pst.cast (((Pst.refl (F := fun k => k = bp) H.out.blk).setCell (i := 2) (v := .bool false) rfl).drew) ?_) rfl rfl
    simp [Pr.cells, Pr.a, Pr.b, Pr.ld]
  · go_enter Try.func33, Try.ntmps33
    go_wp2_with fail
    refine (right_ok bp (!false) _).mono ?_
    rintro e w1 ⟨rfl, rfl⟩
    go_wp2_with fail
    refine Calls.mono (leader_0 bp _ ?_) ?_
    · go_simp
    rintro e w1 ⟨rfl, rfl⟩
    go_wp2_with fail
    refine Calls.mono (leader_0 bp _ ?_) ?_
    · go_simp
    rintro e w1 ⟨rfl, rfl⟩
    go_wp2_with fail
    refine Calls.mono (settle_any bp st _ _ ?_ ?_) ?_
    · go_simp
    · go_simp
    rintro e w3 ⟨rfl, rfl⟩
    go_wp2_with fail
    go_ret
    refine ⟨by simp [fallK, errV], ?_⟩
    have e1 : fallP ⟨⟨true, la⟩, ⟨true, lb⟩, false, tm, st⟩ (!false) = ⟨⟨true, la⟩, ⟨false, lb⟩, false, tm, max st la.length⟩ := by simp [fallP]
    rw [e1]
    refine PairTo.of_pst H.out (Pst.cast ((((Pst.refl (F := fun k => k = bp) H.out.blk).setCell (i := 2) (v := .bool false) rfl).setCell (i := 6) (v := .int .i64 (max st la.length)) rfl).drew.drew) ?_) rfl rfl
    simp [Pr.cells, Pr.a, Pr.b, Pr.ld]
set_option maxRecDepth 100000 in
set_option maxHeartbeats 4000000 in
theorem fall_lead_true (base bp : Nat) (va vb : Value) (ua ub : Bool) (la lb : List Cmd) (tm st : Int) (w : World) (h : PairAt w base bp va vb ⟨⟨ua, la⟩, ⟨ub, lb⟩, true, tm, st⟩) (hN : la.length ≤ 100000) (hN2 : lb.length ≤ 100000) (ht0 : 0 ≤ tm) (ht1 : tm ≤ 1000000) :
    Calls Try.prog 33 #[.pointer (some ⟨bp, 0, none⟩), .int .i64 1] w
      fun e w' => e = .returned (errV (fallK ⟨⟨ua, la⟩, ⟨ub, lb⟩, true, tm, st⟩ true)) ∧ PairTo w base bp va vb (fallP ⟨⟨ua, la⟩, ⟨ub, lb⟩, true, tm, st⟩ true) w' := by
  have H := Lib.hid h
  have hlt := h.lt
  obtain ⟨k0, k1, k2, k3, k4, k5, k6, kf⟩ := h.cell
  simp only [Pr.a, Pr.b, Pr.ld, if_true, if_false, Bool.false_eq_true] at k0 k1 k2 k3 k4 k5 k6
  obtain ⟨aA, cA, rfl⟩ := ownsRow_len h.ra
  obtain ⟨aB, cB, rfl⟩ := ownsRow_len h.rb
  simp only [Pr.a, Pr.b, if_true, if_false, Bool.false_eq_true] at k1 k3
  clear h
  have hw1 : IntKind.i64.wrap 1 = 1 := IntWalk.i64_in _ (by omega)
  have hw0 : IntKind.i64.wrap 0 = 0 := IntWalk.i64_in _ (by omega)
  cases ua
  · go_enter Try.func33, Try.ntmps33
    go_wp2_with fail
    refine (right_ok bp true _).mono ?_
    rintro e w1 ⟨rfl, rfl⟩
    go_wp2_with fail
    go_ret
    refine ⟨by simp [fallK]; exact errV_12.symm, ?_⟩
    simp only [fallP, if_true, if_false, Bool.false_eq_true]
    exact PairTo.same H.out (by repeat (first | (with_reducible exact Below.refl _ _) | (with_reducible refine Below.setCell ?_ ?_ _) | (with_reducible refine Below.alloc ?_ ?_ _) | (with_reducible refine Below.drewN ?_ _) | (with_reducible refine Below.drew ?_) | (with_reducible exact Nat.le_refl _) | (focus (simp only [World.size_alloc, World.size_setCell, World.size_drew, World.size_drewN]; omega)) | omega | exact Nat.le_refl _ | (focus (simp; done)) | (focus (simp; omega))))
  cases ub
  · go_enter Try.func33, Try.ntmps33
    go_wp2_with fail
    refine (right_ok bp true _).mono ?_
    rintro e w1 ⟨rfl, rfl⟩
    go_wp2_with fail
    refine Calls.mono (follower_1 bp _ ?_) ?_
    · go_simp
    rintro e w1 ⟨rfl, rfl⟩
    go_wp2_with fail
    refine Calls.mono (leader_1 bp _ ?_) ?_
    · go_simp
    rintro e w1 ⟨rfl, rfl⟩
    go_wp2_with fail
    go_ret
    refine ⟨by simp [fallK, errV], ?_⟩
    simp only [fallP, if_true, if_false, Bool.false_eq_true]
    refine PairTo.of_pst H.out (Pst.cast ((((Pst.refl (F := fun k => k = bp) H.out.blk).setCell (i := 2) (v := .bool false) rfl).drew).drew) ?_) rfl rfl
    simp [Pr.cells, Pr.a, Pr.b, Pr.ld]
  · go_enter Try.func33, Try.ntmps33
    go_wp2_with fail
    refine (right_ok bp true _).mono ?_
    rintro e w1 ⟨rfl, rfl⟩
    go_wp2_with fail
    refine Calls.mono (follower_1 bp _ ?_) ?_
    · go_simp
    rintro e w1 ⟨rfl, rfl⟩
    go_wp2_with fail
    refine Calls.mono (leader_0 bp _ ?_) ?_
    · go_simp
    rintro e w1 ⟨rfl, rfl⟩
    go_wp2_with fail
    refine Calls.mono (leader_0 bp _ ?_) ?_
    · go_simp
    rintro e w1 ⟨rfl, rfl⟩
    go_wp2_with fail
    refine Calls.mono (settle_any bp st _ _ ?_ ?_) ?_
    · go_simp
    · go_simp
    rintro e w3 ⟨rfl, rfl⟩
    go_wp2_with fail
    go_ret
    refine ⟨by simp [fallK, errV], ?_⟩
    simp only [fallP, if_true, if_false, Bool.false_eq_true]
    refine PairTo.of_pst H.out (Pst.cast (((((((Pst.refl (F := fun k => k = bp) H.out.blk).setCell (i := 2) (v := .bool false) rfl).setCell (i := 4) (v := .int .i64 0) rfl).setCell (i := 5) (v := .int .i64 (tm + 1)) rfl).setCell (i := 6) (v := .int .i64 (max st lb.length)) rfl).drew).drew.drew) ?_) rfl rfl
    simp [Pr.cells, Pr.a, Pr.b, Pr.ld]
set_option maxRecDepth 100000 in
set_option maxHeartbeats 4000000 in
theorem fall_other_true (base bp : Nat) (va vb : Value) (ua ub : Bool) (la lb : List Cmd) (tm st : Int) (w : World) (h : PairAt w base bp va vb ⟨⟨ua, la⟩, ⟨ub, lb⟩, true, tm, st⟩) (hN : la.length ≤ 100000) (ht0 : 0 ≤ tm) (ht1 : tm ≤ 1000000) :
    Calls Try.prog 33 #[.pointer (some ⟨bp, 0, none⟩), .int .i64 0] w
      fun e w' => e = .returned (errV (fallK ⟨⟨ua, la⟩, ⟨ub, lb⟩, true, tm, st⟩ (!true))) ∧ PairTo w base bp va vb (fallP ⟨⟨ua, la⟩, ⟨ub, lb⟩, true, tm, st⟩ (!true)) w' := by
  have H := Lib.hid h
  have hlt := h.lt
  obtain ⟨k0, k1, k2, k3, k4, k5, k6, kf⟩ := h.cell
  simp only [Pr.a, Pr.b, Pr.ld, if_true, if_false, Bool.false_eq_true] at k0 k1 k2 k3 k4 k5 k6
  obtain ⟨aA, cA, rfl⟩ := ownsRow_len h.ra
  obtain ⟨aB, cB, rfl⟩ := ownsRow_len h.rb
  simp only [Pr.a, Pr.b, if_true, if_false, Bool.false_eq_true] at k1 k3
  clear h
  have hw1 : IntKind.i64.wrap 1 = 1 := IntWalk.i64_in _ (by omega)
  have hw0 : IntKind.i64.wrap 0 = 0 := IntWalk.i64_in _ (by omega)
  cases ub
  · go_enter Try.func33, Try.ntmps33
    go_wp2_with fail
    refine (right_ok bp (!true) _).mono ?_
    rintro e w1 ⟨rfl, rfl⟩
    go_wp2_with fail
    go_ret
    refine ⟨by simp [fallK]; exact errV_12.symm, ?_⟩
    have e1 : fallP ⟨⟨ua, la⟩, ⟨false, lb⟩, true, tm, st⟩ (!true) = ⟨⟨ua, la⟩, ⟨false, lb⟩, true, tm, st⟩ := by simp [fallP]
    rw [e1]
    exact PairTo.same H.out (by repeat (first | (with_reducible exact Below.refl _ _) | (with_reducible refine Below.setCell ?_ ?_ _) | (with_reducible refine Below.alloc ?_ ?_ _) | (with_reducible refine Below.drewN ?_ _) | (with_reducible refine Below.drew ?_) | (with_reducible exact Nat.le_refl _) | (focus (simp only [World.size_alloc, World.size_setCell, World.size_drew, World.size_drewN]; omega)) | omega | exact Nat.le_refl _ | (focus (simp; done)) | (focus (simp; omega))))
  cases ua
  · go_enter Try.func33, Try.ntmps33
    go_wp2_with fail
    refine (right_ok bp (!true) _).mono ?_
    rintro e w1 ⟨rfl, rfl⟩
    go_wp2_with fail
    refine Calls.mono (leader_1 bp _ ?_) ?_
    · go_simp
    rintro e w1 ⟨rfl, rfl⟩
    go_wp2_with fail
    go_ret
    refine ⟨by simp [fallK, errV], ?_⟩
    have e1 : fallP ⟨⟨false, la⟩, ⟨true, lb⟩, true, tm, st⟩ (!true) = ⟨⟨false, la⟩, ⟨false, lb⟩, true, tm, st⟩ := by simp [fallP]
    rw [e1]
    refine PairTo.of_pst H.out (Pst.cast (((Pst.refl (F := fun k => k = bp) H.out.blk).setCell (i := 0) (v := .bool false) rfl).drew) ?_) rfl rfl
    simp [Pr.cells, Pr.a, Pr.b, Pr.ld]
  · go_enter Try.func33, Try.ntmps33
    go_wp2_with fail
    refine (right_ok bp (!true) _).mono ?_
    rintro e w1 ⟨rfl, rfl⟩
    go_wp2_with fail
    refine Calls.mono (leader_1 bp _ ?_) ?_
    · go_simp
    rintro e w1 ⟨rfl, rfl⟩
    go_wp2_with fail
    refine Calls.mono (leader_1 bp _ ?_) ?_
    · go_simp
    rintro e w1 ⟨rfl, rfl⟩
    go_wp2_with fail
    refine Calls.mono (settle_any bp st _ _ ?_ ?_) ?_
    · go_simp
    · go_simp
    rintro e w3 ⟨rfl, rfl⟩
    go_wp2_with fail
    go_ret
    refine ⟨by simp [fallK, errV], ?_⟩
    have e1 : fallP ⟨⟨true, la⟩, ⟨true, lb⟩, true, tm, st⟩ (!true) = ⟨⟨true, la⟩, ⟨false, lb⟩, true, tm, max st la.length⟩ := by simp [fallP]
    rw [e1]
    refine PairTo.of_pst H.out (Pst.cast ((((Pst.refl (F := fun k => k = bp) H.out.blk).setCell (i := 0) (v := .bool false) rfl).setCell (i := 6) (v := .int .i64 (max st la.length)) rfl).drew.drew) ?_) rfl rfl
    simp [Pr.cells, Pr.a, Pr.b, Pr.ld]
end Go.Proofs.Ytigkcbnlbdiimaa

/- Package twin: Rise. (Written by wip/gentwin.py.) -/
namespace Go.Proofs.Ytigkcbnlbdiimaa
open Go.RowKit
/-- slices.Clone at []corncrib/dirs.Cmd,corncrib/dirs.Cmd. -/
theorem clone_info_Cmd : (Try.prog.info? 32).map (fun i => (i.zero, i.size, i.bytes)) = some (some (.agg #[.int .i64 0, .int .i64 0, .int .i64 0, .int .i64 0, .int .i64 0, .int .i64 0, .int .i64 0, .int .i64 0]), 8, 64) := by kernel_rfl
set_option maxRecDepth 100000 in
set_option maxHeartbeats 1000000 in
theorem clone_Cmd (v : Value) (n : Nat) (xs : List Value) (w : World) (h : Reads w 8 v n xs) (h1 : ∀ u ∈ xs, u.oneCell' = true) (hb : n * 64 ≤ 140737488355328) :
    Calls Try.prog 65 #[v] w (CloneOut w 32 8 v n xs) := by
  obtain ⟨i0, hi, hz0, hz1, hz2⟩ := info_parts clone_info_Cmd
  obtain ⟨hlen, ⟨rfl, rfl⟩ | ⟨a, c, rfl, hm, hcell⟩⟩ := h
  · have hx : xs = [] := List.eq_nil_of_length_eq_zero (by simpa using hlen)
    subst hx
    clear hi hz0 hz1 hz2 hlen h1 hb
    have hne := fun (wx : World) => Lib.run_eql_slice_nil (P := Try.prog) wx 46 32 none 0 0 0 0 Try.underlying46
    go_enter Try.func65, Try.ntmps65
    go_wp2
    go_ret
    exact ⟨_, rfl, World.ownsRow_nil _ _ _ _, Iff.rfl, Below.refl _ _⟩
  · have hne := fun (wx : World) => Lib.run_eql_slice_nil (P := Try.prog) wx 46 32 (some a) n c 0 0 Try.underlying46
    have HI := Lib.hid hi
    have HZ0 := Lib.hid hz0
    have HZ1 := Lib.hid hz1
    have HZ2 := Lib.hid hz2
    have HL := Lib.hid hlen
    have HC := Lib.hid hcell
    have H1 := Lib.hid h1
    clear hi hz0 hz1 hz2 hlen hcell h1
    go_enter Try.func65, Try.ntmps65
    go_wp2_with (at_builtin; refine wpList_append_own _ rfl _ _ 46 rfl w.heap.size 32 i0 (.agg #[.int .i64 0, .int .i64 0, .int .i64 0, .int .i64 0, .int .i64 0, .int .i64 0, .int .i64 0, .int .i64 0]) 8 64 Try.underlying46 HI.out HZ0.out HZ1.out HZ2.out rfl (by decide) (.slice (some ⟨w.heap.size, 0, none⟩) 0 0) 0 [] rfl (World.ownsRow_lit w #[] 0 (Nat.le_refl _) (by unfold maxLen; omega) rfl) a n c xs rfl HL.out (fun j u hu => cell_later ((Below.refl _ _).alloc (Nat.le_refl _) _) (HC.out j u hu)) H1.out (by omega) (by omega) (by simp) ?_; intro v' w1 hown' hgrow hnil)
    go_ret
    exact ⟨_, rfl, by simpa using hown', by simpa using hnil, (((Below.refl _ _).alloc (Nat.le_refl _) _).grown hgrow (by simp) (by simp [Value.ownBlock]))⟩
theorem Cmd.one (cs : List Cmd) : ∀ u ∈ cs.flatMap Cmd.row, u.oneCell' = true := by
  intro u hu
  obtain ⟨x, _, hx⟩ := List.mem_flatMap.1 hu
  simp only [Cmd.row, List.mem_cons, List.not_mem_nil, or_false] at hx
  rcases hx with rfl | rfl | rfl | rfl | rfl | rfl | rfl | rfl <;> rfl
theorem PairTo.new_b {w w1 w' : World} {base bp : Nat} {va vb v' : Value} {p p' : Pr} (h : PairAt w base bp va vb p) (hp : Pst (fun k => k = bp) w w' bp (p'.cells va v'))
    (hr : w1.ownsRow w.heap.size 32 8 v' p'.b.log.length (p'.b.log.flatMap Cmd.row)) (hk : Keeps (fun k => k = bp) w1 w') (hb : p'.a.log = p.a.log) : PairTo w base bp va vb p' w' := by
  have hlt := h.lt
  have hlow := h.low
  have hgb : ∀ g, v'.ownBlock = some g → w.heap.size ≤ g := fun g hg => (hr.lt g hg).1
  have hr' := ownsRow_mono (ownsRow_keeps hr hk (fun k e e' => by have := hgb k e; omega)) (show base ≤ w.heap.size by omega)
  have ho : w'.ownsRow base 32 8 va p'.a.log.length (p'.a.log.flatMap Cmd.row) := by
    rw [hb]
    exact ownsRow_keeps h.ra hp.keep (fun k e e' => h.na (by rw [e, e']))
  refine ⟨va, v', ⟨hp.blk, ho, hr', h.low, h.na, fun e => by have := hgb _ e; omega, ?_⟩, ?_, hp.keep.mono (fun k _ e => .inl e)⟩
  · intro g e e'
    have h1 := hgb g e'
    have h2 := (h.ra.lt g e).2
    omega
  · intro k hk
    rcases hk with e | e | e
    · exact .inl (.inl e)
    · exact .inl (.inr (.inl e))
    · exact .inr (hgb k e)
set_option maxRecDepth 100000 in
set_option maxHeartbeats 4000000 in
theorem rise_lead_false (base bp : Nat) (va vb : Value) (ua ub : Bool) (la lb : List Cmd) (tm st : Int) (w : World) (h : PairAt w base bp va vb ⟨⟨ua, la⟩, ⟨ub, lb⟩, false, tm, st⟩) (hN : la.length ≤ 100000) (hup : ua = false → ub = false) (ht0 : 0 ≤ tm) (ht1 : tm ≤ 1000000) :
    Calls Try.prog 34 #[.pointer (some ⟨bp, 0, none⟩), .int .i64 0] w
      fun e w' => e = .returned (errV (riseK ⟨⟨ua, la⟩, ⟨ub, lb⟩, false, tm, st⟩ false)) ∧ PairTo w base bp va vb (riseP ⟨⟨ua, la⟩, ⟨ub, lb⟩, false, tm, st⟩ false) w' := by
  have H := Lib.hid h
  have hlt := h.lt
  obtain ⟨k0, k1, k2, k3, k4, k5, k6, kf⟩ := h.cell
  simp only [Pr.a, Pr.b, Pr.ld, if_true, if_false, Bool.false_eq_true] at k0 k1 k2 k3 k4 k5 k6
  obtain ⟨aA, cA, rfl⟩ := ownsRow_len h.ra
  obtain ⟨aB, cB, rfl⟩ := ownsRow_len h.rb
  simp only [Pr.a, Pr.b, if_true, if_false, Bool.false_eq_true] at k1 k3
  clear h
  have hw1 : IntKind.i64.wrap 1 = 1 := IntWalk.i64_in _ (by omega)
  have hw0 : IntKind.i64.wrap 0 = 0 := IntWalk.i64_in _ (by omega)
  cases ua
  · have hub := hup rfl
    subst hub
    clear hup
    go_enter Try.func34, Try.ntmps34
    go_wp2_with fail
    refine (right_ok bp false _).mono ?_
    rintro e w1 ⟨rfl, rfl⟩
    go_wp2_with fail
    refine Calls.mono (settle_any bp st _ _ ?_ ?_) ?_
    · go_simp
    · go_simp
    rintro e w3 ⟨rfl, rfl⟩
    go_wp2_with fail
    go_ret
    refine ⟨by simp [riseK, errV], ?_⟩
    have e1 : riseP ⟨⟨false, la⟩, ⟨false, lb⟩, false, tm, st⟩ false = ⟨⟨true, la⟩, ⟨false, lb⟩, false, tm + 1, max st la.length⟩ := by simp [riseP]
    rw [e1]
    refine PairTo.of_pst H.out (Pst.cast ((((Pst.refl (F := fun k => k = bp) H.out.blk).setCell (i := 0) (v := .bool true) rfl).setCell (i := 5) (v := .int .i64 (tm + 1)) rfl).setCell (i := 6) (v := .int .i64 (max st la.length)) rfl) ?_) rfl rfl
    simp [Pr.cells, Pr.a, Pr.b, Pr.ld]
  · clear hup
    go_enter Try.func34, Try.ntmps34
    go_wp2_with fail
    refine (right_ok bp false _).mono ?_
    rintro e w1 ⟨rfl, rfl⟩
    go_wp2_with fail
    go_ret
    refine ⟨by simp [riseK]; exact errV_14.symm, ?_⟩
    have e1 : riseP ⟨⟨true, la⟩, ⟨ub, lb⟩, false, tm, st⟩ false = ⟨⟨true, la⟩, ⟨ub, lb⟩, false, tm, st⟩ := by simp [riseP]
    rw [e1]
    exact PairTo.same H.out (by repeat (first | (with_reducible exact Below.refl _ _) | (with_reducible refine Below.setCell ?_ ?_ _) | (with_reducible refine Below.alloc ?_ ?_ _) | (with_reducible refine Below.drewN ?_ _) | (with_reducible refine Below.drew ?_) | (with_reducible exact Nat.le_refl _) | (focus (simp only [World.size_alloc, World.size_setCell, World.size_drew, World.size_drewN]; omega)) | omega | exact Nat.le_refl _ | (focus (simp; done)) | (focus (simp; omega))))
set_option maxRecDepth 100000 in
set_option maxHeartbeats 4000000 in
theorem rise_other_false (base bp : Nat) (va vb : Value) (ua ub : Bool) (la lb : List Cmd) (tm st : Int) (w : World) (h : PairAt w base bp va vb ⟨⟨ua, la⟩, ⟨ub, lb⟩, false, tm, st⟩) (hN : la.length ≤ 100000) :
    Calls Try.prog 34 #[.pointer (some ⟨bp, 0, none⟩), .int .i64 1] w
      fun e w' => e = .returned (errV (riseK ⟨⟨ua, la⟩, ⟨ub, lb⟩, false, tm, st⟩ (!false))) ∧ PairTo w base bp va vb (riseP ⟨⟨ua, la⟩, ⟨ub, lb⟩, false, tm, st⟩ (!false)) w' := by
  have H := Lib.hid h
  have hlt := h.lt
  obtain ⟨k0, k1, k2, k3, k4, k5, k6, kf⟩ := h.cell
  simp only [Pr.a, Pr.b, Pr.ld, if_true, if_false, Bool.false_eq_true] at k0 k1 k2 k3 k4 k5 k6
  obtain ⟨aA, cA, rfl⟩ := ownsRow_len h.ra
  obtain ⟨aB, cB, rfl⟩ := ownsRow_len h.rb
  simp only [Pr.a, Pr.b, if_true, if_false, Bool.false_eq_true] at k1 k3
  clear h
  have hw1 : IntKind.i64.wrap 1 = 1 := IntWalk.i64_in _ (by omega)
  have hw0 : IntKind.i64.wrap 0 = 0 := IntWalk.i64_in _ (by omega)
  cases ub
  · cases ua
    · go_enter Try.func34, Try.ntmps34
      go_wp2_with fail
      refine (right_ok bp (!false) _).mono ?_
      rintro e w1 ⟨rfl, rfl⟩
      go_wp2_with fail
      go_ret
      refine ⟨by simp [riseK]; exact errV_12.symm, ?_⟩
      have e1 : riseP ⟨⟨false, la⟩, ⟨false, lb⟩, false, tm, st⟩ (!false) = ⟨⟨false, la⟩, ⟨false, lb⟩, false, tm, st⟩ := by simp [riseP]
      rw [e1]
      exact PairTo.same H.out (by repeat (first | (with_reducible exact Below.refl _ _) | (with_reducible refine Below.setCell ?_ ?_ _) | (with_reducible refine Below.alloc ?_ ?_ _) | (with_reducible refine Below.drewN ?_ _) | (with_reducible refine Below.drew ?_) | (with_reducible exact Nat.le_refl _) | (focus (simp only [World.size_alloc, World.size_setCell, World.size_drew, World.size_drewN]; omega)) | omega | exact Nat.le_refl _ | (focus (simp; done)) | (focus (simp; omega))))
    · have HRL := Lib.hid (show w.ownsRow base 32 8 (.slice aA la.length cA) la.length (la.flatMap Cmd.row) from H.out.ra)
      go_enter Try.func34, Try.ntmps34
      go_wp2_with fail
      refine (right_ok bp (!false) _).mono ?_
      rintro e w1 ⟨rfl, rfl⟩
      go_wp2_with fail
      obtain ⟨SS, HSD⟩ : ∃ SS : World → Prop, Hid (SS = fun w' => w'.cell? ⟨bp, 1, none⟩ = some (.slice aA la.length cA)) := ⟨_, Lib.hid rfl⟩
      refine wp_region_order0 SS [6] [(0, 0), (1, 0), (2, 0), (9, 0), (10, 0), (3, 1), (4, 0), (5, 0), (6, 2), (7, 1), (8, 0), (11, 0), (12, 1)] (by kernel_rfl) (by kernel_rfl) rfl (by kernel_rfl) ?_ ?_
      focus (rw [HSD.out]; go_simp)
      refine stepE0 rfl rfl (fun K hK => ?_)
      go_simp
      refine hK _ ?_
      clear hK K
      refine stepE0 rfl rfl (fun K hK => ?_)
      go_simp
      refine hK _ ?_
      clear hK K
      refine stepE0 rfl rfl (fun K hK => ?_)
      go_simp
      refine hK _ ?_
      clear hK K
      refine stepE0 rfl rfl (fun K hK => ?_)
      go_simp
      refine hK _ ?_
      clear hK K
      refine stepE0 rfl rfl (fun K hK => ?_)
      go_simp
      refine hK _ ?_
      clear hK K
      refine stepE1S rfl rfl (fun K hK => ?_)
      (go_wp2_with fail; refine Calls.mono (leader_0 bp _ ?_) ?_; (focus (go_simp)); rintro e w2 ⟨rfl, rfl⟩; go_wp2)
      refine ⟨by rw [HSD.out]; exact (by show World.cell? _ _ = some _; go_simp), ?_⟩
      refine stepE0 rfl rfl (fun K hK => ?_)
      go_simp
      refine hK _ ?_
      clear hK K
      refine stepE0 rfl rfl (fun K hK => ?_)
      go_simp
      refine hK _ ?_
      clear hK K
      refine stepE2 rfl rfl ?_ (fun w1 hS => ?_) (fun K hK => ?_)
      rotate_left
      focus (rw [HSD.out] at hS; have s0 : w1.cell? _ = some _ := hS; go_simp; rfl)
      go_simp
      refine hK _ ?_
      clear hK K
      refine stepE1 rfl rfl (by kernel_rfl) (fun K hK => ?_)
      (go_wp2_with fail; refine Calls.mono (clone_Cmd (.slice aA la.length cA) la.length (la.flatMap Cmd.row) _ ((reads_of_owns HRL.out).below (by repeat (first | (with_reducible exact Below.refl _ _) | (with_reducible refine Below.setCell ?_ ?_ _) | (with_reducible refine Below.alloc ?_ ?_ _) | (with_reducible refine Below.drewN ?_ _) | (with_reducible refine Below.drew ?_) | (with_reducible exact Nat.le_refl _) | (focus (simp only [World.size_alloc, World.size_setCell, World.size_drew, World.size_drewN]; omega)) | omega | exact Nat.le_refl _ | (focus (simp; done)) | (focus (simp; omega))))) (Cmd.one la) (by omega)) ?_; rintro e w5 ⟨v5, rfl, ho5, _, hb5⟩; obtain ⟨a5, c5, rfl⟩ := ownsRow_len ho5; have hz5 := hb5.size; have kx0 : w5.cell? ⟨bp, 2, none⟩ = some (.bool false) := (hb5.cell (p := ⟨bp, 2, none⟩) (by simp; omega)).trans (by go_simp); have kx1 : w5.cell? ⟨bp, 3, none⟩ = some (.slice aB lb.length cB) := (hb5.cell (p := ⟨bp, 3, none⟩) (by simp; omega)).trans (by go_simp); have kfx : ∀ o, w5.frozen? ⟨bp, o, none⟩ = false := (fun o => (hb5.frozen (p := ⟨bp, o, none⟩) (by simp; omega)).trans (by go_simp)); have HB5 := Lib.hid (show Below w.heap.size w w5 from Below.trans (B := w.heap.size) (a := w) (by repeat (first | (with_reducible exact Below.refl _ _) | (with_reducible refine Below.setCell ?_ ?_ _) | (with_reducible refine Below.alloc ?_ ?_ _) | (with_reducible refine Below.drewN ?_ _) | (with_reducible refine Below.drew ?_) | (with_reducible exact Nat.le_refl _) | (focus (simp only [World.size_alloc, World.size_setCell, World.size_drew, World.size_drewN]; omega)) | omega | exact Nat.le_refl _ | (focus (simp; done)) | (focus (simp; omega)))) (hb5.mono (by simp))); have HO5 := Lib.hid (show w5.ownsRow w.heap.size 32 8 (.slice a5 la.length c5) la.length (la.flatMap Cmd.row) from (by simpa using ho5)); clear ho5 hb5; go_wp2)
      refine stepE0 rfl rfl (fun K hK => ?_)
      go_simp
      refine hK _ ?_
      clear hK K
      refine stepE0 rfl rfl (fun K hK => ?_)
      go_simp
      refine hK _ ?_
      clear hK K
      refine stepE1 rfl rfl (by kernel_rfl) (fun K hK => ?_)
      go_wp2
      try refine stepEnil0 ?_
      clear HSD SS
      go_wp2_with fail
      go_ret
      refine ⟨by simp [riseK, errV], ?_⟩
      have e1 : riseP ⟨⟨true, la⟩, ⟨false, lb⟩, false, tm, st⟩ (!false) = ⟨⟨true, la⟩, ⟨true, la⟩, false, tm, st⟩ := by simp [riseP]
      rw [e1]
      refine PairTo.new_b (w1 := w5) (v' := .slice a5 la.length c5) H.out (Pst.cast ((((Pst.refl (F := fun k => k = bp) H.out.blk).below HB5.out).setCell (i := 2) (v := .bool true) rfl).setCell (i := 3) (v := .slice a5 la.length c5) rfl) ?_) HO5.out (((Keeps.refl (fun k => k = bp) w5).setCell _ _ (fun _ => rfl)).setCell _ _ (fun _ => rfl)) rfl
      simp [Pr.cells, Pr.a, Pr.b, Pr.ld]
  · go_enter Try.func34, Try.ntmps34
    go_wp2_with fail
    refine (right_ok bp (!false) _).mono ?_
    rintro e w1 ⟨rfl, rfl⟩
    go_wp2_with fail
    go_ret
    refine ⟨by simp [riseK]; exact errV_14.symm, ?_⟩
    have e1 : riseP ⟨⟨ua, la⟩, ⟨true, lb⟩, false, tm, st⟩ (!false) = ⟨⟨ua, la⟩, ⟨true, lb⟩, false, tm, st⟩ := by simp [riseP]
    rw [e1]
    exact PairTo.same H.out (by repeat (first | (with_reducible exact Below.refl _ _) | (with_reducible refine Below.setCell ?_ ?_ _) | (with_reducible refine Below.alloc ?_ ?_ _) | (with_reducible refine Below.drewN ?_ _) | (with_reducible refine Below.drew ?_) | (with_reducible exact Nat.le_refl _) | (focus (simp only [World.size_alloc, World.size_setCell, World.size_drew, World.size_drewN]; omega)) | omega | exact Nat.le_refl _ | (focus (simp; done)) | (focus (simp; omega))))
theorem PairTo.new_a {w w1 w' : World} {base bp : Nat} {va vb v' : Value} {p p' : Pr} (h : PairAt w base bp va vb p) (hp : Pst (fun k => k = bp) w w' bp (p'.cells v' vb))
    (hr : w1.ownsRow w.heap.size 32 8 v' p'.a.log.length (p'.a.log.flatMap Cmd.row)) (hk : Keeps (fun k => k = bp) w1 w') (hb : p'.b.log = p.b.log) : PairTo w base bp va vb p' w' := by
  have hlt := h.lt
  have hlow := h.low
  have hgb : ∀ g, v'.ownBlock = some g → w.heap.size ≤ g := fun g hg => (hr.lt g hg).1
  have hr' := ownsRow_mono (ownsRow_keeps hr hk (fun k e e' => by have := hgb k e; omega)) (show base ≤ w.heap.size by omega)
  have ho : w'.ownsRow base 32 8 vb p'.b.log.length (p'.b.log.flatMap Cmd.row) := by
    rw [hb]
    exact ownsRow_keeps h.rb hp.keep (fun k e e' => h.nb (by rw [e, e']))
  refine ⟨v', vb, ⟨hp.blk, hr', ho, h.low, fun e => by have := hgb _ e; omega, h.nb, ?_⟩, ?_, hp.keep.mono (fun k _ e => .inl e)⟩
  · intro g e e'
    have h1 := hgb g e
    have h2 := (h.rb.lt g e').2
    omega
  · intro k hk
    rcases hk with e | e | e
    · exact .inl (.inl e)
    · exact .inr (hgb k e)
    · exact .inl (.inr (.inr e))
set_option maxRecDepth 100000 in
set_option maxHeartbeats 4000000 in
theorem rise_lead_true (base bp : Nat) (va vb : Value) (ua ub : Bool) (la lb : List Cmd) (tm st : Int) (w : World) (h : PairAt w base bp va vb ⟨⟨ua, la⟩, ⟨ub, lb⟩, true, tm, st⟩) (hN : la.length ≤ 100000) (hup : ua = false → ub = false) (ht0 : 0 ≤ tm) (ht1 : tm ≤ 1000000) :
    Calls Try.prog 34 #[.pointer (some ⟨bp, 0, none⟩), .int .i64 1] w
      fun e w' => e = .returned (errV (riseK ⟨⟨ua, la⟩, ⟨ub, lb⟩, true, tm, st⟩ true)) ∧ PairTo w base bp va vb (riseP ⟨⟨ua, la⟩, ⟨ub, lb⟩, true, tm, st⟩ true) w' := by
  have H := Lib.hid h
  have hlt := h.lt
  obtain ⟨k0, k1, k2, k3, k4, k5, k6, kf⟩ := h.cell
  simp only [Pr.a, Pr.b, Pr.ld, if_true, if_false, Bool.false_eq_true] at k0 k1 k2 k3 k4 k5 k6
  obtain ⟨aA, cA, rfl⟩ := ownsRow_len h.ra
  obtain ⟨aB, cB, rfl⟩ := ownsRow_len h.rb
  simp only [Pr.a, Pr.b, if_true, if_false, Bool.false_eq_true] at k1 k3
  clear h
  have hw1 : IntKind.i64.wrap 1 = 1 := IntWalk.i64_in _ (by omega)
  have hw0 : IntKind.i64.wrap 0 = 0 := IntWalk.i64_in _ (by omega)
  cases ua
  · have hub := hup rfl
    subst hub
    clear hup
    go_enter Try.func34, Try.ntmps34
    go_wp2_with fail
    refine (right_ok bp true _).mono ?_
    rintro e w1 ⟨rfl, rfl⟩
    go_wp2_with fail
    refine Calls.mono (settle_any bp st _ _ ?_ ?_) ?_
    · go_simp
    · go_simp
    rintro e w3 ⟨rfl, rfl⟩
    go_wp2_with fail
    go_ret
    refine ⟨by simp [riseK, errV], ?_⟩
    have e1 : riseP ⟨⟨false, la⟩, ⟨false, lb⟩, true, tm, st⟩ true = ⟨⟨true, la⟩, ⟨false, lb⟩, true, tm + 1, max st la.length⟩ := by simp [riseP]
    rw [e1]
    refine PairTo.of_pst H.out (Pst.cast ((((Pst.refl (F := fun k => k = bp) H.out.blk).setCell (i := 2) (v := .bool true) rfl).setCell (i := 5) (v := .int .i64 (tm + 1)) rfl).setCell (i := 6) (v := .int .i64 (max st la.length)) rfl) ?_) rfl rfl
    simp [Pr.cells, Pr.a, Pr.b, Pr.ld]
  · clear hup
    go_enter Try.func34, Try.ntmps34
    go_wp2_with fail
    refine (right_ok bp true _).mono ?_
    rintro e w1 ⟨rfl, rfl⟩
    go_wp2_with fail
    go_ret
    refine ⟨by simp [riseK]; exact errV_14.symm, ?_⟩
    have e1 : riseP ⟨⟨true, la⟩, ⟨ub, lb⟩, true, tm, st⟩ true = ⟨⟨true, la⟩, ⟨ub, lb⟩, true, tm, st⟩ := by simp [riseP]
    rw [e1]
    exact PairTo.same H.out (by repeat (first | (with_reducible exact Below.refl _ _) | (with_reducible refine Below.setCell ?_ ?_ _) | (with_reducible refine Below.alloc ?_ ?_ _) | (with_reducible refine Below.drewN ?_ _) | (with_reducible refine Below.drew ?_) | (with_reducible exact Nat.le_refl _) | (focus (simp only [World.size_alloc, World.size_setCell, World.size_drew, World.size_drewN]; omega)) | omega | exact Nat.le_refl _ | (focus (simp; done)) | (focus (simp; omega))))
set_option maxRecDepth 100000 in
set_option maxHeartbeats 4000000 in
theorem rise_other_true (base bp : Nat) (va vb : Value) (ua ub : Bool) (la lb : List Cmd) (tm st : Int) (w : World) (h : PairAt w base bp va vb ⟨⟨ua, la⟩, ⟨ub, lb⟩, true, tm, st⟩) (hN : la.length ≤ 100000) :
    Calls Try.prog 34 #[.pointer (some ⟨bp, 0, none⟩), .int .i64 0] w
      fun e w' => e = .returned (errV (riseK ⟨⟨ua, la⟩, ⟨ub, lb⟩, true, tm, st⟩ (!true))) ∧ PairTo w base bp va vb (riseP ⟨⟨ua, la⟩, ⟨ub, lb⟩, true, tm, st⟩ (!true)) w' := by
  have H := Lib.hid h
  have hlt := h.lt
  obtain ⟨k0, k1, k2, k3, k4, k5, k6, kf⟩ := h.cell
  simp only [Pr.a, Pr.b, Pr.ld, if_true, if_false, Bool.false_eq_true] at k0 k1 k2 k3 k4 k5 k6
  obtain ⟨aA, cA, rfl⟩ := ownsRow_len h.ra
  obtain ⟨aB, cB, rfl⟩ := ownsRow_len h.rb
  simp only [Pr.a, Pr.b, if_true, if_false, Bool.false_eq_true] at k1 k3
  clear h
  have hw1 : IntKind.i64.wrap 1 = 1 := IntWalk.i64_in _ (by omega)
  have hw0 : IntKind.i64.wrap 0 = 0 := IntWalk.i64_in _ (by omega)
  cases ub
  · cases ua
    · go_enter Try.func34, Try.ntmps34
      go_wp2_with fail
      refine (right_ok bp (!true) _).mono ?_
      rintro e w1 ⟨rfl, rfl⟩
      go_wp2_with fail
      go_ret
      refine ⟨by simp [riseK]; exact errV_12.symm, ?_⟩
      have e1 : riseP ⟨⟨false, la⟩, ⟨false, lb⟩, true, tm, st⟩ (!true) = ⟨⟨false, la⟩, ⟨false, lb⟩, true, tm, st⟩ := by simp [riseP]
      rw [e1]
      exact PairTo.same H.out (by repeat (first | (with_reducible exact Below.refl _ _) | (with_reducible refine Below.setCell ?_ ?_ _) | (with_reducible refine Below.alloc ?_ ?_ _) | (with_reducible refine Below.drewN ?_ _) | (with_reducible refine Below.drew ?_) | (with_reducible exact Nat.le_refl _) | (focus (simp only [World.size_alloc, World.size_setCell, World.size_drew, World.size_drewN]; omega)) | omega | exact Nat.le_refl _ | (focus (simp; done)) | (focus (simp; omega))))
    · have HRL := Lib.hid (show w.ownsRow base 32 8 (.slice aB la.length cB) la.length (la.flatMap Cmd.row) from H.out.rb)
      go_enter Try.func34, Try.ntmps34
      go_wp2_with fail
      refine (right_ok bp (!true) _).mono ?_
      rintro e w1 ⟨rfl, rfl⟩
      go_wp2_with fail
      obtain ⟨SS, HSD⟩ : ∃ SS : World → Prop, Hid (SS = fun w' => w'.cell? ⟨bp, 3, none⟩ = some (.slice aB la.length cB)) := ⟨_, Lib.hid rfl⟩
      refine wp_region_order0 SS [6] [(0, 0), (1, 0), (2, 0), (9, 0), (10, 0), (3, 1), (4, 0), (5, 0), (6, 2), (7, 1), (8, 0), (11, 0), (12, 1)] (by kernel_rfl) (by kernel_rfl) rfl (by kernel_rfl) ?_ ?_
      focus (rw [HSD.out]; go_simp)
      refine stepE0 rfl rfl (fun K hK => ?_)
      go_simp
      refine hK _ ?_
      clear hK K
      refine stepE0 rfl rfl (fun K hK => ?_)
      go_simp
      refine hK _ ?_
      clear hK K
      refine stepE0 rfl rfl (fun K hK => ?_)
      go_simp
      refine hK _ ?_
      clear hK K
      refine stepE0 rfl rfl (fun K hK => ?_)
      go_simp
      refine hK _ ?_
      clear hK K
      refine stepE0 rfl rfl (fun K hK => ?_)
      go_simp
      refine hK _ ?_
      clear hK K
      refine stepE1S rfl rfl (fun K hK => ?_)
      (go_wp2_with fail; refine Calls.mono (leader_1 bp _ ?_) ?_; (focus (go_simp)); rintro e w2 ⟨rfl, rfl⟩; go_wp2)
      refine ⟨by rw [HSD.out]; exact (by show World.cell? _ _ = some _; go_simp), ?_⟩
      refine stepE0 rfl rfl (fun K hK => ?_)
      go_simp
      refine hK _ ?_
      clear hK K
      refine stepE0 rfl rfl (fun K hK => ?_)
      go_simp
      refine hK _ ?_
      clear hK K
      refine stepE2 rfl rfl ?_ (fun w1 hS => ?_) (fun K hK => ?_)
      rotate_left
      focus (rw [HSD.out] at hS; have s0 : w1.cell? _ = some _ := hS; go_simp; rfl)
      go_simp
      refine hK _ ?_
      clear hK K
      refine stepE1 rfl rfl (by kernel_rfl) (fun K hK => ?_)
      (go_wp2_with fail; refine Calls.mono (clone_Cmd (.slice aB la.length cB) la.length (la.flatMap Cmd.row) _ ((reads_of_owns HRL.out).below (by repeat (first | (with_reducible exact Below.refl _ _) | (with_reducible refine Below.setCell ?_ ?_ _) | (with_reducible refine Below.alloc ?_ ?_ _) | (with_reducible refine Below.drewN ?_ _) | (with_reducible refine Below.drew ?_) | (with_reducible exact Nat.le_refl _) | (focus (simp only [World.size_alloc, World.size_setCell, World.size_drew, World.size_drewN]; omega)) | omega | exact Nat.le_refl _ | (focus (simp; done)) | (focus (simp; omega))))) (Cmd.one la) (by omega)) ?_; rintro e w5 ⟨v5, rfl, ho5, _, hb5⟩; obtain ⟨a5, c5, rfl⟩ := ownsRow_len ho5; have hz5 := hb5.size; have kx0 : w5.cell? ⟨bp, 0, none⟩ = some (.bool false) := (hb5.cell (p := ⟨bp, 0, none⟩) (by simp; omega)).trans (by go_simp); have kx1 : w5.cell? ⟨bp, 1, none⟩ = some (.slice aA lb.length cA) := (hb5.cell (p := ⟨bp, 1, none⟩) (by simp; omega)).trans (by go_simp); have kfx : ∀ o, w5.frozen? ⟨bp, o, none⟩ = false := (fun o => (hb5.frozen (p := ⟨bp, o, none⟩) (by simp; omega)).trans (by go_simp)); have HB5 := Lib.hid (show Below w.heap.size w w5 from Below.trans (B := w.heap.size) (a := w) (by repeat (first | (with_reducible exact Below.refl _ _) | (with_reducible refine Below.setCell ?_ ?_ _) | (with_reducible refine Below.alloc ?_ ?_ _) | (with_reducible refine Below.drewN ?_ _) | (with_reducible refine Below.drew ?_) | (with_reducible exact Nat.le_refl _) | (focus (simp only [World.size_alloc, World.size_setCell, World.size_drew, World.size_drewN]; omega)) | omega | exact Nat.le_refl _ | (focus (simp; done)) | (focus (simp; omega)))) (hb5.mono (by simp))); have HO5 := Lib.hid (show w5.ownsRow w.heap.size 32 8 (.slice a5 la.length c5) la.length (la.flatMap Cmd.row) from (by simpa using ho5)); clear ho5 hb5; go_wp2)
      refine stepE0 rfl rfl (fun K hK => ?_)
      go_simp
      refine hK _ ?_
      clear hK K
      refine stepE0 rfl rfl (fun K hK => ?_)
      go_simp
      refine hK _ ?_
      clear hK K
      refine stepE1 rfl rfl (by kernel_rfl) (fun K hK => ?_)
      go_wp2
      try refine stepEnil0 ?_
      clear HSD SS
      go_wp2_with fail
      go_ret
      refine ⟨by simp [riseK, errV], ?_⟩
      have e1 : riseP ⟨⟨true, la⟩, ⟨false, lb⟩, true, tm, st⟩ (!true) = ⟨⟨true, la⟩, ⟨true, la⟩, true, tm, st⟩ := by simp [riseP]
      rw [e1]
      refine PairTo.new_a (w1 := w5) (v' := .slice a5 la.length c5) H.out (Pst.cast ((((Pst.refl (F := fun k => k = bp) H.out.blk).below HB5.out).setCell (i := 0) (v := .bool true) rfl).setCell (i := 1) (v := .slice a5 la.length c5) rfl) ?_) HO5.out (((Keeps.refl (fun k => k = bp) w5).setCell _ _ (fun _ => rfl)).setCell _ _ (fun _ => rfl)) rfl
      simp [Pr.cells, Pr.a, Pr.b, Pr.ld]
  · go_enter Try.func34, Try.ntmps34
    go_wp2_with fail
    refine (right_ok bp (!true) _).mono ?_
    rintro e w1 ⟨rfl, rfl⟩
    go_wp2_with fail
    go_ret
    refine ⟨by simp [riseK]; exact errV_14.symm, ?_⟩
    have e1 : riseP ⟨⟨ua, la⟩, ⟨true, lb⟩, true, tm, st⟩ (!true) = ⟨⟨ua, la⟩, ⟨true, lb⟩, true, tm, st⟩ := by simp [riseP]
    rw [e1]
    exact PairTo.same H.out (by repeat (first | (with_reducible exact Below.refl _ _) | (with_reducible refine Below.setCell ?_ ?_ _) | (with_reducible refine Below.alloc ?_ ?_ _) | (with_reducible refine Below.drewN ?_ _) | (with_reducible refine Below.drew ?_) | (with_reducible exact Nat.le_refl _) | (focus (simp only [World.size_alloc, World.size_setCell, World.size_drew, World.size_drewN]; omega)) | omega | exact Nat.le_refl _ | (focus (simp; done)) | (focus (simp; omega))))
end Go.Proofs.Ytigkcbnlbdiimaa

/- Package twin: each call at any pair; Answer, Map; corncriblaw20.do. -/
namespace Go.Proofs.Ytigkcbnlbdiimaa
open Go.RowKit
theorem ask_any (base bp : Nat) (va vb : Value) (p : Pr) (t : Int) (c : Cmd) (w : World) (h : PairAt w base bp va vb p) (hN : p.L.log.length ≤ 100000) :
    Calls Try.prog 30 #[.pointer (some ⟨bp, 0, none⟩), .int .i64 t, .agg #[.int .i64 c.kind, .int .i64 c.vol, .int .i64 c.epoch, .int .i64 c.spot, .int .i64 c.node, .int .i64 c.n0, .int .i64 c.n1, .int .i64 c.n2]] w
      fun e w' => e = .returned (.tuple #[.int .i64 (askN p t), errV (askK p t)]) ∧ PairTo w base bp va vb (askP p t c) w' := by
  obtain ⟨⟨ua, la⟩, ⟨ub, lb⟩, ld, tm, st⟩ := p
  cases ld
  · exact ask_false base bp va vb ua ub la lb tm st t c w h hN
  · exact ask_true base bp va vb ua ub la lb tm st t c w h hN
theorem ship_any (base bp : Nat) (va vb : Value) (p : Pr) (t : Int) (w : World) (h : PairAt w base bp va vb p) (hN : p.L.log.length ≤ 100000) (hle : p.F.up = true → p.F.log.length ≤ p.L.log.length) :
    Calls Try.prog 32 #[.pointer (some ⟨bp, 0, none⟩), .int .i64 t] w
      fun e w' => e = .returned (errV (shipK p t)) ∧ PairTo w base bp va vb (shipP p t) w' := by
  obtain ⟨⟨ua, la⟩, ⟨ub, lb⟩, ld, tm, st⟩ := p
  cases ld
  · exact ship_false base bp va vb ua ub la lb tm st t w h hN hle
  · exact ship_true base bp va vb ua ub la lb tm st t w h hN hle
theorem fall_any (base bp : Nat) (va vb : Value) (p : Pr) (s : Bool) (w : World) (h : PairAt w base bp va vb p) (hN : p.L.log.length ≤ 100000) (hN2 : p.F.log.length ≤ 100000) (ht0 : 0 ≤ p.term) (ht1 : p.term ≤ 1000000) :
    Calls Try.prog 33 #[.pointer (some ⟨bp, 0, none⟩), .int .i64 (sideI s)] w
      fun e w' => e = .returned (errV (fallK p s)) ∧ PairTo w base bp va vb (fallP p s) w' := by
  obtain ⟨⟨ua, la⟩, ⟨ub, lb⟩, ld, tm, st⟩ := p
  cases ld <;> cases s
  · exact fall_lead_false base bp va vb ua ub la lb tm st w h hN hN2 ht0 ht1
  · exact fall_other_false base bp va vb ua ub la lb tm st w h hN ht0 ht1
  · exact fall_other_true base bp va vb ua ub la lb tm st w h hN ht0 ht1
  · exact fall_lead_true base bp va vb ua ub la lb tm st w h hN hN2 ht0 ht1
theorem rise_any (base bp : Nat) (va vb : Value) (p : Pr) (s : Bool) (w : World) (h : PairAt w base bp va vb p) (hN : p.L.log.length ≤ 100000) (hup : p.L.up = false → p.F.up = false) (ht0 : 0 ≤ p.term) (ht1 : p.term ≤ 1000000) :
    Calls Try.prog 34 #[.pointer (some ⟨bp, 0, none⟩), .int .i64 (sideI s)] w
      fun e w' => e = .returned (errV (riseK p s)) ∧ PairTo w base bp va vb (riseP p s) w' := by
  obtain ⟨⟨ua, la⟩, ⟨ub, lb⟩, ld, tm, st⟩ := p
  cases ld <;> cases s
  · exact rise_lead_false base bp va vb ua ub la lb tm st w h hN hup ht0 ht1
  · exact rise_other_false base bp va vb ua ub la lb tm st w h hN
  · exact rise_other_true base bp va vb ua ub la lb tm st w h hN
  · exact rise_lead_true base bp va vb ua ub la lb tm st w h hN hup ht0 ht1
set_option maxHeartbeats 400000 in
theorem fall_bad (bp : Nat) (n : Int) (h : n < 0 ∨ 2 ≤ n) (w : World) : Calls Try.prog 33 #[.pointer (some ⟨bp, 0, none⟩), .int .i64 n] w fun e w' => e = .returned (errV 1) ∧ w = w' := by
  have H := Lib.hid h
  clear h
  go_enter Try.func33, Try.ntmps33
  go_wp2_with (go_at_call 64; refine (right_bad bp n H.out _).mono ?_; rintro e w' ⟨rfl, rfl⟩)
  go_ret
  exact ⟨by rw [errV_ne (by omega)]; rfl, rfl⟩
set_option maxHeartbeats 400000 in
theorem rise_bad (bp : Nat) (n : Int) (h : n < 0 ∨ 2 ≤ n) (w : World) : Calls Try.prog 34 #[.pointer (some ⟨bp, 0, none⟩), .int .i64 n] w fun e w' => e = .returned (errV 1) ∧ w = w' := by
  have H := Lib.hid h
  clear h
  go_enter Try.func34, Try.ntmps34
  go_wp2_with (go_at_call 64; refine (right_bad bp n H.out _).mono ?_; rintro e w' ⟨rfl, rfl⟩)
  go_ret
  exact ⟨by rw [errV_ne (by omega)]; rfl, rfl⟩
/-- What a settled command was answered. -/
def ansN (l : List Cmd) (j : Nat) : Int := match l[j]? with | some c => doN (doAll [] (l.take j)) c | none => 0
def ansK (l : List Cmd) (j : Nat) : Nat := match l[j]? with | some c => doK (doAll [] (l.take j)) c | none => 0
theorem ansK_le (l : List Cmd) (j : Nat) : ansK l j ≤ 17 := by
  unfold ansK
  split
  · exact doK_le _ _
  · omega
theorem leader_log {w : World} {base bp : Nat} {va vb : Value} {p : Pr} (h : PairAt w base bp va vb p) :
    ∃ vl, w.cell? ⟨bp, (if p.lead then 2 else 0) + 1, none⟩ = some vl ∧ w.ownsRow base 32 8 vl p.L.log.length (p.L.log.flatMap Cmd.row) := by
  obtain ⟨_, k1, _, k3, _, _, _, _⟩ := h.cell
  have ha := h.ra
  have hb := h.rb
  cases hl : p.lead
  · refine ⟨va, by simpa using k1, ?_⟩
    simpa [Pr.a, hl] using ha
  · refine ⟨vb, by simpa using k3, ?_⟩
    simpa [Pr.b, hl] using hb
theorem side_log {w : World} {base bp : Nat} {va vb : Value} {p : Pr} (h : PairAt w base bp va vb p) (s : Bool) :
    ∃ vl, w.cell? ⟨bp, (if s then 2 else 0) + 1, none⟩ = some vl ∧ w.ownsRow base 32 8 vl (if s then p.b else p.a).log.length ((if s then p.b else p.a).log.flatMap Cmd.row) := by
  obtain ⟨_, k1, _, k3, _, _, _, _⟩ := h.cell
  have ha := h.ra
  have hb := h.rb
  cases s
  · exact ⟨va, by simpa using k1, by simpa using ha⟩
  · exact ⟨vb, by simpa using k3, by simpa using hb⟩
set_option maxRecDepth 100000 in
set_option maxHeartbeats 2000000 in
theorem answer_any (base bp : Nat) (va vb : Value) (p : Pr) (j : Nat) (w : World) (h : PairAt w base bp va vb p) (hj : (j : Int) < p.settled) (hs : p.settled ≤ p.L.log.length) (hN : p.L.log.length ≤ 100000) :
    Calls Try.prog 29 #[.pointer (some ⟨bp, 0, none⟩), .int .i64 j] w fun e w' => e = .returned (.tuple #[.int .i64 (ansN p.L.log j), errV (ansK p.L.log j)]) ∧ Below w.heap.size w w' := by
  obtain ⟨vl, kl, hr⟩ := leader_log h
  obtain ⟨_, _, _, _, _, _, k6, _⟩ := h.cell
  have H := Lib.hid h
  have hlt := h.lt
  obtain ⟨c, hc⟩ : ∃ c, p.L.log[j]? = some c := ⟨_, List.getElem?_eq_getElem (by omega)⟩
  have HC := Lib.hid hc
  obtain ⟨aL, cL, rfl⟩ := ownsRow_len hr
  obtain ⟨g, cg, e1, hg, _, hjl, q0, q1, q2, q3, q4, q5, q6, q7⟩ := row_cmd hr j c hc
  obtain ⟨rfl, -, rfl⟩ := slice_inj e1
  have HR := Lib.hid hr
  obtain ⟨hcap1, hcap2⟩ := owns_cap hr
  have HA1 := Lib.hid (show ansN p.L.log j = doN (doAll [] (p.L.log.take j)) c by simp [ansN, hc])
  have HA2 := Lib.hid (show ansK p.L.log j = doK (doAll [] (p.L.log.take j)) c by simp [ansK, hc])
  obtain ⟨nd, hnd⟩ : ∃ nd, doN (doAll [] (p.L.log.take j)) c = nd := ⟨_, rfl⟩
  obtain ⟨kd, hkd⟩ : ∃ kd : Nat, doK (doAll [] (p.L.log.take j)) c = kd := ⟨_, rfl⟩
  have HND := Lib.hid hnd
  have HKD := Lib.hid hkd
  clear h hc e1 hr hnd hkd
  obtain ⟨bl, hbl⟩ : ∃ bl, (if p.lead then 2 else 0) = bl := ⟨_, rfl⟩
  have HBL := Lib.hid hbl
  rw [hbl] at kl
  clear hbl
  generalize hst : p.settled = st at *
  generalize hlog : p.L.log = log at *
  have HST := Lib.hid hst
  have HLOG := Lib.hid hlog
  clear hst hlog
  have hj0 : (0 : Int) ≤ (j : Int) := by omega
  have hjc : (j : Int) ≤ (cL : Int) := by omega
  have hjn : (j : Int) < (log.length : Int) := by omega
  obtain ⟨ck, cv, ce, cp, cn, c0, c1, c2⟩ := c
  go_enter Try.func29, Try.ntmps29
  go_wp2_with fail
  refine (leader_any base bp _ _ _ _ (H.out.below (by repeat (first | (with_reducible exact Below.refl _ _) | (with_reducible refine Below.setCell ?_ ?_ _) | (with_reducible refine Below.alloc ?_ ?_ _) | (with_reducible refine Below.drewN ?_ _) | (with_reducible refine Below.drew ?_) | (with_reducible exact Nat.le_refl _) | (focus (simp only [World.size_alloc, World.size_setCell, World.size_drew, World.size_drewN]; omega)) | omega | exact Nat.le_refl _ | (focus (simp; done)) | (focus (simp; omega)))))).mono ?_
  rintro e w1 ⟨rfl, rfl⟩
  rw [HBL.out]
  go_wp2_with fail
  refine (replay_any (some ⟨g, 0, none⟩) j cL (log.take j) _ (by rw [List.length_take]; omega) (by omega) (fun h0 => ?_)).mono ?_
  · obtain ⟨g', e1, h2, _, h3⟩ := cmds_row HR.out (by omega)
    simp at e1
    subst e1
    exact ⟨g, 0, rfl, h2, (CmdsAt.take h3 j)⟩
  rintro e w2 ⟨rfl, ⟨v2, hm2⟩, hb2⟩
  have HM2 := Lib.hid hm2
  have e2 := fun o => hb2.cell (p := ⟨g, o, none⟩) hg
  have HB2 := Lib.hid (show Below w.heap.size w w2 from Below.trans (B := w.heap.size) (a := w) (by repeat (first | (with_reducible exact Below.refl _ _) | (with_reducible refine Below.setCell ?_ ?_ _) | (with_reducible refine Below.alloc ?_ ?_ _) | (with_reducible refine Below.drewN ?_ _) | (with_reducible refine Below.drew ?_) | (with_reducible exact Nat.le_refl _) | (focus (simp only [World.size_alloc, World.size_setCell, World.size_drew, World.size_drewN]; omega)) | omega | exact Nat.le_refl _ | (focus (simp; done)) | (focus (simp; omega)))) hb2)
  clear hm2 hb2
  go_wp2_with fail
  refine (do_at _ _ v2 _ _ ⟨ck, cv, ce, cp, cn, c0, c1, c2⟩ nd kd _ HM2.out rfl HND.out (by rw [HKD.out])).mono ?_
  rintro e w3 hd
  have HU := Lib.hid (hd.under (w0 := w) HM2.out (Nat.le_refl _) HB2.out)
  obtain ⟨rfl, _⟩ := hd
  go_wp2_with fail
  go_ret2
  exact ⟨by rw [HA1.out, HA2.out, HND.out, HKD.out]; rfl, HU.out⟩
set_option maxRecDepth 100000 in
set_option maxHeartbeats 2000000 in
theorem answer_none (base bp : Nat) (va vb : Value) (p : Pr) (n : Int) (w : World) (h : PairAt w base bp va vb p) (hn : n < 0 ∨ p.settled ≤ n) :
    Calls Try.prog 29 #[.pointer (some ⟨bp, 0, none⟩), .int .i64 n] w fun e w' => e = .returned (.tuple #[.int .i64 0, errV 6]) ∧ w = w' := by
  obtain ⟨_, _, _, _, _, _, k6, _⟩ := h.cell
  clear h
  generalize p.settled = st at *
  by_cases h0 : n < 0
  · clear hn
    go_enter Try.func29, Try.ntmps29
    go_wp2
    go_ret2
    exact ⟨by rw [errV_ne (by omega)]; rfl, rfl⟩
  · have h1 : 0 ≤ n := by omega
    have h2 : st ≤ n := by omega
    clear hn h0
    go_enter Try.func29, Try.ntmps29
    go_wp2
    go_ret2
    exact ⟨by rw [errV_ne (by omega)]; rfl, rfl⟩
set_option maxRecDepth 100000 in
set_option maxHeartbeats 2000000 in
theorem map_any (base bp : Nat) (va vb : Value) (p : Pr) (s : Bool) (w : World) (h : PairAt w base bp va vb p) (hN : (if s then p.b else p.a).log.length ≤ 100000) :
    Calls Try.prog 35 #[.pointer (some ⟨bp, 0, none⟩), .int .i64 (sideI s)] w fun e w' => e = .returned (.pointer (some ⟨w.heap.size, 0, none⟩)) ∧ (∃ v, MapAt w' w.heap.size w.heap.size v (doAll [] (if s then p.b else p.a).log)) ∧ Below w.heap.size w w' := by
  obtain ⟨vl, kl, hr⟩ := side_log h s
  have hlt := h.lt
  clear h
  generalize (if s then p.b else p.a).log = log at *
  obtain ⟨aL, cL, rfl⟩ := ownsRow_len hr
  have HR := Lib.hid hr
  clear hr
  cases s
  · simp only [sideI, if_true, if_false, Bool.false_eq_true, Nat.zero_add, Nat.reduceAdd] at kl ⊢
    go_enter Try.func35, Try.ntmps35
    go_wp2_with fail
    refine (right_ok bp false _).mono ?_
    rintro e w1 ⟨rfl, rfl⟩
    go_wp2_with fail
    refine (replay_any aL log.length cL log _ rfl (by omega) (fun h0 => ?_)).mono ?_
    · obtain ⟨g', e1, h2, _, h3⟩ := cmds_row HR.out h0
      exact ⟨g', 0, e1, h2, h3⟩
    rintro e w2 ⟨rfl, hm2, hb2⟩
    go_wp2_with fail
    go_ret
    exact ⟨rfl, hm2, hb2⟩
  · simp only [sideI, if_true, if_false, Bool.false_eq_true, Nat.zero_add, Nat.reduceAdd] at kl ⊢
    go_enter Try.func35, Try.ntmps35
    go_wp2_with fail
    refine (right_ok bp true _).mono ?_
    rintro e w1 ⟨rfl, rfl⟩
    go_wp2_with fail
    refine (replay_any aL log.length cL log _ rfl (by omega) (fun h0 => ?_)).mono ?_
    · obtain ⟨g', e1, h2, _, h3⟩ := cmds_row HR.out h0
      exact ⟨g', 0, e1, h2, h3⟩
    rintro e w2 ⟨rfl, hm2, hb2⟩
    go_wp2_with fail
    go_ret
    exact ⟨rfl, hm2, hb2⟩
set_option maxHeartbeats 400000 in
theorem map_bad (bp : Nat) (n : Int) (h : n < 0 ∨ 2 ≤ n) (w : World) : Calls Try.prog 35 #[.pointer (some ⟨bp, 0, none⟩), .int .i64 n] w fun e w' => e = .returned (.pointer none) ∧ w = w' := by
  have H := Lib.hid h
  clear h
  go_enter Try.func35, Try.ntmps35
  go_wp2_with (go_at_call 64; refine (right_bad bp n H.out _).mono ?_; rintro e w' ⟨rfl, rfl⟩)
  go_ret
  exact ⟨rfl, rfl⟩
end Go.Proofs.Ytigkcbnlbdiimaa

/- corncriblaw20: alive, do. -/
namespace Go.Proofs.Ytigkcbnlbdiimaa
open Go.RowKit
structure Act where
  kind : Int
  term : Int
  side : Int
  c : Cmd
def fallI (p : Pr) (n : Int) : Pr := if n = 0 then fallP p false else if n = 1 then fallP p true else p
def riseI (p : Pr) (n : Int) : Pr := if n = 0 then riseP p false else if n = 1 then riseP p true else p
def fallIK (p : Pr) (n : Int) : Nat := if n = 0 then fallK p false else if n = 1 then fallK p true else 1
def riseIK (p : Pr) (n : Int) : Nat := if n = 0 then riseK p false else if n = 1 then riseK p true else 1
def actP (p : Pr) (a : Act) : Pr := if a.kind = 0 then askP p a.term a.c else if a.kind = 1 then shipP p a.term else if a.kind = 2 then fallI p a.side else riseI p a.side
def actN (p : Pr) (a : Act) : Int := if a.kind = 0 then askN p a.term else 0
def actK (p : Pr) (a : Act) : Nat := if a.kind = 0 then askK p a.term else if a.kind = 1 then shipK p a.term else if a.kind = 2 then fallIK p a.side else riseIK p a.side
theorem act_step (N : Nat) (p : Pr) (a : Act) (h : PrInv N p) : PrInv (N + 1) (actP p a) ∧ PrStep p (actP p a) := by
  unfold actP
  split
  · exact ask_step N p _ _ h
  · split
    · exact ship_step N p _ h
    · split
      · unfold fallI
        split
        · exact fall_step N p _ h
        · split
          · exact fall_step N p _ h
          · exact ⟨h.mono (by omega), PrStep.refl _⟩
      · unfold riseI
        split
        · exact rise_step N p _ h
        · split
          · exact rise_step N p _ h
          · exact ⟨h.mono (by omega), PrStep.refl _⟩
theorem askK_le (p : Pr) (t : Int) : askK p t ≤ 17 := by unfold askK; repeat (first | omega | split)
theorem shipK_le (p : Pr) (t : Int) : shipK p t ≤ 17 := by unfold shipK; repeat (first | omega | split)
theorem fallIK_le (p : Pr) (t : Int) : fallIK p t ≤ 17 := by unfold fallIK fallK; repeat (first | omega | split)
theorem riseIK_le (p : Pr) (t : Int) : riseIK p t ≤ 17 := by unfold riseIK riseK; repeat (first | omega | split)
theorem fall_int (base bp : Nat) (va vb : Value) (p : Pr) (n : Int) (w : World) (h : PairAt w base bp va vb p) (hN : p.L.log.length ≤ 100000) (hN2 : p.F.log.length ≤ 100000) (ht0 : 0 ≤ p.term) (ht1 : p.term ≤ 1000000) :
    Calls Try.prog 33 #[.pointer (some ⟨bp, 0, none⟩), .int .i64 n] w fun e w' => e = .returned (errV (fallIK p n)) ∧ PairTo w base bp va vb (fallI p n) w' := by
  unfold fallIK fallI
  by_cases h0 : n = 0
  · subst h0; exact fall_any base bp va vb p false w h hN hN2 ht0 ht1
  · by_cases h1 : n = 1
    · subst h1; exact fall_any base bp va vb p true w h hN hN2 ht0 ht1
    · rw [if_neg h0, if_neg h1, if_neg h0, if_neg h1]
      refine (fall_bad bp n (by omega) w).mono ?_
      rintro e w' ⟨he, rfl⟩
      exact ⟨he, PairTo.same h (Below.refl _ _)⟩
theorem rise_int (base bp : Nat) (va vb : Value) (p : Pr) (n : Int) (w : World) (h : PairAt w base bp va vb p) (hN : p.L.log.length ≤ 100000) (hup : p.L.up = false → p.F.up = false) (ht0 : 0 ≤ p.term) (ht1 : p.term ≤ 1000000) :
    Calls Try.prog 34 #[.pointer (some ⟨bp, 0, none⟩), .int .i64 n] w fun e w' => e = .returned (errV (riseIK p n)) ∧ PairTo w base bp va vb (riseI p n) w' := by
  unfold riseIK riseI
  by_cases h0 : n = 0
  · subst h0; exact rise_any base bp va vb p false w h hN hup ht0 ht1
  · by_cases h1 : n = 1
    · subst h1; exact rise_any base bp va vb p true w h hN hup ht0 ht1
    · rw [if_neg h0, if_neg h1, if_neg h0, if_neg h1]
      refine (rise_bad bp n (by omega) w).mono ?_
      rintro e w' ⟨he, rfl⟩
      exact ⟨he, PairTo.same h (Below.refl _ _)⟩
theorem PairTo.later {w w1 w2 : World} {base bp : Nat} {va vb : Value} {p : Pr} (h : PairTo w base bp va vb p w1) (hb : Below w1.heap.size w1 w2) : PairTo w base bp va vb p w2 := by
  obtain ⟨va', vb', h1, h2, h3⟩ := h
  exact ⟨va', vb', h1.below hb, h2, h3.trans (Keeps.of_below (F := Foot bp va vb) hb (fun _ hk _ => hk)) (fun _ _ h => h)⟩
theorem PairTo.ahead {w0 w w1 : World} {base bp : Nat} {va vb : Value} {p : Pr} (hb : Below w0.heap.size w0 w) (h : PairTo w base bp va vb p w1) : PairTo w0 base bp va vb p w1 := by
  obtain ⟨va', vb', h1, h2, h3⟩ := h
  refine ⟨va', vb', h1, fun g hg => ?_, (Keeps.of_below (F := Foot bp va vb) hb (fun _ hk _ => hk)).trans h3 (fun _ _ h => h)⟩
  rcases h2 g hg with h | h
  · exact .inl h
  · exact .inr (Nat.le_trans hb.size h)
set_option maxRecDepth 100000 in
set_option maxHeartbeats 4000000 in
theorem act_any (N base bp : Nat) (va vb : Value) (p : Pr) (a : Act) (w : World) (h : PairAt w base bp va vb p) (hi : PrInv N p) (hN : N ≤ 10000) :
    Calls Try.prog 27 #[.pointer (some ⟨bp, 0, none⟩), .agg #[.int .i64 a.kind, .int .i64 a.term, .int .i64 a.side, .int .i64 a.c.kind, .int .i64 a.c.vol, .int .i64 a.c.epoch, .int .i64 a.c.spot, .int .i64 a.c.node, .int .i64 a.c.n0, .int .i64 a.c.n1, .int .i64 a.c.n2]] w
      fun e w' => e = .returned (.tuple #[.int .i64 (actN p a), .int .i64 (actK p a)]) ∧ PairTo w base bp va vb (actP p a) w' := by
  have H := Lib.hid h
  have h1 := hi.la
  have h2 := hi.lb
  have h3 := hi.t1
  have h4 := hi.t2
  have HI := Lib.hid hi
  clear h hi
  obtain ⟨k, t, s, c⟩ := a
  by_cases hk0 : k = 0
  · subst hk0
    have HN := Lib.hid (show actN p ⟨0, t, s, c⟩ = askN p t by simp [actN])
    have HK := Lib.hid (show actK p ⟨0, t, s, c⟩ = askK p t by simp [actK])
    have HP := Lib.hid (show actP p ⟨0, t, s, c⟩ = askP p t c by simp [actP])
    have hle := askK_le p t
    obtain ⟨ck, cv, ce, cp, cn, c0, c1, c2⟩ := c
    go_enter Try.func27, Try.ntmps27
    go_wp2_with fail
    refine (ask_any base bp va vb p t ⟨ck, cv, ce, cp, cn, c0, c1, c2⟩ _ (H.out.below (by repeat (first | (with_reducible exact Below.refl _ _) | (with_reducible refine Below.setCell ?_ ?_ _) | (with_reducible refine Below.alloc ?_ ?_ _) | (with_reducible refine Below.drewN ?_ _) | (with_reducible refine Below.drew ?_) | (with_reducible exact Nat.le_refl _) | (focus (simp only [World.size_alloc, World.size_setCell, World.size_drew, World.size_drewN]; omega)) | omega | exact Nat.le_refl _ | (focus (simp; done)) | (focus (simp; omega))))) (by omega)).mono ?_
    rintro e w1 ⟨rfl, hp⟩
    have HPT := Lib.hid (PairTo.ahead (w0 := w) (by repeat (first | (with_reducible exact Below.refl _ _) | (with_reducible refine Below.setCell ?_ ?_ _) | (with_reducible refine Below.alloc ?_ ?_ _) | (with_reducible refine Below.drewN ?_ _) | (with_reducible refine Below.drew ?_) | (with_reducible exact Nat.le_refl _) | (focus (simp only [World.size_alloc, World.size_setCell, World.size_drew, World.size_drewN]; omega)) | omega | exact Nat.le_refl _ | (focus (simp; done)) | (focus (simp; omega)))) hp)
    clear hp
    go_wp2_with fail
    refine (code_any _ (by omega) (by omega) _).mono ?_
    rintro e w2 ⟨rfl, rfl⟩
    go_wp2_with fail
    go_ret2
    exact ⟨by rw [HN.out, HK.out]; rfl, by rw [HP.out]; exact HPT.out⟩
  by_cases hk1 : k = 1
  · subst hk1
    have HN := Lib.hid (show actN p ⟨1, t, s, c⟩ = 0 by simp [actN])
    have HK := Lib.hid (show actK p ⟨1, t, s, c⟩ = shipK p t by simp [actK])
    have HP := Lib.hid (show actP p ⟨1, t, s, c⟩ = shipP p t by simp [actP])
    have hle := shipK_le p t
    clear hk0
    obtain ⟨ck, cv, ce, cp, cn, c0, c1, c2⟩ := c
    go_enter Try.func27, Try.ntmps27
    go_wp2_with fail
    refine (ship_any base bp va vb p t _ (H.out.below (by repeat (first | (with_reducible exact Below.refl _ _) | (with_reducible refine Below.setCell ?_ ?_ _) | (with_reducible refine Below.alloc ?_ ?_ _) | (with_reducible refine Below.drewN ?_ _) | (with_reducible refine Below.drew ?_) | (with_reducible exact Nat.le_refl _) | (focus (simp only [World.size_alloc, World.size_setCell, World.size_drew, World.size_drewN]; omega)) | omega | exact Nat.le_refl _ | (focus (simp; done)) | (focus (simp; omega))))) (by omega) (fun hu => (HI.out.pre hu).length_le)).mono ?_
    rintro e w1 ⟨rfl, hp⟩
    have HPT := Lib.hid (PairTo.ahead (w0 := w) (by repeat (first | (with_reducible exact Below.refl _ _) | (with_reducible refine Below.setCell ?_ ?_ _) | (with_reducible refine Below.alloc ?_ ?_ _) | (with_reducible refine Below.drewN ?_ _) | (with_reducible refine Below.drew ?_) | (with_reducible exact Nat.le_refl _) | (focus (simp only [World.size_alloc, World.size_setCell, World.size_drew, World.size_drewN]; omega)) | omega | exact Nat.le_refl _ | (focus (simp; done)) | (focus (simp; omega)))) hp)
    clear hp
    go_wp2_with fail
    refine (code_any _ (by omega) (by omega) _).mono ?_
    rintro e w2 ⟨rfl, rfl⟩
    go_wp2_with fail
    go_ret2
    exact ⟨by rw [HN.out, HK.out]; rfl, by rw [HP.out]; exact HPT.out⟩
  by_cases hk2 : k = 2
  · subst hk2
    have HN := Lib.hid (show actN p ⟨2, t, s, c⟩ = 0 by simp [actN])
    have HK := Lib.hid (show actK p ⟨2, t, s, c⟩ = fallIK p s by simp [actK])
    have HP := Lib.hid (show actP p ⟨2, t, s, c⟩ = fallI p s by simp [actP])
    have hle := fallIK_le p s
    clear hk0 hk1
    obtain ⟨ck, cv, ce, cp, cn, c0, c1, c2⟩ := c
    go_enter Try.func27, Try.ntmps27
    go_wp2_with fail
    refine (fall_int base bp va vb p s _ (H.out.below (by repeat (first | (with_reducible exact Below.refl _ _) | (with_reducible refine Below.setCell ?_ ?_ _) | (with_reducible refine Below.alloc ?_ ?_ _) | (with_reducible refine Below.drewN ?_ _) | (with_reducible refine Below.drew ?_) | (with_reducible exact Nat.le_refl _) | (focus (simp only [World.size_alloc, World.size_setCell, World.size_drew, World.size_drewN]; omega)) | omega | exact Nat.le_refl _ | (focus (simp; done)) | (focus (simp; omega))))) (by omega) (by omega) (by omega) (by omega)).mono ?_
    rintro e w1 ⟨rfl, hp⟩
    have HPT := Lib.hid (PairTo.ahead (w0 := w) (by repeat (first | (with_reducible exact Below.refl _ _) | (with_reducible refine Below.setCell ?_ ?_ _) | (with_reducible refine Below.alloc ?_ ?_ _) | (with_reducible refine Below.drewN ?_ _) | (with_reducible refine Below.drew ?_) | (with_reducible exact Nat.le_refl _) | (focus (simp only [World.size_alloc, World.size_setCell, World.size_drew, World.size_drewN]; omega)) | omega | exact Nat.le_refl _ | (focus (simp; done)) | (focus (simp; omega)))) hp)
    clear hp
    go_wp2_with fail
    refine (code_any _ (by omega) (by omega) _).mono ?_
    rintro e w2 ⟨rfl, rfl⟩
    go_wp2_with fail
    go_ret2
    exact ⟨by rw [HN.out, HK.out]; rfl, by rw [HP.out]; exact HPT.out⟩
  · have HN := Lib.hid (show actN p ⟨k, t, s, c⟩ = 0 by simp [actN, hk0])
    have HK := Lib.hid (show actK p ⟨k, t, s, c⟩ = riseIK p s by simp [actK, hk0, hk1, hk2])
    have HP := Lib.hid (show actP p ⟨k, t, s, c⟩ = riseI p s by simp [actP, hk0, hk1, hk2])
    have hle := riseIK_le p s
    have b0 : (k == 0) = false := beq_eq_false_iff_ne.2 hk0
    have b1 : (k == 1) = false := beq_eq_false_iff_ne.2 hk1
    have b2 : (k == 2) = false := beq_eq_false_iff_ne.2 hk2
    clear hk0 hk1 hk2
    obtain ⟨ck, cv, ce, cp, cn, c0, c1, c2⟩ := c
    go_enter Try.func27, Try.ntmps27
    go_wp2_with fail
    refine (rise_int base bp va vb p s _ (H.out.below (by repeat (first | (with_reducible exact Below.refl _ _) | (with_reducible refine Below.setCell ?_ ?_ _) | (with_reducible refine Below.alloc ?_ ?_ _) | (with_reducible refine Below.drewN ?_ _) | (with_reducible refine Below.drew ?_) | (with_reducible exact Nat.le_refl _) | (focus (simp only [World.size_alloc, World.size_setCell, World.size_drew, World.size_drewN]; omega)) | omega | exact Nat.le_refl _ | (focus (simp; done)) | (focus (simp; omega))))) (by omega) HI.out.up (by omega) (by omega)).mono ?_
    rintro e w1 ⟨rfl, hp⟩
    have HPT := Lib.hid (PairTo.ahead (w0 := w) (by repeat (first | (with_reducible exact Below.refl _ _) | (with_reducible refine Below.setCell ?_ ?_ _) | (with_reducible refine Below.alloc ?_ ?_ _) | (with_reducible refine Below.drewN ?_ _) | (with_reducible refine Below.drew ?_) | (with_reducible exact Nat.le_refl _) | (focus (simp only [World.size_alloc, World.size_setCell, World.size_drew, World.size_drewN]; omega)) | omega | exact Nat.le_refl _ | (focus (simp; done)) | (focus (simp; omega)))) hp)
    clear hp
    go_wp2_with fail
    refine (code_any _ (by omega) (by omega) _).mono ?_
    rintro e w2 ⟨rfl, rfl⟩
    go_wp2_with fail
    go_ret2
    exact ⟨by rw [HN.out, HK.out]; rfl, by rw [HP.out]; exact HPT.out⟩
/-- Whatever lies below a pair's own blocks lies as it lay. -/
theorem PairTo.under {w0 w w1 : World} {base bp : Nat} {va vb : Value} {p q : Pr} (h : PairTo w base bp va vb q w1) (hp : PairAt w base bp va vb p) (hB : w0.heap.size ≤ base) (hb : Below w0.heap.size w0 w) : Below w0.heap.size w0 w1 := by
  obtain ⟨_, _, _, _, h3⟩ := h
  exact h3.of_low hb (fun k hk => Nat.le_trans hB (hp.foot k hk).1)
set_option maxRecDepth 100000 in
set_option maxHeartbeats 4000000 in
theorem alive20 (w : World) : Calls Try.prog 24 #[] w fun e w' => e = .returned (.bool true) ∧ Below w.heap.size w w' := by
  have p1 : askP Pr.new 1 ⟨1, 0, 0, 0, 0, 1, 2, 3⟩ = ⟨⟨true, [⟨1, 0, 0, 0, 0, 1, 2, 3⟩]⟩, ⟨true, []⟩, false, 1, 0⟩ := by simp [askP, askK, Pr.new]
  have p2 : shipP ⟨⟨true, [⟨1, 0, 0, 0, 0, 1, 2, 3⟩]⟩, ⟨true, []⟩, false, 1, 0⟩ 1 = ⟨⟨true, [⟨1, 0, 0, 0, 0, 1, 2, 3⟩]⟩, ⟨true, [⟨1, 0, 0, 0, 0, 1, 2, 3⟩]⟩, false, 1, 1⟩ := by simp [shipP, shipK]; decide
  have p3 : askP ⟨⟨true, [⟨1, 0, 0, 0, 0, 1, 2, 3⟩]⟩, ⟨true, [⟨1, 0, 0, 0, 0, 1, 2, 3⟩]⟩, false, 1, 1⟩ 2 ⟨0, 0, 0, 0, 0, 0, 0, 0⟩ = ⟨⟨true, [⟨1, 0, 0, 0, 0, 1, 2, 3⟩]⟩, ⟨true, [⟨1, 0, 0, 0, 0, 1, 2, 3⟩]⟩, false, 1, 1⟩ := by simp [askP, askK]
  have P1 := Lib.hid p1
  have P2 := Lib.hid p2
  have P3 := Lib.hid p3
  clear p1 p2 p3
  go_enter Try.func24, Try.ntmps24
  go_wp2_with fail
  refine (twin_new _).mono ?_
  rintro e w1 ⟨rfl, hm1, hb1⟩
  have HM1 := Lib.hid hm1
  have HB1 := Lib.hid hb1
  clear hm1 hb1
  go_wp2_with fail
  refine (ask_any _ _ _ _ Pr.new 1 ⟨1, 0, 0, 0, 0, 1, 2, 3⟩ _ HM1.out (by simp [Pr.new])).mono ?_
  rintro e w2 ⟨rfl, hp⟩
  rw [P1.out] at hp
  have HB2 := Lib.hid (hp.under (w0 := w) HM1.out (Nat.le_refl _) HB1.out)
  obtain ⟨va2, vb2, hm2, _, _⟩ := hp
  have HM2 := Lib.hid hm2
  clear hm2
  rw [show askN Pr.new 1 = 0 from rfl, show ((askK Pr.new 1 : Nat) : Int) = 0 from rfl]
  go_wp2_with fail
  refine (settled_any _ _ _ _ _ _ HM2.out).mono ?_
  rintro e w3 ⟨rfl, rfl⟩
  go_wp2_with fail
  refine (ship_any _ _ _ _ _ 1 _ HM2.out (by simp) (fun _ => by simp)).mono ?_
  rintro e w4 ⟨rfl, hp⟩
  rw [P2.out] at hp
  have HB4 := Lib.hid (hp.under (w0 := w) HM2.out (Nat.le_refl _) HB2.out)
  obtain ⟨va4, vb4, hm4, _, _⟩ := hp
  have HM4 := Lib.hid hm4
  clear hm4
  rw [show ((shipK ⟨⟨true, [⟨1, 0, 0, 0, 0, 1, 2, 3⟩]⟩, ⟨true, []⟩, false, 1, 0⟩ 1 : Nat) : Int) = 0 from rfl]
  go_wp2_with fail
  refine (ask_any _ _ _ _ _ 2 ⟨0, 0, 0, 0, 0, 0, 0, 0⟩ _ HM4.out (by simp)).mono ?_
  rintro e w5 ⟨rfl, hp⟩
  rw [P3.out] at hp
  have HB5 := Lib.hid (hp.under (w0 := w) HM4.out (Nat.le_refl _) HB4.out)
  obtain ⟨va5, vb5, hm5, _, _⟩ := hp
  have HM5 := Lib.hid hm5
  clear hm5
  rw [show ((askK ⟨⟨true, [⟨1, 0, 0, 0, 0, 1, 2, 3⟩]⟩, ⟨true, [⟨1, 0, 0, 0, 0, 1, 2, 3⟩]⟩, false, 1, 1⟩ 2 : Nat) : Int) = 13 from rfl]
  go_wp2_with fail
  refine (code_any 0 (by omega) (by omega) _).mono ?_
  rintro e w6 ⟨rfl, rfl⟩
  go_wp2_with fail
  refine (code_any 0 (by omega) (by omega) _).mono ?_
  rintro e w6 ⟨rfl, rfl⟩
  go_wp2_with fail
  refine (settled_any _ _ _ _ _ _ HM5.out).mono ?_
  rintro e w7 ⟨rfl, rfl⟩
  go_wp2_with fail
  refine (code_any 13 (by omega) (by omega) _).mono ?_
  rintro e w6 ⟨rfl, rfl⟩
  go_wp2_with fail
  go_ret
  exact ⟨rfl, HB5.out⟩
end Go.Proofs.Ytigkcbnlbdiimaa

/- An argument that is a slice of acts: its cells. -/
namespace Go.Proofs.Ytigkcbnlbdiimaa
open Go.RowKit Go.ChangeShapes Go.WideShapes Go.Deep
def Act.row (a : Act) : List Value := [.int .i64 a.kind, .int .i64 a.term, .int .i64 a.side] ++ a.c.row
theorem Act.row_len (a : Act) : a.row.length = 11 := rfl
section
variable {H : Type} {enc : TypeId × Value → H} {w : World} {base : Nat} {spare : Nat → Bool} {held : Bool}
set_option maxRecDepth 100000 in
theorem act_of {fuel : Nat} {cs : List Value} {x : DataW H × List MemPlace} (h : DataW.trod enc Try.prog w base spare held fuel 55 cs = some x) : ∃ a : Act, cs = a.row := by
  obtain ⟨xs, n, _, _, hlen, hxl, hf⟩ := DataW.trod_struct Try.underlying55 h
  have hC : Try.prog.cellsOf 55 = 11 := by kernel_rfl
  have hI : Try.prog.cellsOf 3 = 1 := by kernel_rfl
  have hA : Try.prog.cellsOf 35 = 8 := by kernel_rfl
  rw [hC] at hlen
  match cs, hlen with
  | [c0, c1, c2, c3, c4, c5, c6, c7, c8, c9, c10], _ =>
    have e0 := hf 0 _ rfl
    have e1 := hf 1 _ rfl
    have e2 := hf 2 _ rfl
    have e3 := hf 3 _ rfl
    simp [hI, hA] at e0 e1 e2 e3
    match xs, hxl with
    | [x0, x1, x2, x3], _ =>
      simp at e0 e1 e2 e3
      obtain ⟨a0, rfl⟩ := int_of e0 rfl (rfl : 0 = 0)
      obtain ⟨a1, rfl⟩ := int_of e1 rfl (rfl : 0 = 0)
      obtain ⟨a2, rfl⟩ := int_of e2 rfl (rfl : 0 = 0)
      obtain ⟨c, hc⟩ := cmd_of e3
      exact ⟨⟨a0, a1, a2, c⟩, by rw [hc]; rfl⟩
/-- The cells of a row of acts that came in. -/
def ActsAt (w : World) (b off : Nat) (l : List Act) : Prop := ∀ (i : Nat) (a : Act), l[i]? = some a →
  w.cell? ⟨b, off + i * 11, none⟩ = some (.int .i64 a.kind) ∧ w.cell? ⟨b, off + i * 11 + 1, none⟩ = some (.int .i64 a.term) ∧ w.cell? ⟨b, off + i * 11 + 2, none⟩ = some (.int .i64 a.side) ∧
  w.cell? ⟨b, off + i * 11 + 3, none⟩ = some (.int .i64 a.c.kind) ∧ w.cell? ⟨b, off + i * 11 + 4, none⟩ = some (.int .i64 a.c.vol) ∧ w.cell? ⟨b, off + i * 11 + 5, none⟩ = some (.int .i64 a.c.epoch) ∧
  w.cell? ⟨b, off + i * 11 + 6, none⟩ = some (.int .i64 a.c.spot) ∧ w.cell? ⟨b, off + i * 11 + 7, none⟩ = some (.int .i64 a.c.node) ∧ w.cell? ⟨b, off + i * 11 + 8, none⟩ = some (.int .i64 a.c.n0) ∧
  w.cell? ⟨b, off + i * 11 + 9, none⟩ = some (.int .i64 a.c.n1) ∧ w.cell? ⟨b, off + i * 11 + 10, none⟩ = some (.int .i64 a.c.n2)
/-- The argument. -/
theorem open_acts {a : Option Addr} {len cap : Nat} {d : DataW H} {p : List MemPlace} (h : DataW.Trod enc Try.prog w base spare held 51 (.slice a len cap) d p) :
    ∃ l : List Act, l.length = len ∧ (0 < len → ∃ b off, a = some ⟨b, off, none⟩ ∧ b < w.heap.size ∧ ActsAt w b off l) := by
  obtain ⟨fuel, hf⟩ := h
  rcases open_slice Try.underlying51 hf with ⟨hcs, _⟩ | ⟨x, l, c, m, n, D, Pl, hcs, _, hl, hm, hmm, _, hi⟩
  · simp [Value.cells] at hcs
    obtain ⟨rfl, rfl, rfl⟩ := hcs
    exact ⟨[], rfl, fun h => absurd h (Nat.lt_irrefl 0)⟩
  · simp [Value.cells] at hcs
    obtain ⟨rfl, rfl, rfl⟩ := hcs
    have hml : len ≤ m := by rw [hmm]; split <;> omega
    have hC : Try.prog.cellsOf 55 = 11 := by kernel_rfl
    rw [hC] at hi
    have hone : ∀ i, i < len → ∃ c : Act, ∀ j u, c.row[j]? = some u → w.cell? (x.add (i * 11 + j)) = some u := by
      intro i hil
      obtain ⟨cs', hc, ht⟩ := hi i (by omega)
      obtain ⟨c, rfl⟩ := act_of ht
      obtain ⟨_, _, hat⟩ := World.cells?_some hc
      refine ⟨c, fun j u hu => ?_⟩
      have hj : j < 11 := (List.getElem?_eq_some_iff.1 hu).1
      rw [← add_add, hat j hj, hu]
    have : Inhabited Act := ⟨⟨0, 0, 0, ⟨0, 0, 0, 0, 0, 0, 0, 0⟩⟩⟩
    obtain ⟨f, hfn⟩ := choose_lt hone
    refine ⟨(List.range len).map f, by simp, fun h0 => ?_⟩
    have hc0 := hfn 0 h0 0 _ rfl
    simp [Addr.add] at hc0
    have hx : x = ⟨x.block, x.off, none⟩ := spot_none hc0
    refine ⟨x.block, x.off, by rw [← hx], World.block_lt_of_cell? w x hc0, fun i c hc => ?_⟩
    rw [List.getElem?_map] at hc
    cases hr : (List.range len)[i]? with
    | none => rw [hr] at hc; cases hc
    | some i' =>
      have hi' : i' = i ∧ i < len := by
        obtain ⟨h1, h2⟩ := List.getElem?_eq_some_iff.1 hr
        simp at h1 h2
        exact ⟨h2.symm, h1⟩
      rw [hr] at hc
      simp at hc
      have key : ∀ j u, c.row[j]? = some u → w.cell? ⟨x.block, x.off + i * 11 + j, none⟩ = some u := fun j u hu => by
        rw [← hc, hi'.1] at hu
        have h3 := hfn i hi'.2 j u hu
        rw [hx] at h3
        have h4 : (⟨x.block, x.off, none⟩ : Addr).add (i * 11 + j) = ⟨x.block, x.off + i * 11 + j, none⟩ := by
          unfold Addr.add
          split
          · rename_i hz; rw [Nat.add_assoc, hz]; rfl
          · rw [Nat.add_assoc]
        rwa [h4] at h3
      exact ⟨key 0 _ rfl, key 1 _ rfl, key 2 _ rfl, key 3 _ rfl, key 4 _ rfl, key 5 _ rfl, key 6 _ rfl, key 7 _ rfl, key 8 _ rfl, key 9 _ rfl, key 10 _ rfl⟩
end
end Go.Proofs.Ytigkcbnlbdiimaa

/- TwinShips: the calls at a pair that is kept somewhere, and the plain law. -/
namespace Go.Proofs.Ytigkcbnlbdiimaa
open Go.RowKit
/-- A pair at bp, somewhere above w0, and w0 as it was. -/
def PS (w0 w : World) (bp : Nat) (p : Pr) : Prop := ∃ va vb, PairAt w w0.heap.size bp va vb p ∧ Below w0.heap.size w0 w
theorem PS.later {w0 w w' : World} {bp : Nat} {p : Pr} (h : PS w0 w bp p) (hb : Below w.heap.size w w') : PS w0 w' bp p := by
  obtain ⟨va, vb, h1, h2⟩ := h
  exact ⟨va, vb, h1.below hb, h2.trans (hb.mono h2.size)⟩
theorem PS.to {w0 w w' : World} {bp : Nat} {va vb : Value} {p q : Pr} (h : PairAt w w0.heap.size bp va vb p) (hb : Below w0.heap.size w0 w) (hp : PairTo w w0.heap.size bp va vb q w') : PS w0 w' bp q := by
  have hu := hp.under h (Nat.le_refl _) hb
  obtain ⟨va', vb', h1, _, _⟩ := hp
  exact ⟨va', vb', h1, hu⟩
theorem PS.size {w0 w : World} {bp : Nat} {p : Pr} (h : PS w0 w bp p) : w0.heap.size ≤ w.heap.size := by
  obtain ⟨_, _, _, h⟩ := h
  exact h.size
theorem PS.below {w0 w : World} {bp : Nat} {p : Pr} (h : PS w0 w bp p) : Below w0.heap.size w0 w := by
  obtain ⟨_, _, _, h⟩ := h
  exact h
theorem PS.lt {w0 w : World} {bp : Nat} {p : Pr} (h : PS w0 w bp p) : bp < w.heap.size := by
  obtain ⟨_, _, h, _⟩ := h
  exact h.lt
theorem lead_ps (w0 : World) (bp : Nat) (p : Pr) (w : World) (h : PS w0 w bp p) :
    Calls Try.prog 26 #[.pointer (some ⟨bp, 0, none⟩)] w fun e w' => e = .returned (.tuple #[.int .i64 p.ld, .int .i64 p.term]) ∧ w.drew = w' := by
  obtain ⟨va, vb, h1, _⟩ := h
  exact lead_any _ _ va vb p w h1
theorem settled_ps (w0 : World) (bp : Nat) (p : Pr) (w : World) (h : PS w0 w bp p) :
    Calls Try.prog 28 #[.pointer (some ⟨bp, 0, none⟩)] w fun e w' => e = .returned (.int .i64 p.settled) ∧ w = w' := by
  obtain ⟨va, vb, h1, _⟩ := h
  exact settled_any _ _ va vb p w h1
theorem logs_ps (w0 : World) (bp : Nat) (p : Pr) (w : World) (h : PS w0 w bp p) :
    Calls Try.prog 31 #[.pointer (some ⟨bp, 0, none⟩)] w fun e w' => e = .returned (.tuple #[.int .i64 p.a.log.length, .int .i64 p.b.log.length]) ∧ w.drew = w' := by
  obtain ⟨va, vb, h1, _⟩ := h
  exact logs_any _ _ va vb p w h1
theorem act_ps (w0 : World) (N bp : Nat) (p : Pr) (a : Act) (w : World) (h : PS w0 w bp p) (hi : PrInv N p) (hN : N ≤ 10000) :
    Calls Try.prog 27 #[.pointer (some ⟨bp, 0, none⟩), .agg #[.int .i64 a.kind, .int .i64 a.term, .int .i64 a.side, .int .i64 a.c.kind, .int .i64 a.c.vol, .int .i64 a.c.epoch, .int .i64 a.c.spot, .int .i64 a.c.node, .int .i64 a.c.n0, .int .i64 a.c.n1, .int .i64 a.c.n2]] w
      fun e w' => e = .returned (.tuple #[.int .i64 (actN p a), .int .i64 (actK p a)]) ∧ PS w0 w' bp (actP p a) := by
  obtain ⟨va, vb, h1, h2⟩ := h
  exact (act_any N _ bp va vb p a w h1 hi hN).mono fun e w' ⟨he, hp⟩ => ⟨he, PS.to h1 h2 hp⟩
theorem ship_ps (w0 : World) (N bp : Nat) (p : Pr) (t : Int) (w : World) (h : PS w0 w bp p) (hi : PrInv N p) (hN : N ≤ 10000) :
    Calls Try.prog 32 #[.pointer (some ⟨bp, 0, none⟩), .int .i64 t] w
      fun e w' => e = .returned (errV (shipK p t)) ∧ PS w0 w' bp (shipP p t) := by
  obtain ⟨va, vb, h1, h2⟩ := h
  have hla := hi.la
  exact (ship_any _ bp va vb p t w h1 (by omega) (fun hu => (hi.pre hu).length_le)).mono fun e w' ⟨he, hp⟩ => ⟨he, PS.to h1 h2 hp⟩
theorem rise_ps (w0 : World) (N bp : Nat) (p : Pr) (t : Int) (w : World) (h : PS w0 w bp p) (hi : PrInv N p) (hN : N ≤ 10000) :
    Calls Try.prog 34 #[.pointer (some ⟨bp, 0, none⟩), .int .i64 t] w
      fun e w' => e = .returned (errV (riseIK p t)) ∧ PS w0 w' bp (riseI p t) := by
  obtain ⟨va, vb, h1, h2⟩ := h
  have h3 := hi.la
  have h4 := hi.t1
  have h5 := hi.t2
  exact (rise_int _ bp va vb p t w h1 (by omega) hi.up (by omega) (by omega)).mono fun e w' ⟨he, hp⟩ => ⟨he, PS.to h1 h2 hp⟩
theorem map_0 (w0 : World) (bp : Nat) (p : Pr) (w : World) (h : PS w0 w bp p) (hN : p.a.log.length ≤ 100000) :
    Calls Try.prog 35 #[.pointer (some ⟨bp, 0, none⟩), .int .i64 0] w fun e w' => e = .returned (.pointer (some ⟨w.heap.size, 0, none⟩)) ∧ (∃ v, MapAt w' w.heap.size w.heap.size v (doAll [] p.a.log)) ∧ Below w.heap.size w w' := by
  obtain ⟨va, vb, h1, _⟩ := h
  exact map_any _ _ va vb p false w h1 hN
theorem map_1 (w0 : World) (bp : Nat) (p : Pr) (w : World) (h : PS w0 w bp p) (hN : p.b.log.length ≤ 100000) :
    Calls Try.prog 35 #[.pointer (some ⟨bp, 0, none⟩), .int .i64 1] w fun e w' => e = .returned (.pointer (some ⟨w.heap.size, 0, none⟩)) ∧ (∃ v, MapAt w' w.heap.size w.heap.size v (doAll [] p.b.log)) ∧ Below w.heap.size w w' := by
  obtain ⟨va, vb, h1, _⟩ := h
  exact map_any _ _ va vb p true w h1 hN
theorem riseI_step (N : Nat) (p : Pr) (n : Int) (h : PrInv N p) : PrInv (N + 1) (riseI p n) := by
  unfold riseI
  split
  · exact (rise_step N p _ h).1
  · split
    · exact (rise_step N p _ h).1
    · exact h.mono (by omega)
theorem both_up (N : Nat) (p : Pr) (h : PrInv N p) : (riseI (riseI p p.ld) (1 - p.ld)).L.up = true ∧ (riseI (riseI p p.ld) (1 - p.ld)).F.up = true := by
  have hup := h.up
  obtain ⟨⟨ua, la⟩, ⟨ub, lb⟩, ld, tm, st⟩ := p
  clear h
  cases ld <;> cases ua <;> cases ub <;> simp_all [riseI, riseP, Pr.ld]
theorem ship_six (p : Pr) (ha : p.L.up = true) (hb : p.F.up = true) : shipK p p.term = if p.F.log.length = p.L.log.length then 6 else 0 := by
  simp [shipK, ha, hb]
theorem ship_one (N : Nat) (p : Pr) (h : PrInv N p) (ha : p.L.up = true) (hb : p.F.up = true) (hne : p.F.log.length ≠ p.L.log.length) :
    (shipP p p.term).L = p.L ∧ (shipP p p.term).F.up = true ∧ (shipP p p.term).F.log.length = p.F.log.length + 1 := by
  have hle := (h.pre hb).length_le
  have hk : shipK p p.term = 0 := by rw [ship_six p ha hb, if_neg hne]
  have hc : p.L.log[p.F.log.length]? = some (p.L.log[p.F.log.length]'(by omega)) := List.getElem?_eq_getElem _
  unfold shipP
  rw [if_pos hk, hc]
  exact ⟨rfl, hb, by simp⟩
theorem ship_none (p : Pr) (ha : p.L.up = true) (hb : p.F.up = true) (he : p.F.log.length = p.L.log.length) : shipP p p.term = p := by
  have hk : shipK p p.term = 6 := by rw [ship_six p ha hb, if_pos he]
  unfold shipP
  rw [hk]; rfl
/-- When there is nothing left to ship, both sides have the same. -/
theorem all_shipped (N : Nat) (p : Pr) (h : PrInv N p) (hb : p.F.up = true) (he : p.F.log.length = p.L.log.length) :
    p.b.log = p.a.log ∧ p.settled = p.a.log.length ∧ p.a.log.length ≤ N := by
  have hpre := h.pre hb
  have hse := h.se
  have hla := h.la
  have heq : p.F.log = p.L.log := hpre.eq_of_length he
  rw [if_pos hb] at hse
  unfold Pr.a Pr.b
  cases p.lead <;> simp [hse, heq] <;> omega
theorem bytes_log (log : List Cmd) (base bm : Nat) (v : Value) (w : World) (h : MapAt w base bm v (doAll [] log)) (hl : log.length ≤ 100000) :
    Calls Try.prog 21 #[.pointer (some ⟨bm, 0, none⟩)] w
      fun e w' => ∃ v', e = .returned v' ∧ Reads w' 1 v' (mapBytes (doAll [] log)).length ((mapBytes (doAll [] log)).map bv) ∧ Below w.heap.size w w' := by
  have hg := good_all log 1 [] (fun i x hx => by simp at hx) (by omega) (by omega)
  refine (bytes_any base bm v _ _ w h hg (by omega)).mono ?_
  rintro e w' ⟨v', he, ho, hb⟩
  exact ⟨v', he, reads_of_owns ho, hb⟩
end Go.Proofs.Ytigkcbnlbdiimaa

/- corncribref19: near, Do where nothing changes. -/
namespace Go.Proofs.Ytigkcbnlbdiimaa
open Go.RowKit
set_option maxHeartbeats 400000 in
theorem near_any (n : Int) (w : World) :
    Calls Try.prog 69 #[.int .i64 n] w fun e w' => e = .returned (.bool (placeB n)) ∧ w = w' := by
  by_cases h : 0 ≤ n
  · go_enter Try.func69, Try.ntmps69
    go_wp2
    go_ret
    exact ⟨by simp [placeB, h]; omega, rfl⟩
  · go_enter Try.func69, Try.ntmps69
    go_wp2
    go_ret
    exact ⟨by simp [placeB]; omega, rfl⟩
/-- What the document's Do gives: the entries, the number, the error. -/
def RefOut (w : World) (base : Nat) (es : List Ent) (n k : Int) (e : Ending) (w' : World) : Prop :=
  ∃ v', e = .returned (.tuple #[v', .int .i64 n, .int .i64 k]) ∧ w'.ownsRow base 128 6 v' es.length (es.flatMap Ent.row) ∧ Below w.heap.size w w'
theorem RefOut.same {w w' : World} {base : Nat} {v : Value} {es : List Ent} {n k : Int} (h : w.ownsRow base 128 6 v es.length (es.flatMap Ent.row)) (hb : Below w.heap.size w w') :
    RefOut w base es n k (.returned (.tuple #[v, .int .i64 n, .int .i64 k])) w' := ⟨v, rfl, ownsRow_below h hb, hb⟩
set_option maxRecDepth 100000 in
set_option maxHeartbeats 1000000 in
theorem ref_wild (base : Nat) (v : Value) (es : List Ent) (c : Cmd) (w : World) (h : w.ownsRow base 128 6 v es.length (es.flatMap Ent.row)) (hk : c.kind < 1 ∨ 4 < c.kind) :
    Calls Try.prog 39 #[v, .agg #[.int .i64 c.kind, .int .i64 c.vol, .int .i64 c.epoch, .int .i64 c.spot, .int .i64 c.node, .int .i64 c.n0, .int .i64 c.n1, .int .i64 c.n2]] w
      (RefOut w base es 0 1) := by
  have H := Lib.hid h
  obtain ⟨a, cap, rfl⟩ := ownsRow_len h
  clear h
  obtain ⟨k, cv, ce, cs, cn, c0, c1, c2⟩ := c
  have hk' : k < 1 ∨ 4 < k := hk
  clear hk
  by_cases h1 : k < 1
  · clear hk'
    go_enter Try.func39, Try.ntmps39
    go_wp2_with fail
    go_ret3
    exact RefOut.same H.out (by repeat (first | (with_reducible exact Below.refl _ _) | (with_reducible refine Below.setCell ?_ ?_ _) | (with_reducible refine Below.alloc ?_ ?_ _) | (with_reducible refine Below.drewN ?_ _) | (with_reducible refine Below.drew ?_) | (with_reducible exact Nat.le_refl _) | (focus (simp only [World.size_alloc, World.size_setCell, World.size_drew, World.size_drewN]; omega)) | omega | exact Nat.le_refl _ | (focus (simp; done)) | (focus (simp; omega))))
  · have h4 : 4 < k := by omega
    have h1' : decide (k < 1) = false := by simpa using h1
    clear hk' h1
    go_enter Try.func39, Try.ntmps39
    go_wp2_with fail
    go_ret3
    exact RefOut.same H.out (by repeat (first | (with_reducible exact Below.refl _ _) | (with_reducible refine Below.setCell ?_ ?_ _) | (with_reducible refine Below.alloc ?_ ?_ _) | (with_reducible refine Below.drewN ?_ _) | (with_reducible refine Below.drew ?_) | (with_reducible exact Nat.le_refl _) | (focus (simp only [World.size_alloc, World.size_setCell, World.size_drew, World.size_drewN]; omega)) | omega | exact Nat.le_refl _ | (focus (simp; done)) | (focus (simp; omega))))
theorem three_ways {a b c : Int} (h : threeB a b c = false) :
    placeB a = false ∨ (placeB a = true ∧ placeB b = false) ∨ (placeB a = true ∧ placeB b = true ∧ placeB c = false) ∨ (placeB a = true ∧ placeB b = true ∧ placeB c = true ∧ (a == b) = true) ∨
    (placeB a = true ∧ placeB b = true ∧ placeB c = true ∧ (a == b) = false ∧ (a == c) = true) ∨ (placeB a = true ∧ placeB b = true ∧ placeB c = true ∧ (a == b) = false ∧ (a == c) = false ∧ (b == c) = true) := by
  cases ha : placeB a <;> cases hb : placeB b <;> cases hc : placeB c <;> cases h1 : (a == b) <;> cases h2 : (a == c) <;> cases h3 : (b == c) <;> simp_all [threeB]
theorem three_yes {a b c : Int} (h : threeB a b c = true) : placeB a = true ∧ placeB b = true ∧ placeB c = true ∧ (a == b) = false ∧ (a == c) = false ∧ (b == c) = false := by
  cases ha : placeB a <;> cases hb : placeB b <;> cases hc : placeB c <;> cases h1 : (a == b) <;> cases h2 : (a == c) <;> cases h3 : (b == c) <;> simp_all [threeB]
set_option maxRecDepth 100000 in
set_option maxHeartbeats 2000000 in
theorem ref_arg (base : Nat) (v : Value) (es : List Ent) (c : Cmd) (w : World) (h : w.ownsRow base 128 6 v es.length (es.flatMap Ent.row)) (hk : c.kind = 1) (ht : threeB c.n0 c.n1 c.n2 = false) :
    Calls Try.prog 39 #[v, .agg #[.int .i64 c.kind, .int .i64 c.vol, .int .i64 c.epoch, .int .i64 c.spot, .int .i64 c.node, .int .i64 c.n0, .int .i64 c.n1, .int .i64 c.n2]] w
      (RefOut w base es 0 1) := by
  have H := Lib.hid h
  obtain ⟨a, cap, rfl⟩ := ownsRow_len h
  clear h
  obtain ⟨k, cv, ce, cs, cn, c0, c1, c2⟩ := c
  have hk' : k = 1 := hk
  subst hk'
  clear hk
  have hnear := near_any
  have hw := three_ways ht
  clear ht
  have ht := hw
  clear hw
  simp only at ht
  rcases ht with ha | ⟨ha, hb⟩ | ⟨ha, hb, hc⟩ | ⟨ha, hb, hc, h1⟩ | ⟨ha, hb, hc, h1, h2⟩ | ⟨ha, hb, hc, h1, h2, h3⟩
  all_goals
    go_enter Try.func39, Try.ntmps39
    go_wp2_with fail
    refine wp_region_now0 [2, 5, 8] [(0, 0), (1, 0), (2, 2), (3, 0), (4, 0), (5, 2), (6, 0), (7, 0), (8, 2), (9, 0), (10, 0), (11, 0)] (by kernel_rfl) (by kernel_rfl) rfl (by kernel_rfl) ?_
    refine stepE0 rfl rfl (fun K hK => ?_)
    go_simp
    refine hK _ ?_
    clear hK K
    refine stepE0 rfl rfl (fun K hK => ?_)
    go_simp
    refine hK _ ?_
    clear hK K
    refine stepE2 rfl rfl ?_ (fun w1 hS => ?_) (fun K hK => ?_)
    rotate_left
    focus (obtain rfl : w1 = _ := hS; go_simp; rfl)
    go_simp
    refine hK _ ?_
    clear hK K
    refine stepE0 rfl rfl (fun K hK => ?_)
    go_simp
    refine hK _ ?_
    clear hK K
    refine stepE0 rfl rfl (fun K hK => ?_)
    go_simp
    refine hK _ ?_
    clear hK K
    refine stepE2 rfl rfl ?_ (fun w1 hS => ?_) (fun K hK => ?_)
    rotate_left
    focus (obtain rfl : w1 = _ := hS; go_simp; rfl)
    go_simp
    refine hK _ ?_
    clear hK K
    refine stepE0 rfl rfl (fun K hK => ?_)
    go_simp
    refine hK _ ?_
    clear hK K
    refine stepE0 rfl rfl (fun K hK => ?_)
    go_simp
    refine hK _ ?_
    clear hK K
    refine stepE2 rfl rfl ?_ (fun w1 hS => ?_) (fun K hK => ?_)
    rotate_left
    focus (obtain rfl : w1 = _ := hS; go_simp; rfl)
    go_simp
    refine hK _ ?_
    clear hK K
    refine stepE0 rfl rfl (fun K hK => ?_)
    go_simp
    refine hK _ ?_
    clear hK K
    refine stepE0 rfl rfl (fun K hK => ?_)
    go_simp
    refine hK _ ?_
    clear hK K
    refine stepE0 rfl rfl (fun K hK => ?_)
    go_simp
    refine hK _ ?_
    clear hK K
    try refine stepEnil0 ?_
    go_wp2_with (go_at_call 69; refine (near_any _ _).mono ?_; rintro e w' ⟨rfl, rfl⟩; simp only [ha, *])
    go_ret3
    exact RefOut.same H.out (by repeat (first | (with_reducible exact Below.refl _ _) | (with_reducible refine Below.setCell ?_ ?_ _) | (with_reducible refine Below.alloc ?_ ?_ _) | (with_reducible refine Below.drewN ?_ _) | (with_reducible refine Below.drew ?_) | (with_reducible exact Nat.le_refl _) | (focus (simp only [World.size_alloc, World.size_setCell, World.size_drew, World.size_drewN]; omega)) | omega | exact Nat.le_refl _ | (focus (simp; done)) | (focus (simp; omega))))
end Go.Proofs.Ytigkcbnlbdiimaa

/- append(own.., read..): where the source may be nil. -/
namespace Go.Proofs.Ytigkcbnlbdiimaa
open Go.RowKit
variable {P : Program} (w : World)
theorem wp_append_reads {o : Oper} {a : Go.Act} {K : Go.Act → World → Prop} {Q : Exit → Go.Act → World → Prop} (s x : Operand) (t : TypeId)
    (ho : o.op = .call { callee := .builtin .append, args := #[s, x], argTypes := #[t, t] })
    (base : Nat) (e : TypeId) (i : TypeInfo) (z : Value) (size bytes : Nat) (ht : P.underlying t = some (.slice e)) (hi : P.info? e = some i) (hz : i.zero = some z)
    (hsize : i.size = size) (hby : i.bytes = bytes) (hzs : z.cells.size = size) (hsz : 0 < size)
    (v : Value) (n : Nat) (xs : List Value) (hs : a.eval s = v) (hown : w.ownsRow base e size v n xs)
    (vx : Value) (m : Nat) (news : List Value) (hx : a.eval x = vx) (hr : Reads w size vx m news) (h1 : ∀ u ∈ news, u.oneCell' = true)
    (h63 : n + m ≤ maxLen) (hbytes : (n + m) * bytes ≤ 140737488355328) (hbase : base ≤ w.heap.size)
    (h : ∀ v' w', w'.ownsRow base e size v' (n + m) (xs ++ news) → w.grownBy w' v.ownBlock → (v'.ownBlock = v.ownBlock ∨ v'.ownBlock = some w.heap.size) → K (a.put o.dst v') w') : o.wp P a w K Q := by
  obtain ⟨hl, ⟨rfl, rfl⟩ | ⟨ad, c, rfl, _, hnews⟩⟩ := hr
  · have hn : news = [] := List.eq_nil_of_length_eq_zero (by simpa using hl)
    subst hn
    have hrun := run_append_owned_none (P := P) (w := w) base t o.type e i size ht hi v n xs hown
    unfold Oper.wp execOp
    simp only [ho, resolve, invoke, builtin, Sem.run_bind, Sem.run_pure, Result.andThen_ok, List.map_toArray, List.map_cons, List.map_nil, hs, hx, hrun]
    exact h v w (by simpa using hown) ⟨rfl, rfl, rfl, Nat.le_refl _, fun _ _ _ => rfl⟩ (.inl rfl)
  · obtain ⟨v', w', hr, h2, h3, _, h5⟩ := run_append_own_at (P := P) w base t o.type e i z size bytes ht hi hz hsize hby hzs hsz v n xs hown ad m c news hl hnews h1 h63 hbytes hbase
    unfold Oper.wp execOp
    simp only [ho, resolve, invoke, builtin, Sem.run_bind, Sem.run_pure, Result.andThen_ok, List.map_toArray, List.map_cons, List.map_nil, hs, hx, hr]
    exact h v' w' h2 h3 h5
theorem wpList_append_reads {ops : Array Oper} {rest : List Oper} {o : Oper} {a : Go.Act} {Q : Exit → Go.Act → World → Prop} (hgd : o.guard = none) (s x : Operand) (t : TypeId)
    (ho : o.op = .call { callee := .builtin .append, args := #[s, x], argTypes := #[t, t] })
    (base : Nat) (e : TypeId) (i : TypeInfo) (z : Value) (size bytes : Nat) (ht : P.underlying t = some (.slice e)) (hi : P.info? e = some i) (hz : i.zero = some z)
    (hsize : i.size = size) (hby : i.bytes = bytes) (hzs : z.cells.size = size) (hsz : 0 < size)
    (v : Value) (n : Nat) (xs : List Value) (hs : a.eval s = v) (hown : w.ownsRow base e size v n xs)
    (vx : Value) (m : Nat) (news : List Value) (hx : a.eval x = vx) (hr : Reads w size vx m news) (h1 : ∀ u ∈ news, u.oneCell' = true)
    (h63 : n + m ≤ maxLen) (hbytes : (n + m) * bytes ≤ 140737488355328) (hbase : base ≤ w.heap.size)
    (h : ∀ v' w', w'.ownsRow base e size v' (n + m) (xs ++ news) → w.grownBy w' v.ownBlock → (v'.ownBlock = v.ownBlock ∨ v'.ownBlock = some w.heap.size) → wpList P ops Q rest (a.put o.dst v') w') : wpList P ops Q (o :: rest) a w :=
  wpList_plain hgd fun _ hK => wp_append_reads w s x t ho base e i z size bytes ht hi hz hsize hby hzs hsz v n xs hs hown vx m news hx hr h1 h63 hbytes hbase fun v' w' h2 h3 h4 => hK _ _ (h v' w' h2 h3 h4)
end Go.Proofs.Ytigkcbnlbdiimaa
