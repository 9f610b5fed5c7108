/- Package twin: a pair in memory; who leads, who follows, how much is settled. -/
import Derived.Test.YtigkcbnlbdiimaaDirsParts2
namespace Go.Proofs.Ytigkcbnlbdiimaa
open Go.RowKit
structure Side where
  up : Bool
  log : List Cmd
/-- Two directories: L leads, F follows; 'lead' is true where side 1 leads. -/
structure Pr where
  L : Side
  F : Side
  lead : Bool
  term : Int
  settled : Int
def Pr.a (p : Pr) : Side := if p.lead then p.F else p.L
def Pr.b (p : Pr) : Side := if p.lead then p.L else p.F
def Pr.ld (p : Pr) : Int := if p.lead then 1 else 0
def Pr.cells (p : Pr) (va vb : Value) : Array Value := #[.bool p.a.up, va, .bool p.b.up, vb, .int .i64 p.ld, .int .i64 p.term, .int .i64 p.settled]
structure PairAt (w : World) (base bp : Nat) (va vb : Value) (p : Pr) : Prop where
  blk : w.heap[bp]? = some (.cells (p.cells va vb) 119 (0, 0))
  ra : w.ownsRow base 32 8 va p.a.log.length (p.a.log.flatMap Cmd.row)
  rb : w.ownsRow base 32 8 vb p.b.log.length (p.b.log.flatMap Cmd.row)
  low : base ≤ bp
  na : va.ownBlock ≠ some bp
  nb : vb.ownBlock ≠ some bp
  ap : ∀ g, va.ownBlock = some g → vb.ownBlock ≠ some g
/-- The blocks of a pair. -/
def Foot (bp : Nat) (va vb : Value) (k : Nat) : Prop := k = bp ∨ va.ownBlock = some k ∨ vb.ownBlock = some k
theorem PairAt.lt {w : World} {base bp : Nat} {va vb : Value} {p : Pr} (h : PairAt w base bp va vb p) : bp < w.heap.size := (Array.getElem?_eq_some_iff.1 h.blk).1
theorem PairAt.foot {w : World} {base bp : Nat} {va vb : Value} {p : Pr} (h : PairAt w base bp va vb p) (k : Nat) (hk : Foot bp va vb k) : base ≤ k ∧ k < w.heap.size := by
  rcases hk with rfl | hk | hk
  · exact ⟨h.low, h.lt⟩
  · exact h.ra.lt k hk
  · exact h.rb.lt k hk
theorem PairAt.keeps {w w' : World} {base bp : Nat} {va vb : Value} {p : Pr} {F : Nat → Prop} (h : PairAt w base bp va vb p) (hk : Keeps F w w') (hF : ∀ k, Foot bp va vb k → ¬ F k) : PairAt w' base bp va vb p :=
  ⟨by rw [hk.block bp h.lt (hF bp (.inl rfl))]; exact h.blk, ownsRow_keeps h.ra hk (fun k e => hF k (.inr (.inl e))), ownsRow_keeps h.rb hk (fun k e => hF k (.inr (.inr e))), h.low, h.na, h.nb, h.ap⟩
theorem PairAt.below {w w' : World} {base bp : Nat} {va vb : Value} {p : Pr} (h : PairAt w base bp va vb p) (hb : Below w.heap.size w w') : PairAt w' base bp va vb p :=
  h.keeps (F := fun _ => False) (Keeps.of_below hb fun k hk _ => hk) (fun _ _ h => h)
theorem PairAt.cell {w : World} {base bp : Nat} {va vb : Value} {p : Pr} (h : PairAt w base bp va vb p) :
    w.cell? ⟨bp, 0, none⟩ = some (.bool p.a.up) ∧ w.cell? ⟨bp, 1, none⟩ = some va ∧ w.cell? ⟨bp, 2, none⟩ = some (.bool p.b.up) ∧ w.cell? ⟨bp, 3, none⟩ = some vb ∧
      w.cell? ⟨bp, 4, none⟩ = some (.int .i64 p.ld) ∧ w.cell? ⟨bp, 5, none⟩ = some (.int .i64 p.term) ∧ w.cell? ⟨bp, 6, none⟩ = some (.int .i64 p.settled) ∧ (∀ o, w.frozen? ⟨bp, o, none⟩ = false) := by
  have e := fun j => cell_of_row w bp j _ _ _ h.blk
  exact ⟨e 0, e 1, e 2, e 3, e 4, e 5, e 6, fun o => frozen_of_row w bp o _ _ h.blk⟩
/-- What becomes of a pair's block while its own fields are written. -/
structure Pst (F : Nat → Prop) (w0 w : World) (bp : Nat) (cs : Array Value) : Prop where
  keep : Keeps F w0 w
  blk : w.heap[bp]? = some (.cells cs 119 (0, 0))
theorem Pst.refl {F : Nat → Prop} {w : World} {bp : Nat} {cs : Array Value} (h : w.heap[bp]? = some (.cells cs 119 (0, 0))) : Pst F w w bp cs := ⟨Keeps.refl _ _, h⟩
theorem Pst.lt {F : Nat → Prop} {w0 w : World} {bp : Nat} {cs : Array Value} (h : Pst F w0 w bp cs) : bp < w.heap.size := (Array.getElem?_eq_some_iff.1 h.blk).1
theorem Pst.cast {F : Nat → Prop} {w0 w : World} {bp : Nat} {cs cs' : Array Value} (h : Pst F w0 w bp cs) (e : cs = cs') : Pst F w0 w bp cs' := e ▸ h
theorem Pst.drew {F : Nat → Prop} {w0 w : World} {bp : Nat} {cs : Array Value} (h : Pst F w0 w bp cs) : Pst F w0 w.drew bp cs := ⟨h.keep.drew, h.blk⟩
theorem Pst.drewN {F : Nat → Prop} {w0 w : World} {bp : Nat} {cs : Array Value} (h : Pst F w0 w bp cs) (n : Nat) : Pst F w0 (w.drewN n) bp cs := ⟨h.keep.drewN n, h.blk⟩
theorem Pst.alloc {F : Nat → Prop} {w0 w : World} {bp : Nat} {cs : Array Value} (h : Pst F w0 w bp cs) (o : Obj) : Pst F w0 (w.alloc o) bp cs := ⟨h.keep.alloc o, (Below.heap_alloc _ _ _ h.lt).trans h.blk⟩
theorem Pst.setCell {F : Nat → Prop} {w0 w : World} {bp i : Nat} {v : Value} {cs : Array Value} (h : Pst F w0 w bp cs) (hF : F bp) : Pst F w0 (w.setCell ⟨bp, i, none⟩ v) bp (cs.setIfInBounds i v) :=
  ⟨h.keep.setCell _ _ (fun _ => hF), heap_setCell_same w bp i _ _ _ h.blk⟩
theorem Pst.grown {F : Nat → Prop} {w0 w w' : World} {bp : Nat} {cs : Array Value} {row : Option Nat} (h : Pst F w0 w bp cs) (hg : w.grownBy w' row) (hr : ∀ k, row = some k → F k) (hne : row ≠ some bp) : Pst F w0 w' bp cs :=
  ⟨h.keep.grown hg (fun k e _ => hr k e), (hg.block bp h.lt (fun e => hne e.symm)).trans h.blk⟩
theorem Pst.below {F : Nat → Prop} {w0 w w' : World} {bp : Nat} {cs : Array Value} (h : Pst F w0 w bp cs) (hb : Below w.heap.size w w') : Pst F w0 w' bp cs :=
  ⟨h.keep.trans (Keeps.of_below (F := F) hb (fun _ hk _ => hk)) (fun _ _ h => h), (hb.block bp h.lt).trans h.blk⟩
/-- What a call leaves of a pair. -/
def PairTo (w : World) (base bp : Nat) (va vb : Value) (p' : Pr) (w' : World) : Prop :=
  ∃ va' vb', PairAt w' base bp va' vb' p' ∧ (∀ g, Foot bp va' vb' g → Foot bp va vb g ∨ w.heap.size ≤ g) ∧ Keeps (Foot bp va vb) w w'
theorem PairTo.same {w w' : World} {base bp : Nat} {va vb : Value} {p : Pr} (h : PairAt w base bp va vb p) (hb : Below w.heap.size w w') : PairTo w base bp va vb p w' :=
  ⟨va, vb, h.below hb, fun _ hg => .inl hg, Keeps.of_below hb (fun _ hk _ => hk)⟩
/-- .. where only its own numbers turned. -/
theorem PairTo.of_pst {w w' : World} {base bp : Nat} {va vb : Value} {p p' : Pr} (h : PairAt w base bp va vb p) (hp : Pst (fun k => k = bp) w w' bp (p'.cells va vb)) (ha : p'.a.log = p.a.log) (hb : p'.b.log = p.b.log) : PairTo w base bp va vb p' w' :=
  ⟨va, vb, ⟨hp.blk, by rw [ha]; exact ownsRow_keeps h.ra hp.keep (fun k e e' => h.na (by rw [e, e'])), by rw [hb]; exact ownsRow_keeps h.rb hp.keep (fun k e e' => h.nb (by rw [e, e'])), h.low, h.na, h.nb, h.ap⟩,
    fun _ hg => .inl hg, hp.keep.mono (fun _ _ e => .inl e)⟩
/-- .. where side 0's log is a new row. -/
theorem PairTo.of_a {w w1 w' : World} {base bp g n c : Nat} {va vb : Value} {p p' : Pr} (h : PairAt w base bp va vb p) (hp : Pst (fun k => k = bp ∨ va.ownBlock = some k) w w' bp (p'.cells (.slice (some ⟨g, 0, none⟩) n c) vb))
    (hr : w1.ownsRow base 32 8 (.slice (some ⟨g, 0, none⟩) n c) p'.a.log.length (p'.a.log.flatMap Cmd.row)) (hk : Keeps (fun k => k = bp) w1 w') (hat : va.ownBlock = some g ∨ w.heap.size ≤ g) (hb : p'.b.log = p.b.log) : PairTo w base bp va vb p' w' := by
  have hlt := h.lt
  have hgb : g ≠ bp := by
    rcases hat with e | e
    · intro e'; exact h.na (by rw [e, e'])
    · omega
  refine ⟨.slice (some ⟨g, 0, none⟩) n c, vb, ⟨hp.blk, ownsRow_keeps hr hk (fun k e e' => hgb ?_), ?_, h.low, fun e => hgb (by simpa [Value.ownBlock] using e), h.nb, fun k e e' => ?_⟩, ?_, hp.keep.mono (fun k _ e => by rcases e with e | e; exact .inl e; exact .inr (.inl e))⟩
  · have : g = k := by simpa [Value.ownBlock] using e
    omega
  · rw [hb]
    refine ownsRow_keeps h.rb hp.keep (fun k e e' => ?_)
    rcases e' with e' | e'
    · exact h.nb (by rw [e, e'])
    · exact h.ap k e' e
  · have e2 : g = k := by simpa [Value.ownBlock] using e
    subst e2
    rcases hat with e3 | e3
    · exact h.ap g e3 e'
    · have := (h.rb.lt g e').2; omega
  · intro k hk
    rcases hk with e | e | e
    · exact .inl (.inl e)
    · have e2 : g = k := by simpa [Value.ownBlock] using e
      subst e2
      rcases hat with e3 | e3
      · exact .inl (.inr (.inl e3))
      · exact .inr e3
    · exact .inl (.inr (.inr e))
theorem PairTo.of_b {w w1 w' : World} {base bp g n c : Nat} {va vb : Value} {p p' : Pr} (h : PairAt w base bp va vb p) (hp : Pst (fun k => k = bp ∨ vb.ownBlock = some k) w w' bp (p'.cells va (.slice (some ⟨g, 0, none⟩) n c)))
    (hr : w1.ownsRow base 32 8 (.slice (some ⟨g, 0, none⟩) n c) p'.b.log.length (p'.b.log.flatMap Cmd.row)) (hk : Keeps (fun k => k = bp) w1 w') (hat : vb.ownBlock = some g ∨ w.heap.size ≤ g) (hb : p'.a.log = p.a.log) : PairTo w base bp va vb p' w' := by
  have hlt := h.lt
  have hgb : g ≠ bp := by
    rcases hat with e | e
    · intro e'; exact h.nb (by rw [e, e'])
    · omega
  refine ⟨va, .slice (some ⟨g, 0, none⟩) n c, ⟨hp.blk, ?_, ownsRow_keeps hr hk (fun k e e' => hgb ?_), h.low, h.na, fun e => hgb (by simpa [Value.ownBlock] using e), fun k e e' => ?_⟩, ?_, hp.keep.mono (fun k _ e => by rcases e with e | e; exact .inl e; exact .inr (.inr e))⟩
  · rw [hb]
    refine ownsRow_keeps h.ra hp.keep (fun k e e' => ?_)
    rcases e' with e' | e'
    · exact h.na (by rw [e, e'])
    · exact h.ap k e e'
  · have : g = k := by simpa [Value.ownBlock] using e
    omega
  · have e2 : g = k := by simpa [Value.ownBlock] using e'
    subst e2
    rcases hat with e3 | e3
    · exact h.ap g e e3
    · have := (h.ra.lt g e).2; omega
  · intro k hk
    rcases hk with e | e | e
    · exact .inl (.inl e)
    · exact .inl (.inr (.inl e))
    · have e2 : g = k := by simpa [Value.ownBlock] using e
      subst e2
      rcases hat with e3 | e3
      · exact .inl (.inr (.inr e3))
      · exact .inr e3
theorem PairTo.trans {w w1 w2 : World} {base bp : Nat} {va vb : Value} {p1 p2 : Pr} (h : ∃ va1 vb1, PairAt w1 base bp va1 vb1 p1 ∧ (∀ g, Foot bp va1 vb1 g → Foot bp va vb g ∨ w.heap.size ≤ g) ∧ Keeps (Foot bp va vb) w w1 ∧ PairTo w1 base bp va1 vb1 p2 w2) : PairTo w base bp va vb p2 w2 := by
  obtain ⟨va1, vb1, _, h2, h3, va2, vb2, k1, k2, k3⟩ := h
  refine ⟨va2, vb2, k1, fun g hg => ?_, h3.trans k3 (fun i hi hf => ?_)⟩
  · rcases k2 g hg with h | h
    · exact h2 g h
    · exact .inr (Nat.le_trans h3.size h)
  · rcases h2 i hf with h | h
    · exact h
    · omega
set_option maxRecDepth 100000 in
set_option maxHeartbeats 1000000 in
theorem leader_0 (bp : Nat) (w : World) (k4 : w.cell? ⟨bp, 4, none⟩ = some (.int .i64 0)) :
    Calls Try.prog 61 #[.pointer (some ⟨bp, 0, none⟩)] w fun e w' => e = .returned (.pointer (some ⟨bp, 0, none⟩)) ∧ w.drew = w' := by
  have hw1 : IntKind.i64.wrap 1 = 1 := IntWalk.i64_in _ (by omega)
  have hw0 : IntKind.i64.wrap 0 = 0 := IntWalk.i64_in _ (by omega)
  go_enter Try.func61, Try.ntmps61
  go_wp2_with fail
  refine wp_region_now0 [4] [(0, 0), (1, 0), (2, 0), (3, 0), (4, 2), (5, 0), (6, 0), (7, 0), (8, 0)] (by kernel_rfl) (by kernel_rfl) rfl (by kernel_rfl) ?_
  refine stepE0 rfl rfl (fun K hK => ?_)
  go_simp
  refine hK _ ?_
  clear hK K
  refine stepE0 rfl rfl (fun K hK => ?_)
  go_simp
  refine hK _ ?_
  clear hK K
  refine stepE0 rfl rfl (fun K hK => ?_)
  go_simp
  refine hK _ ?_
  clear hK K
  refine stepE0 rfl rfl (fun K hK => ?_)
  go_simp
  refine hK _ ?_
  clear hK K
  refine stepE2 rfl rfl ?_ (fun w1 hS => ?_) (fun K hK => ?_)
  rotate_left
  focus (obtain rfl : w1 = _ := hS; go_simp; rfl)
  go_simp
  refine hK _ ?_
  clear hK K
  refine stepE0 rfl rfl (fun K hK => ?_)
  go_simp
  refine hK _ ?_
  clear hK K
  refine stepE0 rfl rfl (fun K hK => ?_)
  go_simp
  refine hK _ ?_
  clear hK K
  refine stepE0 rfl rfl (fun K hK => ?_)
  go_simp
  refine hK _ ?_
  clear hK K
  refine stepE0 rfl rfl (fun K hK => ?_)
  go_simp
  refine hK _ ?_
  clear hK K
  try refine stepEnil0 ?_
  go_wp2_with fail
  go_ret
  exact ⟨rfl, rfl⟩
set_option maxRecDepth 100000 in
set_option maxHeartbeats 1000000 in
theorem leader_1 (bp : Nat) (w : World) (k4 : w.cell? ⟨bp, 4, none⟩ = some (.int .i64 1)) :
    Calls Try.prog 61 #[.pointer (some ⟨bp, 0, none⟩)] w fun e w' => e = .returned (.pointer (some ⟨bp, 2, none⟩)) ∧ w.drew = w' := by
  have hw1 : IntKind.i64.wrap 1 = 1 := IntWalk.i64_in _ (by omega)
  have hw0 : IntKind.i64.wrap 0 = 0 := IntWalk.i64_in _ (by omega)
  go_enter Try.func61, Try.ntmps61
  go_wp2_with fail
  refine wp_region_now0 [4] [(0, 0), (1, 0), (2, 0), (3, 0), (4, 2), (5, 0), (6, 0), (7, 0), (8, 0)] (by kernel_rfl) (by kernel_rfl) rfl (by kernel_rfl) ?_
  refine stepE0 rfl rfl (fun K hK => ?_)
  go_simp
  refine hK _ ?_
  clear hK K
  refine stepE0 rfl rfl (fun K hK => ?_)
  go_simp
  refine hK _ ?_
  clear hK K
  refine stepE0 rfl rfl (fun K hK => ?_)
  go_simp
  refine hK _ ?_
  clear hK K
  refine stepE0 rfl rfl (fun K hK => ?_)
  go_simp
  refine hK _ ?_
  clear hK K
  refine stepE2 rfl rfl ?_ (fun w1 hS => ?_) (fun K hK => ?_)
  rotate_left
  focus (obtain rfl : w1 = _ := hS; go_simp; rfl)
  go_simp
  refine hK _ ?_
  clear hK K
  refine stepE0 rfl rfl (fun K hK => ?_)
  go_simp
  refine hK _ ?_
  clear hK K
  refine stepE0 rfl rfl (fun K hK => ?_)
  go_simp
  refine hK _ ?_
  clear hK K
  refine stepE0 rfl rfl (fun K hK => ?_)
  go_simp
  refine hK _ ?_
  clear hK K
  refine stepE0 rfl rfl (fun K hK => ?_)
  go_simp
  refine hK _ ?_
  clear hK K
  try refine stepEnil0 ?_
  go_wp2_with fail
  go_ret
  exact ⟨rfl, rfl⟩
theorem leader_any (base bp : Nat) (va vb : Value) (p : Pr) (w : World) (h : PairAt w base bp va vb p) :
    Calls Try.prog 61 #[.pointer (some ⟨bp, 0, none⟩)] w fun e w' => e = .returned (.pointer (some ⟨bp, if p.lead then 2 else 0, none⟩)) ∧ w.drew = w' := by
  obtain ⟨_, _, _, _, k4, _, _, _⟩ := h.cell
  unfold Pr.ld at k4
  cases hl : p.lead
  · rw [hl] at k4; exact leader_0 bp w k4
  · rw [hl] at k4; exact leader_1 bp w k4
set_option maxRecDepth 100000 in
set_option maxHeartbeats 1000000 in
theorem follower_0 (bp : Nat) (w : World) (k4 : w.cell? ⟨bp, 4, none⟩ = some (.int .i64 0)) :
    Calls Try.prog 62 #[.pointer (some ⟨bp, 0, none⟩)] w fun e w' => e = .returned (.pointer (some ⟨bp, 2, none⟩)) ∧ w.drew = w' := by
  have hw1 : IntKind.i64.wrap 1 = 1 := IntWalk.i64_in _ (by omega)
  have hw0 : IntKind.i64.wrap 0 = 0 := IntWalk.i64_in _ (by omega)
  go_enter Try.func62, Try.ntmps62
  go_wp2_with fail
  refine wp_region_now0 [4] [(0, 0), (1, 0), (2, 0), (3, 0), (4, 2), (5, 0), (6, 0), (7, 0), (8, 0), (9, 0)] (by kernel_rfl) (by kernel_rfl) rfl (by kernel_rfl) ?_
  refine stepE0 rfl rfl (fun K hK => ?_)
  go_simp
  refine hK _ ?_
  clear hK K
  refine stepE0 rfl rfl (fun K hK => ?_)
  go_simp
  refine hK _ ?_
  clear hK K
  refine stepE0 rfl rfl (fun K hK => ?_)
  go_simp
  refine hK _ ?_
  clear hK K
  refine stepE0 rfl rfl (fun K hK => ?_)
  go_simp
  refine hK _ ?_
  clear hK K
  refine stepE2 rfl rfl ?_ (fun w1 hS => ?_) (fun K hK => ?_)
  rotate_left
  focus (obtain rfl : w1 = _ := hS; go_simp; rfl)
  go_simp
  refine hK _ ?_
  clear hK K
  refine stepE0 rfl rfl (fun K hK => ?_)
  go_simp
  refine hK _ ?_
  clear hK K
  refine stepE0 rfl rfl (fun K hK => ?_)
  go_simp
  refine hK _ ?_
  clear hK K
  refine stepE0 rfl rfl (fun K hK => ?_)
  go_simp
  refine hK _ ?_
  clear hK K
  refine stepE0 rfl rfl (fun K hK => ?_)
  go_simp
  refine hK _ ?_
  clear hK K
  refine stepE0 rfl rfl (fun K hK => ?_)
  go_simp
  refine hK _ ?_
  clear hK K
  try refine stepEnil0 ?_
  go_wp2_with fail
  go_ret
  exact ⟨rfl, rfl⟩
set_option maxRecDepth 100000 in
set_option maxHeartbeats 1000000 in
theorem follower_1 (bp : Nat) (w : World) (k4 : w.cell? ⟨bp, 4, none⟩ = some (.int .i64 1)) :
    Calls Try.prog 62 #[.pointer (some ⟨bp, 0, none⟩)] w fun e w' => e = .returned (.pointer (some ⟨bp, 0, none⟩)) ∧ w.drew = w' := by
  have hw1 : IntKind.i64.wrap 1 = 1 := IntWalk.i64_in _ (by omega)
  have hw0 : IntKind.i64.wrap 0 = 0 := IntWalk.i64_in _ (by omega)
  go_enter Try.func62, Try.ntmps62
  go_wp2_with fail
  refine wp_region_now0 [4] [(0, 0), (1, 0), (2, 0), (3, 0), (4, 2), (5, 0), (6, 0), (7, 0), (8, 0), (9, 0)] (by kernel_rfl) (by kernel_rfl) rfl (by kernel_rfl) ?_
  refine stepE0 rfl rfl (fun K hK => ?_)
  go_simp
  refine hK _ ?_
  clear hK K
  refine stepE0 rfl rfl (fun K hK => ?_)
  go_simp
  refine hK _ ?_
  clear hK K
  refine stepE0 rfl rfl (fun K hK => ?_)
  go_simp
  refine hK _ ?_
  clear hK K
  refine stepE0 rfl rfl (fun K hK => ?_)
  go_simp
  refine hK _ ?_
  clear hK K
  refine stepE2 rfl rfl ?_ (fun w1 hS => ?_) (fun K hK => ?_)
  rotate_left
  focus (obtain rfl : w1 = _ := hS; go_simp; rfl)
  go_simp
  refine hK _ ?_
  clear hK K
  refine stepE0 rfl rfl (fun K hK => ?_)
  go_simp
  refine hK _ ?_
  clear hK K
  refine stepE0 rfl rfl (fun K hK => ?_)
  go_simp
  refine hK _ ?_
  clear hK K
  refine stepE0 rfl rfl (fun K hK => ?_)
  go_simp
  refine hK _ ?_
  clear hK K
  refine stepE0 rfl rfl (fun K hK => ?_)
  go_simp
  refine hK _ ?_
  clear hK K
  refine stepE0 rfl rfl (fun K hK => ?_)
  go_simp
  refine hK _ ?_
  clear hK K
  try refine stepEnil0 ?_
  go_wp2_with fail
  go_ret
  exact ⟨rfl, rfl⟩
theorem follower_any (base bp : Nat) (va vb : Value) (p : Pr) (w : World) (h : PairAt w base bp va vb p) :
    Calls Try.prog 62 #[.pointer (some ⟨bp, 0, none⟩)] w fun e w' => e = .returned (.pointer (some ⟨bp, if p.lead then 0 else 2, none⟩)) ∧ w.drew = w' := by
  obtain ⟨_, _, _, _, k4, _, _, _⟩ := h.cell
  unfold Pr.ld at k4
  cases hl : p.lead
  · rw [hl] at k4; exact follower_0 bp w k4
  · rw [hl] at k4; exact follower_1 bp w k4
set_option maxRecDepth 100000 in
set_option maxHeartbeats 1000000 in
theorem settle_any (bp : Nat) (s n : Int) (w : World) (h : w.cell? ⟨bp, 6, none⟩ = some (.int .i64 s)) (hf : w.frozen? ⟨bp, 6, none⟩ = false) :
    Calls Try.prog 63 #[.pointer (some ⟨bp, 0, none⟩), .int .i64 n] w fun e w' => e = .returned (.tuple #[]) ∧ w.setCell ⟨bp, 6, none⟩ (.int .i64 (max s n)) = w' := by
  go_enter Try.func63, Try.ntmps63
  go_wp2
  · go_end0
    exact ⟨rfl, by rw [Int.max_eq_right (by omega)]⟩
  · go_end0
    exact ⟨rfl, by rw [Int.max_eq_left (by omega)]⟩
end Go.Proofs.Ytigkcbnlbdiimaa
