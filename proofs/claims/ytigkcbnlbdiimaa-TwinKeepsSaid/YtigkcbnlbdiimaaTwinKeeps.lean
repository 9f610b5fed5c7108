/- TwinKeeps: what the loop holds. -/
import Derived.Test.YtigkcbnlbdiimaaOpenAct
namespace Go.Proofs.Ytigkcbnlbdiimaa
open Go.RowKit
structure TK (w0 w : World) (bp : Nat) (va vb : Value) (p : Pr) (vn ve : Value) (ns es : List Int) : Prop where
  pr : PairAt w w0.heap.size bp va vb p
  rn : w.ownsRow w0.heap.size 3 1 vn ns.length (ns.map (Value.int .i64))
  re : w.ownsRow w0.heap.size 3 1 ve es.length (es.map (Value.int .i64))
  dn : ∀ g, vn.ownBlock = some g → ¬ Foot bp va vb g
  de : ∀ g, ve.ownBlock = some g → ¬ Foot bp va vb g
  ne : ∀ g, vn.ownBlock = some g → ve.ownBlock ≠ some g
  bel : Below w0.heap.size w0 w
theorem TK.later {w0 w w' : World} {bp : Nat} {va vb vn ve : Value} {p : Pr} {ns es : List Int} (h : TK w0 w bp va vb p vn ve ns es) (hb : Below w.heap.size w w') : TK w0 w' bp va vb p vn ve ns es :=
  ⟨h.pr.below hb, ownsRow_below h.rn hb, ownsRow_below h.re hb, h.dn, h.de, h.ne, h.bel.trans (hb.mono h.bel.size)⟩
theorem TK.pair {w0 w w' : World} {bp : Nat} {va vb vn ve : Value} {p q : Pr} {ns es : List Int} (h : TK w0 w bp va vb p vn ve ns es) (hp : PairTo w w0.heap.size bp va vb q w') :
    ∃ va' vb', TK w0 w' bp va' vb' q vn ve ns es := by
  have hu := hp.under h.pr (Nat.le_refl _) h.bel
  obtain ⟨va', vb', h1, h2, h3⟩ := hp
  have key : ∀ g, g < w.heap.size → ¬ Foot bp va vb g → ¬ Foot bp va' vb' g := fun g hg hn hf => by
    rcases h2 g hf with h | h
    · exact hn h
    · omega
  exact ⟨va', vb', h1, ownsRow_keeps h.rn h3 h.dn, ownsRow_keeps h.re h3 h.de, fun g hg => key g (h.rn.lt g hg).2 (h.dn g hg), fun g hg => key g (h.re.lt g hg).2 (h.de g hg), h.ne, hu⟩
theorem TK.num {w0 w w' : World} {bp g c : Nat} {va vb vn ve : Value} {p : Pr} {ns es : List Int} {x : Int} {o : Obj} (h : TK w0 w bp va vb p vn ve ns es) (hg : (w.alloc o).grownBy w' vn.ownBlock)
    (hown : w'.ownsRow w0.heap.size 3 1 (.slice (some ⟨g, 0, none⟩) (ns.length + 1) c) (ns.length + 1) (ns.map (Value.int .i64) ++ [.int .i64 x])) (hat : vn.ownBlock = some g ∨ g = w.heap.size + 1) :
    TK w0 w' bp va vb p (.slice (some ⟨g, 0, none⟩) (ns.length + 1) c) ve (ns ++ [x]) es := by
  have hk : Keeps (fun k => vn.ownBlock = some k) w w' := ((Keeps.refl _ w).alloc o).grown hg (fun k e _ => e)
  have hne : ∀ k, k < w.heap.size → vn.ownBlock ≠ some k → g ≠ k := fun k hk hn e => by
    rcases hat with h | h
    · exact hn (by rw [h, e])
    · omega
  refine ⟨h.pr.keeps hk (fun k hf e => h.dn k e hf), ownsRow_cast hown (by simp) (by simp), ownsRow_keeps h.re hk (fun k e e' => h.ne k e' e), ?_, h.de, ?_, ?_⟩
  · intro k e hf
    have e' : g = k := by simpa [Value.ownBlock] using e
    exact hne k (h.pr.foot k hf).2 (fun e2 => h.dn k e2 hf) e'
  · intro k e e2
    have e' : g = k := by simpa [Value.ownBlock] using e
    exact hne k (h.re.lt k e2).2 (fun e3 => h.ne k e3 e2) e'
  · exact hk.of_low h.bel (fun k e => (h.rn.lt k e).1)
theorem TK.err {w0 w w' : World} {bp g c : Nat} {va vb vn ve : Value} {p : Pr} {ns es : List Int} {x : Int} {o : Obj} (h : TK w0 w bp va vb p vn ve ns es) (hg : (w.alloc o).grownBy w' ve.ownBlock)
    (hown : w'.ownsRow w0.heap.size 3 1 (.slice (some ⟨g, 0, none⟩) (es.length + 1) c) (es.length + 1) (es.map (Value.int .i64) ++ [.int .i64 x])) (hat : ve.ownBlock = some g ∨ g = w.heap.size + 1) :
    TK w0 w' bp va vb p vn (.slice (some ⟨g, 0, none⟩) (es.length + 1) c) ns (es ++ [x]) := by
  have hk : Keeps (fun k => ve.ownBlock = some k) w w' := ((Keeps.refl _ w).alloc o).grown hg (fun k e _ => e)
  have hne : ∀ k, k < w.heap.size → ve.ownBlock ≠ some k → g ≠ k := fun k hk hn e => by
    rcases hat with h | h
    · exact hn (by rw [h, e])
    · omega
  refine ⟨h.pr.keeps hk (fun k hf e => h.de k e hf), ownsRow_keeps h.rn hk (fun k e e' => h.ne k e e'), ownsRow_cast hown (by simp) (by simp), h.dn, ?_, ?_, ?_⟩
  · intro k e hf
    have e' : g = k := by simpa [Value.ownBlock] using e
    exact hne k (h.pr.foot k hf).2 (fun e2 => h.de k e2 hf) e'
  · intro k e e2
    have e' : g = k := by simpa [Value.ownBlock] using e2
    exact hne k (h.rn.lt k e).2 (fun e3 => h.ne k e e3) e'
  · exact hk.of_low h.bel (fun k e => (h.re.lt k e).1)
theorem TK.num' {w0 w w' : World} {bp g c n : Nat} {va vb vn ve : Value} {p : Pr} {ns es : List Int} {x : Int} {o : Obj} (h : TK w0 w bp va vb p vn ve ns es) (hn : n = ns.length) (hg : (w.alloc o).grownBy w' vn.ownBlock)
    (hown : w'.ownsRow w0.heap.size 3 1 (.slice (some ⟨g, 0, none⟩) (n + 1) c) (n + 1) (ns.map (Value.int .i64) ++ [.int .i64 x])) (hat : vn.ownBlock = some g ∨ g = w.heap.size + 1) :
    TK w0 w' bp va vb p (.slice (some ⟨g, 0, none⟩) (n + 1) c) ve (ns ++ [x]) es := by
  subst hn; exact h.num hg hown hat
theorem TK.err' {w0 w w' : World} {bp g c n : Nat} {va vb vn ve : Value} {p : Pr} {ns es : List Int} {x : Int} {o : Obj} (h : TK w0 w bp va vb p vn ve ns es) (hn : n = es.length) (hg : (w.alloc o).grownBy w' ve.ownBlock)
    (hown : w'.ownsRow w0.heap.size 3 1 (.slice (some ⟨g, 0, none⟩) (n + 1) c) (n + 1) (es.map (Value.int .i64) ++ [.int .i64 x])) (hat : ve.ownBlock = some g ∨ g = w.heap.size + 1) :
    TK w0 w' bp va vb p vn (.slice (some ⟨g, 0, none⟩) (n + 1) c) ns (es ++ [x]) := by
  subst hn; exact h.err hg hown hat
/-- One number of an owned row. -/
theorem row_int {w : World} {base : Nat} {v : Value} {n : Nat} {ns : List Int} (hr : w.ownsRow base 3 1 v n (ns.map (Value.int .i64))) (j : Nat) (x : Int) (hx : ns[j]? = some x) :
    ∃ g c, v = .slice (some ⟨g, 0, none⟩) n c ∧ g < w.heap.size ∧ w.cell? ⟨g, j, none⟩ = some (.int .i64 x) := by
  have hj : j < ns.length := (List.getElem?_eq_some_iff.1 hx).1
  have hl := hr.1
  simp at hl
  have hlt := hr.lt
  rcases hr.2 with ⟨_, hz⟩ | ⟨g, cap, cur, rfl, _⟩
  · omega
  · refine ⟨g, cap, rfl, (hlt g rfl).2, ?_⟩
    rw [hr.cellAt j (by omega), List.getElem?_map, hx]
    rfl
def nsOf (l : List Cmd) (m : Nat) : List Int := (List.range m).map (ansN l)
def esOf (l : List Cmd) (m : Nat) : List Int := (List.range m).map (fun j => (ansK l j : Int))
theorem nsOf_len (l : List Cmd) (m : Nat) : (nsOf l m).length = m := by simp [nsOf]
theorem esOf_len (l : List Cmd) (m : Nat) : (esOf l m).length = m := by simp [esOf]
theorem nsOf_succ (l : List Cmd) (m : Nat) : nsOf l (m + 1) = nsOf l m ++ [ansN l m] := by simp [nsOf, List.range_succ]
theorem esOf_succ (l : List Cmd) (m : Nat) : esOf l (m + 1) = esOf l m ++ [(ansK l m : Int)] := by simp [esOf, List.range_succ]
theorem nsOf_at (l : List Cmd) (m j : Nat) (h : j < m) : (nsOf l m)[j]? = some (ansN l j) := by simp [nsOf, h]
theorem esOf_at (l : List Cmd) (m j : Nat) (h : j < m) : (esOf l m)[j]? = some (ansK l j : Int) := by simp [esOf, h]
theorem take_get {α : Type} {l m : List α} {n : Nat} (h : l.take n = m.take n) (j : Nat) (hj : j < n) : l[j]? = m[j]? ∧ l.take j = m.take j := by
  constructor
  · have := congrArg (fun x => x[j]?) h
    simpa [List.getElem?_take, hj] using this
  · have := congrArg (fun x => x.take j) h
    simpa [List.take_take, Nat.min_eq_left (Nat.le_of_lt hj)] using this
theorem nsOf_same {l m : List Cmd} {n : Nat} (h : l.take n = m.take n) : nsOf l n = nsOf m n := by
  unfold nsOf
  refine List.map_congr_left fun j hj => ?_
  obtain ⟨h1, h2⟩ := take_get h j (by simpa using hj)
  simp [ansN, h1, h2]
theorem esOf_same {l m : List Cmd} {n : Nat} (h : l.take n = m.take n) : esOf l n = esOf m n := by
  unfold esOf
  refine List.map_congr_left fun j hj => ?_
  obtain ⟨h1, h2⟩ := take_get h j (by simpa using hj)
  simp [ansK, h1, h2]
end Go.Proofs.Ytigkcbnlbdiimaa
