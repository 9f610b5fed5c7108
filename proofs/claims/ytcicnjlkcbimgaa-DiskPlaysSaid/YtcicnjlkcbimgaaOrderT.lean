/- XOrder with a choice: where one of two effects may come up first. -/
import Derived.Test.YtcicnjlkcbimgaaOrder
namespace Go.Proofs.Ytcicnjlkcbimgaa
open Go.RowKit
inductive Plan where
  | nil
  | op (i k : Nat) (rest : Plan)
  | two (i : Nat) (pi : Plan) (j : Nat) (pj : Plan)
def Plan.len : Plan → Nat
  | .nil => 0
  | .op _ _ r => r.len + 1
  | .two _ p _ _ => p.len + 1
def okPlan (ops : Array Oper) (rds : List Nat) : Bool → Array Bool → Plan → Bool
  | _, listed, .nil => (Region.ready .any ops listed).isEmpty
  | has, listed, .op i k rest => (match ops[i]? with
    | some oi => (Region.ready .any ops listed).contains i &&
      (match k with
       | 0 => freeOf ops rds false listed i oi && okPlan ops rds has (listed.setIfInBounds i true) rest
       | 1 => (Region.ready .any ops listed == [i]) && okPlan ops rds (has && needs ops rds i) (listed.setIfInBounds i true) rest
       | _ => has && freeOf ops rds true listed i oi && okPlan ops rds has (listed.setIfInBounds i true) rest)
    | none => false)
  | has, listed, .two i pi j pj => (ops[i]?).isSome && (ops[j]?).isSome && (Region.ready .any ops listed == [i, j]) && (pi.len == pj.len) &&
      okPlan ops rds (has && needs ops rds i) (listed.setIfInBounds i true) pi && okPlan ops rds (has && needs ops rds j) (listed.setIfInBounds j true) pj
section
variable {P : Program} {ops : Array Oper} {Q : Exit → Go.Act → World → Prop} {S : World → Prop} {rds : List Nat}
def wpT (P : Program) (ops : Array Oper) (rds : List Nat) (Q : Exit → Go.Act → World → Prop) (S : World → Prop) : Plan → Go.Act → World → Prop
  | .nil, a, w => Q .normal a w
  | .op i k rest, a, w => match ops[i]? with
    | none => False
    | some oi => match k with
      | 0 => ∃ v, YieldsT P ops (fun _ => True) oi v a ∧ wpT P ops rds Q S rest (a.put oi.dst v) w
      | 1 => wpOp P ops Q i (fun a' w' => (needs ops rds i = true → S w → S w') ∧ wpT P ops rds Q S rest a' w') a w
      | _ => ∃ v, YieldsT P ops S oi v a ∧ wpT P ops rds Q S rest (a.put oi.dst v) w
  | .two i pi j pj, a, w => wpOp P ops Q i (fun a' w' => (needs ops rds i = true → S w → S w') ∧ wpT P ops rds Q S pi a' w') a w ∧
      wpOp P ops Q j (fun a' w' => (needs ops rds j = true → S w → S w') ∧ wpT P ops rds Q S pj a' w') a w
theorem wpN_of_T (hsel : ∀ (j : Nat) (o : Oper) cs b, ops[j]? = some o → o.op ≠ .select cs b) (hQ : ∀ c a d v w, Q (.panic c) (a.put d v) w → Q (.panic c) a w) :
    ∀ (l : Plan) (has : Bool) (listed : Array Bool) (a : Go.Act) (w : World), Closed ops listed → okPlan ops rds has listed l = true → (has = true → S w) →
      wpT P ops rds Q S l a w → wpAnyN P ops rds Q S l.len listed a w
  | .nil, has, listed, a, w, _, hok, _, h => ⟨by simpa [okPlan] using hok, h⟩
  | .two i pi j pj, has, listed, a, w, hcl, hok, hS, h => by
    simp only [okPlan, Bool.and_eq_true, beq_iff_eq] at hok
    obtain ⟨⟨⟨⟨⟨_, _⟩, hr⟩, hlen⟩, ho1⟩, ho2⟩ := hok
    have hri : i ∈ Region.ready .any ops listed := by rw [hr]; simp
    have hrj : j ∈ Region.ready .any ops listed := by rw [hr]; simp
    refine ⟨fun e => (by rw [e] at hr; cases hr), fun m hm => ?_⟩
    rw [hr] at hm
    rcases List.mem_cons.1 hm with hmi | hm
    · subst hmi
      refine wpOp_mono (fun a' w' h' => ⟨h'.1, wpN_of_T hsel hQ pi (has && needs ops rds m) _ a' w' (hcl.ready hri) ho1 (fun e => ?_) h'.2⟩) h.1
      simp only [Bool.and_eq_true] at e
      exact h'.1 e.2 (hS e.1)
    · have hmj : m = j := by simpa using hm
      subst hmj
      refine wpOp_mono (fun a' w' h' => ⟨h'.1, ?_⟩) h.2
      have := wpN_of_T hsel hQ pj (has && needs ops rds m) _ a' w' (hcl.ready hrj) ho2 (fun e => by
        simp only [Bool.and_eq_true] at e
        exact h'.1 e.2 (hS e.1)) h'.2
      rwa [← hlen] at this
  | .op i k rest, has, listed, a, w, hcl, hok, hS, h => by
    cases hi : ops[i]? with
    | none => simp [okPlan, hi] at hok
    | some oi =>
      simp only [okPlan, hi, Bool.and_eq_true, List.contains_iff_mem] at hok
      obtain ⟨hr, hok⟩ := hok
      simp only [wpT, hi] at h
      match k, hok, h with
      | 0, hok, h =>
        simp only [Bool.and_eq_true] at hok
        obtain ⟨v, hy, h⟩ := h
        refine wpAnyN_first (T := fun _ => True) (rd := false) hi hsel (fun c a w => hQ c a _ _ w) (fun e => by cases e) (fun e => by cases e) (fun _ _ => trivial) rest.len listed a w hcl (free_spec hok.1) hr trivial hy ?_
        exact wpN_of_T hsel hQ rest has _ _ w (hcl.ready hr) hok.2 hS h
      | 1, hok, h =>
        simp only [Bool.and_eq_true, beq_iff_eq] at hok
        refine ⟨fun e => (by rw [e] at hr; cases hr), fun j hj => ?_⟩
        rw [hok.1] at hj
        have hji : j = i := by simpa using hj
        subst hji
        refine wpOp_mono (fun a' w' h' => ⟨h'.1, wpN_of_T hsel hQ rest (has && needs ops rds j) _ a' w' (hcl.ready hr) hok.2 (fun e => ?_) h'.2⟩) h
        simp only [Bool.and_eq_true] at e
        exact h'.1 e.2 (hS e.1)
      | k + 2, hok, h =>
        simp only [Bool.and_eq_true] at hok
        obtain ⟨v, hy, h⟩ := h
        refine wpAnyN_first (T := S) (rd := true) hi hsel (fun c a w => hQ c a _ _ w) (fun _ _ h => h) (fun _ _ h => h) (fun e => by cases e) rest.len listed a w hcl (free_spec hok.1.2) hr (hS hok.1.1) hy ?_
        exact wpN_of_T hsel hQ rest has _ _ w (hcl.ready hr) hok.2 hS h
theorem wp_region_plan0 {id : Nat} {a : Go.Act} {w : World} (S : World → Prop) (rds : List Nat) (l : Plan) (hm : P.follows .mixedOrders = true) (hsel : Region.noSelect ops = true)
    (hlen : l.len = ops.size) (hok : okPlan ops rds true (Array.replicate ops.size false) l = true)
    (hS : S w.drew) (h : wpT P ops rds (onlyNormal Q) S l a w.drew) : (Code.region id ops true).wp P Q a w := by
  refine wp_mono (?_ : (Code.region id ops true).wp P (onlyNormal Q) a w) (fun e a w h => by cases e <;> first | exact h | exact False.elim h)
  refine wp_region_any hm (wpAny_of_N (rds := rds) (S := S) _ _ _ _ ?_)
  rw [← hlen]
  refine wpN_of_T (fun j o cs b => Region.noSelect_spec hsel j o cs b) (fun _ _ _ _ _ h => h) l true _ a _ ?_ (by rw [hlen]; exact hok) (fun _ => hS) h
  intro j o ho hj
  rcases Nat.lt_or_ge j l.len with h' | h'
  · simp [h'] at hj
  · have := (Array.getElem?_eq_some_iff.1 ho).1
    omega
section
variable {o : Oper} {i : Nat} {rest : Plan} {a : Go.Act} {w : World}
theorem stepTnil0 (h : Q .normal a w) : wpT P ops rds (onlyNormal Q) S .nil a w := h
theorem stepT0 (ho : ops[i]? = some o) (hw : Region.wanted o (yielded ops a.tmps) = true)
    (h : ∀ K : Go.Act → Prop, (∀ a, wpT P ops rds Q S rest a w → K a) → ∃ v, (∀ w1 : World, (execOp a.eval o).run P w1 = .ok (.value v) w1) ∧ K (a.put o.dst v)) : wpT P ops rds Q S (.op i 0 rest) a w := by
  obtain ⟨v, h1, h2⟩ := h _ (fun _ h => h)
  simp only [wpT, ho]
  exact ⟨v, .inl ⟨hw, fun w1 _ => h1 w1⟩, h2⟩
theorem stepT2 (ho : ops[i]? = some o) (hw : Region.wanted o (yielded ops a.tmps) = true) (v : Value) (h1 : ∀ w1 : World, S w1 → (execOp a.eval o).run P w1 = .ok (.value v) w1)
    (h : ∀ K : Go.Act → Prop, (∀ a, wpT P ops rds Q S rest a w → K a) → K (a.put o.dst v)) : wpT P ops rds Q S (.op i 2 rest) a w := by
  have h2 := h _ (fun _ h => h)
  simp only [wpT, ho]
  exact ⟨v, .inl ⟨hw, h1⟩, h2⟩
theorem stepT1 (ho : ops[i]? = some o) (hw : Region.wanted o (yielded ops a.tmps) = true) (hn : needs ops rds i = false)
    (h : ∀ K : Go.Act → World → Prop, (∀ a' w', wpT P ops rds Q S rest a' w' → K a' w') → o.wp P a w K Q) : wpT P ops rds Q S (.op i 1 rest) a w := by
  simp only [wpT, ho, wpOp, hw, if_true]
  exact .inl (h _ fun a' w' h => ⟨fun e => absurd e (by rw [hn]; simp), h⟩)
theorem stepT1S (ho : ops[i]? = some o) (hw : Region.wanted o (yielded ops a.tmps) = true)
    (h : ∀ K : Go.Act → World → Prop, (∀ a' w', S w' ∧ wpT P ops rds Q S rest a' w' → K a' w') → o.wp P a w K Q) : wpT P ops rds Q S (.op i 1 rest) a w := by
  simp only [wpT, ho, wpOp, hw, if_true]
  exact .inl (h _ fun a' w' h => ⟨fun _ _ => h.1, h.2⟩)
theorem stepTx0 (ho : ops[i]? = some o) (hw : Region.wanted o (yielded ops a.tmps) = false) (h : wpT P ops rds Q S rest (a.put o.dst undef) w) : wpT P ops rds Q S (.op i 0 rest) a w := by
  simp only [wpT, ho]
  exact ⟨undef, .inr ⟨hw, rfl⟩, h⟩
theorem stepTx2 (ho : ops[i]? = some o) (hw : Region.wanted o (yielded ops a.tmps) = false) (h : wpT P ops rds Q S rest (a.put o.dst undef) w) : wpT P ops rds Q S (.op i 2 rest) a w := by
  simp only [wpT, ho]
  exact ⟨undef, .inr ⟨hw, rfl⟩, h⟩
theorem stepTx1 (ho : ops[i]? = some o) (hw : Region.wanted o (yielded ops a.tmps) = false) (h : wpT P ops rds Q S rest (a.put o.dst undef) w) : wpT P ops rds Q S (.op i 1 rest) a w := by
  simp only [wpT, ho, wpOp, hw, Bool.false_eq_true, if_false]
  exact ⟨fun _ h => h, h⟩
theorem stepTnil (h : Q .normal a w) : wpT P ops rds Q S .nil a w := h
theorem stepTtwo {pi pj : Plan} {j : Nat} (h1 : wpT P ops rds Q S (.op i 1 pi) a w) (h2 : wpT P ops rds Q S (.op j 1 pj) a w) (hi : (ops[i]?).isSome = true) (hj : (ops[j]?).isSome = true) : wpT P ops rds Q S (.two i pi j pj) a w := by
  obtain ⟨oi, hi⟩ := Option.isSome_iff_exists.1 hi
  obtain ⟨oj, hj⟩ := Option.isSome_iff_exists.1 hj
  simp only [wpT, hi] at h1
  simp only [wpT, hj] at h2
  exact ⟨h1, h2⟩
end
end
end Go.Proofs.Ytcicnjlkcbimgaa
