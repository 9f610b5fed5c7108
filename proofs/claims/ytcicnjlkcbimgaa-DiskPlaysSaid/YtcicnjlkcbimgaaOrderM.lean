/- A region that draws its order, walked along a plan, as XOrderT; who waits for whom stands in bit masks, checked once (a great region would take the elder check too long). -/
import Derived.Test.YtcicnjlkcbimgaaOrderT
namespace Go.Proofs.Ytcicnjlkcbimgaa
open Go.RowKit
def bitOf (ms : List Nat) (j i : Nat) : Bool := (ms.getD j 0).testBit i
def stepMask (ms : List Nat) (o : Oper) (j : Nat) : Nat := o.after.toList.foldl (fun m e => if (Region.binds .any e && decide (e.on < j)) = true then m ||| (2 ^ e.on ||| ms.getD e.on 0) else m) 0
def okMasks (ops : Array Oper) (ms : List Nat) : Bool := (List.range ops.size).all fun j => match ops[j]? with | some o => ms.getD j 0 == stepMask ms o j | none => true
theorem fold_bit (ms : List Nat) (j i : Nat) : ∀ (l : List Edge) (m : Nat), (l.foldl (fun m e => if (Region.binds .any e && decide (e.on < j)) = true then m ||| (2 ^ e.on ||| ms.getD e.on 0) else m) m).testBit i = true →
    m.testBit i = true ∨ ∃ e ∈ l, Region.binds .any e = true ∧ e.on < j ∧ (e.on = i ∨ bitOf ms e.on i = true)
  | [], m, h => .inl h
  | e :: l, m, h => by
    rw [List.foldl_cons] at h
    rcases fold_bit ms j i l _ h with h1 | ⟨e', he, h2⟩
    · split at h1
      · rename_i hb
        simp only [Bool.and_eq_true, decide_eq_true_eq] at hb
        rw [Nat.testBit_or, Nat.testBit_or, Nat.testBit_two_pow] at h1
        simp only [Bool.or_eq_true, decide_eq_true_eq] at h1
        rcases h1 with h1 | h1 | h1
        · exact .inl h1
        · exact .inr ⟨e, List.mem_cons_self, hb.1, hb.2, .inl h1⟩
        · exact .inr ⟨e, List.mem_cons_self, hb.1, hb.2, .inr h1⟩
      · exact .inl h1
    · exact .inr ⟨e', List.mem_cons_of_mem _ he, h2⟩
theorem Closed.bits {ops : Array Oper} {ms : List Nat} {listed : Array Bool} (hc : Closed ops listed) (hm : okMasks ops ms = true) (i : Nat) : ∀ (n j : Nat), j < n → ∀ (o : Oper), ops[j]? = some o → (∀ e ∈ o.after, Region.binds .any e = true → listed.getD e.on false = true) →
    bitOf ms j i = true → listed.getD i false = true
  | 0, _, h, _, _, _, _ => by omega
  | n + 1, j, hj, o, ho, hall, h => by
    have hjs := (Array.getElem?_eq_some_iff.1 ho).1
    simp only [okMasks, List.all_eq_true, List.mem_range] at hm
    have h1 := hm j hjs
    rw [ho] at h1
    simp only [beq_iff_eq] at h1
    unfold bitOf at h
    rw [h1] at h
    rcases fold_bit ms j i _ _ h with h2 | ⟨e, he, hb, hlt, h3⟩
    · simp at h2
    · have hon := hall e (by simpa using he) hb
      rcases h3 with rfl | h3
      · exact hon
      · have ho' : ops[e.on]? = some ops[e.on] := Array.getElem?_eq_getElem (by omega)
        refine Closed.bits hc (by simp only [okMasks, List.all_eq_true, List.mem_range]; exact hm) i n e.on (by omega) _ ho' (hc e.on _ ho' (getD_true_of_false hon)) h3
def needsM (ms : List Nat) (rds : List Nat) (j : Nat) : Bool := rds.any fun r => r != j && !bitOf ms j r
def freeM (ops : Array Oper) (ms : List Nat) (rds : List Nat) (rd : Bool) (listed : Array Bool) (i : Nat) (oi : Oper) : Bool :=
  (List.range ops.size).all fun j => j == i || !unlisted listed j || bitOf ms j i || match ops[j]? with
    | some oj => oi.apart ops oj && (!rd || needsM ms rds j)
    | none => true
section
variable {P : Program} {ops : Array Oper} {Q : Exit → Go.Act → World → Prop} {S : World → Prop} {rds ms : List Nat}
/-- As wpAny, and S is said behind each operation behind which it is needed. -/
def wpAnyM (P : Program) (ops : Array Oper) (ms : List Nat) (rds : List Nat) (Q : Exit → Go.Act → World → Prop) (S : World → Prop) : Nat → Array Bool → Go.Act → World → Prop
  | 0, listed, a, w => Region.ready .any ops listed = [] ∧ Q .normal a w
  | fuel + 1, listed, a, w =>
    (Region.ready .any ops listed = [] → Q .normal a w) ∧
    ∀ i ∈ Region.ready .any ops listed, wpOp P ops Q i (fun a' w' => (needsM ms rds i = true → S w → S w') ∧ wpAnyM P ops ms rds Q S fuel (listed.setIfInBounds i true) a' w') a w
theorem wpAny_of_M : ∀ (fuel : Nat) (listed : Array Bool) (a : Go.Act) (w : World), wpAnyM P ops ms rds Q S fuel listed a w → wpAny P .any ops Q fuel listed a w
  | 0, _, _, _, h => h
  | fuel + 1, listed, a, w, h => ⟨h.1, fun i hi => wpOp_mono (fun a' w' h' => wpAny_of_M fuel _ a' w' h'.2) (h.2 i hi)⟩

theorem wpAnyM_first (hms : okMasks ops ms = true) {T : World → Prop} {i : Nat} {oi : Oper} {v : Value} {rd : Bool} (hi : ops[i]? = some oi) (hsel : ∀ (j : Nat) (o : Oper) cs b, ops[j]? = some o → o.op ≠ .select cs b)
    (hQ : ∀ c a w, Q (.panic c) (a.put oi.dst v) w → Q (.panic c) a w) (hTS : rd = true → ∀ w, S w → T w) (hST : rd = true → ∀ w, T w → S w) (hT0 : rd = false → ∀ w, T w) :
    ∀ (fuel : Nat) (listed : Array Bool) (a : Go.Act) (w : World), Closed ops listed →
      (∀ j oj, ops[j]? = some oj → j ≠ i → listed.getD j true = false → bitOf ms j i = true ∨ (oi.apart ops oj = true ∧ (rd = true → needsM ms rds j = true))) →
      i ∈ Region.ready .any ops listed → T w → YieldsT P ops T oi v a →
      wpAnyM P ops ms rds Q S fuel (listed.setIfInBounds i true) (a.put oi.dst v) w → wpAnyM P ops ms rds Q S (fuel + 1) listed a w := by
  intro fuel
  induction fuel with
  | zero =>
    intro listed a w _ _ hr hT hy H
    refine ⟨fun h => (by rw [h] at hr; cases hr), fun j hj => ?_⟩
    by_cases hji : j = i
    · subst hji; exact hy.wpOp hi hT ⟨fun _ h => h, H⟩
    · have := ready_mono hj hji
      rw [H.1] at this
      cases this
  | succ fuel ih =>
    intro listed a w hcl hfree hr hT hy H
    refine ⟨fun h => (by rw [h] at hr; cases hr), fun j hj => ?_⟩
    by_cases hji : j = i
    · subst hji; exact hy.wpOp hi hT ⟨fun _ h => h, H⟩
    · have h1 := H.2 j (ready_mono hj hji)
      obtain ⟨hjun, oj, hoj, hall⟩ := mem_ready.1 hj
      have hiun := (mem_ready.1 hr).1
      have hnot : ¬ bitOf ms j i = true := fun hw => by
        have h1 := hcl.bits hms i _ j (Nat.lt_succ_self j) oj hoj hall hw
        have h2 := getD_true_of_false h1
        rw [hiun] at h2
        cases h2
      obtain ⟨hap, hnd⟩ := (hfree j oj hoj hji hjun).resolve_left hnot
      have h2 := wpOp_putT hoj hap (fun cs b => hsel i oi cs b hi) (fun cs b => hsel j oj cs b hoj) hQ hy h1
      have hfree' : ∀ k ok, ops[k]? = some ok → k ≠ i → (listed.setIfInBounds j true).getD k true = false →
          bitOf ms k i = true ∨ (oi.apart ops ok = true ∧ (rd = true → needsM ms rds k = true)) := fun k ok hk hki hun => by
        refine hfree k ok hk hki ?_
        by_cases hjk : j = k
        · subst hjk; exact hjun
        · rw [getD_set_ne true hjk] at hun; exact hun
      refine wpOp_mono (fun a' w' h3 => ?_) h2
      obtain ⟨h4, h5, h6⟩ := h3
      refine ⟨h5, ?_⟩
      have hT' : T w' := by
        cases hrd : rd with
        | true => exact hTS hrd w' (h5 (hnd hrd) (hST hrd w hT))
        | false => exact hT0 hrd w'
      refine ih (listed.setIfInBounds j true) a' w' (hcl.ready hj) hfree' (ready_mono hr (Ne.symm hji)) hT' h4 ?_
      rw [Array.setIfInBounds_comm _ _ hji]
      exact h6

theorem freeM_spec {rd : Bool} {listed : Array Bool} {i : Nat} {oi : Oper} (h : freeM ops ms rds rd listed i oi = true) (j : Nat) (oj : Oper) (hj : ops[j]? = some oj) (hne : j ≠ i) (hun : listed.getD j true = false) :
    bitOf ms j i = true ∨ (oi.apart ops oj = true ∧ (rd = true → needsM ms rds j = true)) := by
  simp only [freeM, List.all_eq_true, List.mem_range] at h
  have h1 := h j (Array.getElem?_eq_some_iff.1 hj).1
  simp only [hj, Bool.or_eq_true, Bool.and_eq_true, beq_iff_eq, hne, false_or, unlisted_of hun, Bool.not_true, Bool.false_eq_true, Bool.not_eq_true'] at h1
  rcases h1 with h1 | ⟨h1, h2⟩
  · exact .inl h1
  · exact .inr ⟨h1, fun hr => h2.resolve_left (by simp [hr])⟩

def okPlanM (ops : Array Oper) (ms rds : List Nat) : Bool → Array Bool → Plan → Bool
  | _, listed, .nil => (Region.ready .any ops listed).isEmpty
  | has, listed, .op i k rest => (match ops[i]? with
    | some oi => (Region.ready .any ops listed).contains i &&
      (match k with
       | 0 => freeM ops ms rds false listed i oi && okPlanM ops ms rds has (listed.setIfInBounds i true) rest
       | 1 => (Region.ready .any ops listed == [i]) && okPlanM ops ms rds (has && needsM ms rds i) (listed.setIfInBounds i true) rest
       | _ => has && freeM ops ms rds true listed i oi && okPlanM ops ms rds has (listed.setIfInBounds i true) rest)
    | none => false)
  | has, listed, .two i pi j pj => (ops[i]?).isSome && (ops[j]?).isSome && (Region.ready .any ops listed == [i, j]) && (pi.len == pj.len) &&
      okPlanM ops ms rds (has && needsM ms rds i) (listed.setIfInBounds i true) pi && okPlanM ops ms rds (has && needsM ms rds j) (listed.setIfInBounds j true) pj
def wpM (P : Program) (ops : Array Oper) (ms : List Nat) (rds : List Nat) (Q : Exit → Go.Act → World → Prop) (S : World → Prop) : Plan → Go.Act → World → Prop
  | .nil, a, w => Q .normal a w
  | .op i k rest, a, w => match ops[i]? with
    | none => False
    | some oi => match k with
      | 0 => ∃ v, YieldsT P ops (fun _ => True) oi v a ∧ wpM P ops ms rds Q S rest (a.put oi.dst v) w
      | 1 => wpOp P ops Q i (fun a' w' => (needsM ms rds i = true → S w → S w') ∧ wpM P ops ms rds Q S rest a' w') a w
      | _ => ∃ v, YieldsT P ops S oi v a ∧ wpM P ops ms rds Q S rest (a.put oi.dst v) w
  | .two i pi j pj, a, w => wpOp P ops Q i (fun a' w' => (needsM ms rds i = true → S w → S w') ∧ wpM P ops ms rds Q S pi a' w') a w ∧
      wpOp P ops Q j (fun a' w' => (needsM ms rds j = true → S w → S w') ∧ wpM P ops ms rds Q S pj a' w') a w
theorem wpN_of_M (hms : okMasks ops ms = true) (hsel : ∀ (j : Nat) (o : Oper) cs b, ops[j]? = some o → o.op ≠ .select cs b) (hQ : ∀ c a d v w, Q (.panic c) (a.put d v) w → Q (.panic c) a w) :
    ∀ (l : Plan) (has : Bool) (listed : Array Bool) (a : Go.Act) (w : World), Closed ops listed → okPlanM ops ms rds has listed l = true → (has = true → S w) →
      wpM P ops ms rds Q S l a w → wpAnyM P ops ms rds Q S l.len listed a w
  | .nil, has, listed, a, w, _, hok, _, h => ⟨by simpa [okPlanM] using hok, h⟩
  | .two i pi j pj, has, listed, a, w, hcl, hok, hS, h => by
    simp only [okPlanM, Bool.and_eq_true, beq_iff_eq] at hok
    obtain ⟨⟨⟨⟨⟨_, _⟩, hr⟩, hlen⟩, ho1⟩, ho2⟩ := hok
    have hri : i ∈ Region.ready .any ops listed := by rw [hr]; simp
    have hrj : j ∈ Region.ready .any ops listed := by rw [hr]; simp
    refine ⟨fun e => (by rw [e] at hr; cases hr), fun m hm => ?_⟩
    rw [hr] at hm
    rcases List.mem_cons.1 hm with hmi | hm
    · subst hmi
      refine wpOp_mono (fun a' w' h' => ⟨h'.1, wpN_of_M hms hsel hQ pi (has && needsM ms rds m) _ a' w' (hcl.ready hri) ho1 (fun e => ?_) h'.2⟩) h.1
      simp only [Bool.and_eq_true] at e
      exact h'.1 e.2 (hS e.1)
    · have hmj : m = j := by simpa using hm
      subst hmj
      refine wpOp_mono (fun a' w' h' => ⟨h'.1, ?_⟩) h.2
      have := wpN_of_M hms hsel hQ pj (has && needsM ms rds m) _ a' w' (hcl.ready hrj) ho2 (fun e => by
        simp only [Bool.and_eq_true] at e
        exact h'.1 e.2 (hS e.1)) h'.2
      rwa [← hlen] at this
  | .op i k rest, has, listed, a, w, hcl, hok, hS, h => by
    cases hi : ops[i]? with
    | none => simp [okPlanM, hi] at hok
    | some oi =>
      simp only [okPlanM, hi, Bool.and_eq_true, List.contains_iff_mem] at hok
      obtain ⟨hr, hok⟩ := hok
      simp only [wpM, hi] at h
      match k, hok, h with
      | 0, hok, h =>
        simp only [Bool.and_eq_true] at hok
        obtain ⟨v, hy, h⟩ := h
        refine wpAnyM_first hms (T := fun _ => True) (rd := false) hi hsel (fun c a w => hQ c a _ _ w) (fun e => by cases e) (fun e => by cases e) (fun _ _ => trivial) rest.len listed a w hcl (freeM_spec hok.1) hr trivial hy ?_
        exact wpN_of_M hms hsel hQ rest has _ _ w (hcl.ready hr) hok.2 hS h
      | 1, hok, h =>
        simp only [Bool.and_eq_true, beq_iff_eq] at hok
        refine ⟨fun e => (by rw [e] at hr; cases hr), fun j hj => ?_⟩
        rw [hok.1] at hj
        have hji : j = i := by simpa using hj
        subst hji
        refine wpOp_mono (fun a' w' h' => ⟨h'.1, wpN_of_M hms hsel hQ rest (has && needsM ms rds j) _ a' w' (hcl.ready hr) hok.2 (fun e => ?_) h'.2⟩) h
        simp only [Bool.and_eq_true] at e
        exact h'.1 e.2 (hS e.1)
      | k + 2, hok, h =>
        simp only [Bool.and_eq_true] at hok
        obtain ⟨v, hy, h⟩ := h
        refine wpAnyM_first hms (T := S) (rd := true) hi hsel (fun c a w => hQ c a _ _ w) (fun _ _ h => h) (fun _ _ h => h) (fun e => by cases e) rest.len listed a w hcl (freeM_spec hok.1.2) hr (hS hok.1.1) hy ?_
        exact wpN_of_M hms hsel hQ rest has _ _ w (hcl.ready hr) hok.2 hS h
theorem wp_region_mask0 {id : Nat} {a : Go.Act} {w : World} (S : World → Prop) (rds ms : List Nat) (l : Plan) (hm : P.follows .mixedOrders = true) (hsel : Region.noSelect ops = true)
    (hlen : l.len = ops.size) (hms : okMasks ops ms = true) (hok : okPlanM ops ms rds true (Array.replicate ops.size false) l = true)
    (hS : S w.drew) (h : wpM P ops ms rds (onlyNormal Q) S l a w.drew) : (Code.region id ops true).wp P Q a w := by
  refine wp_mono (?_ : (Code.region id ops true).wp P (onlyNormal Q) a w) (fun e a w h => by cases e <;> first | exact h | exact False.elim h)
  refine wp_region_any hm (wpAny_of_M (ms := ms) (rds := rds) (S := S) _ _ _ _ ?_)
  rw [← hlen]
  refine wpN_of_M hms (fun j o cs b => Region.noSelect_spec hsel j o cs b) (fun _ _ _ _ _ h => h) l true _ a _ ?_ (by rw [hlen]; exact hok) (fun _ => hS) h
  intro j o ho hj
  rcases Nat.lt_or_ge j l.len with h' | h'
  · simp [h'] at hj
  · have := (Array.getElem?_eq_some_iff.1 ho).1
    omega
section
variable {o : Oper} {i : Nat} {rest : Plan} {a : Go.Act} {w : World}
theorem stepMnil0 (h : Q .normal a w) : wpM P ops ms rds (onlyNormal Q) S .nil a w := h
theorem stepM0 (ho : ops[i]? = some o) (hw : Region.wanted o (yielded ops a.tmps) = true)
    (h : ∀ K : Go.Act → Prop, (∀ a, wpM P ops ms rds Q S rest a w → K a) → ∃ v, (∀ w1 : World, (execOp a.eval o).run P w1 = .ok (.value v) w1) ∧ K (a.put o.dst v)) : wpM P ops ms rds Q S (.op i 0 rest) a w := by
  obtain ⟨v, h1, h2⟩ := h _ (fun _ h => h)
  simp only [wpM, ho]
  exact ⟨v, .inl ⟨hw, fun w1 _ => h1 w1⟩, h2⟩
theorem stepM2 (ho : ops[i]? = some o) (hw : Region.wanted o (yielded ops a.tmps) = true) (v : Value) (h1 : ∀ w1 : World, S w1 → (execOp a.eval o).run P w1 = .ok (.value v) w1)
    (h : ∀ K : Go.Act → Prop, (∀ a, wpM P ops ms rds Q S rest a w → K a) → K (a.put o.dst v)) : wpM P ops ms rds Q S (.op i 2 rest) a w := by
  have h2 := h _ (fun _ h => h)
  simp only [wpM, ho]
  exact ⟨v, .inl ⟨hw, h1⟩, h2⟩
theorem stepM1 (ho : ops[i]? = some o) (hw : Region.wanted o (yielded ops a.tmps) = true) (hn : needsM ms rds i = false)
    (h : ∀ K : Go.Act → World → Prop, (∀ a' w', wpM P ops ms rds Q S rest a' w' → K a' w') → o.wp P a w K Q) : wpM P ops ms rds Q S (.op i 1 rest) a w := by
  simp only [wpM, ho, wpOp, hw, if_true]
  exact .inl (h _ fun a' w' h => ⟨fun e => absurd e (by rw [hn]; simp), h⟩)
theorem stepM1S (ho : ops[i]? = some o) (hw : Region.wanted o (yielded ops a.tmps) = true)
    (h : ∀ K : Go.Act → World → Prop, (∀ a' w', S w' ∧ wpM P ops ms rds Q S rest a' w' → K a' w') → o.wp P a w K Q) : wpM P ops ms rds Q S (.op i 1 rest) a w := by
  simp only [wpM, ho, wpOp, hw, if_true]
  exact .inl (h _ fun a' w' h => ⟨fun _ _ => h.1, h.2⟩)
theorem stepMy0 (ho : ops[i]? = some o) (hw : Region.wanted o (yielded ops a.tmps) = false)
    (h : ∀ K : Go.Act → Prop, (∀ a, wpM P ops ms rds Q S rest a w → K a) → K (a.put o.dst undef)) : wpM P ops ms rds Q S (.op i 0 rest) a w := by
  have h2 := h _ (fun _ h => h)
  simp only [wpM, ho]
  exact ⟨undef, .inr ⟨hw, rfl⟩, h2⟩
theorem stepMy2 (ho : ops[i]? = some o) (hw : Region.wanted o (yielded ops a.tmps) = false)
    (h : ∀ K : Go.Act → Prop, (∀ a, wpM P ops ms rds Q S rest a w → K a) → K (a.put o.dst undef)) : wpM P ops ms rds Q S (.op i 2 rest) a w := by
  have h2 := h _ (fun _ h => h)
  simp only [wpM, ho]
  exact ⟨undef, .inr ⟨hw, rfl⟩, h2⟩
theorem stepMy1 (ho : ops[i]? = some o) (hw : Region.wanted o (yielded ops a.tmps) = false)
    (h : ∀ K : Go.Act → Prop, (∀ a, wpM P ops ms rds Q S rest a w → K a) → K (a.put o.dst undef)) : wpM P ops ms rds Q S (.op i 1 rest) a w := by
  have h2 := h _ (fun _ h => h)
  simp only [wpM, ho, wpOp, hw, Bool.false_eq_true, if_false]
  exact ⟨fun _ h => h, h2⟩
theorem stepMx0 (ho : ops[i]? = some o) (hw : Region.wanted o (yielded ops a.tmps) = false) (h : wpM P ops ms rds Q S rest (a.put o.dst undef) w) : wpM P ops ms rds Q S (.op i 0 rest) a w := by
  simp only [wpM, ho]
  exact ⟨undef, .inr ⟨hw, rfl⟩, h⟩
theorem stepMx2 (ho : ops[i]? = some o) (hw : Region.wanted o (yielded ops a.tmps) = false) (h : wpM P ops ms rds Q S rest (a.put o.dst undef) w) : wpM P ops ms rds Q S (.op i 2 rest) a w := by
  simp only [wpM, ho]
  exact ⟨undef, .inr ⟨hw, rfl⟩, h⟩
theorem stepMx1 (ho : ops[i]? = some o) (hw : Region.wanted o (yielded ops a.tmps) = false) (h : wpM P ops ms rds Q S rest (a.put o.dst undef) w) : wpM P ops ms rds Q S (.op i 1 rest) a w := by
  simp only [wpM, ho, wpOp, hw, Bool.false_eq_true, if_false]
  exact ⟨fun _ h => h, h⟩
theorem stepMnil (h : Q .normal a w) : wpM P ops ms rds Q S .nil a w := h
theorem stepMtwo {pi pj : Plan} {j : Nat} (h1 : wpM P ops ms rds Q S (.op i 1 pi) a w) (h2 : wpM P ops ms rds Q S (.op j 1 pj) a w) (hi : (ops[i]?).isSome = true) (hj : (ops[j]?).isSome = true) : wpM P ops ms rds Q S (.two i pi j pj) a w := by
  obtain ⟨oi, hi⟩ := Option.isSome_iff_exists.1 hi
  obtain ⟨oj, hj⟩ := Option.isSome_iff_exists.1 hj
  simp only [wpM, hi] at h1
  simp only [wpM, hj] at h2
  exact ⟨h1, h2⟩
end
end
end Go.Proofs.Ytcicnjlkcbimgaa
