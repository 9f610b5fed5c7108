/- A region that draws its order, walked once: what only computes or reads is taken as soon as it may come up, what makes or writes memory in its forced order. S: what the reads lean on. The condition on the region is closed. Whatever the program. -/
import Derived.Test.YtcicnjlkcbimgaaBase
import Derived.Orders
namespace Go.Proofs.Ytcicnjlkcbimgaa
open Go.RowKit

/-- Does operation j wait for i, through however many? -/
def waitsFor (ops : Array Oper) : Nat → Nat → Nat → Bool
  | 0, _, _ => false
  | n + 1, j, i => match ops[j]? with
    | some o => o.after.any fun e => Region.binds .any e && (e.on == i || waitsFor ops n e.on i)
    | none => false
def unlisted (listed : Array Bool) (j : Nat) : Bool := !listed.getD j true
/-- Must S hold behind operation j? -/
def needs (ops : Array Oper) (rds : List Nat) (j : Nat) : Bool := rds.any fun r => r != j && !waitsFor ops ops.size j r
def freeOf (ops : Array Oper) (rds : List Nat) (rd : Bool) (listed : Array Bool) (i : Nat) (oi : Oper) : Bool :=
  (List.range ops.size).all fun j => j == i || !unlisted listed j || waitsFor ops ops.size j i || match ops[j]? with
    | some oj => oi.apart ops oj && (!rd || needs ops rds j)
    | none => true
/-- The closed condition: l lists the operations in the order of the walk, with their kinds: 0 computes, 1 makes or writes, 2 reads. -/
def okOrder (ops : Array Oper) (rds : List Nat) : Bool → Array Bool → List (Nat × Nat) → Bool
  | _, listed, [] => (Region.ready .any ops listed).isEmpty
  | has, listed, (i, k) :: rest => (match ops[i]? with
    | some oi => (Region.ready .any ops listed).contains i &&
      (match k with
       | 0 => freeOf ops rds false listed i oi && okOrder ops rds has (listed.setIfInBounds i true) rest
       | 1 => (Region.ready .any ops listed == [i]) && okOrder ops rds (has && needs ops rds i) (listed.setIfInBounds i true) rest
       | _ => has && freeOf ops rds true listed i oi && okOrder ops rds has (listed.setIfInBounds i true) rest)
    | none => false)

section
variable {P : Program} {ops : Array Oper} {Q : Exit → Act → World → Prop} {S : World → Prop} {rds : List Nat}
/-- As wpAny, and S is said behind each operation behind which it is needed. -/
def wpAnyN (P : Program) (ops : Array Oper) (rds : List Nat) (Q : Exit → Act → World → Prop) (S : World → Prop) : Nat → Array Bool → Act → World → Prop
  | 0, listed, a, w => Region.ready .any ops listed = [] ∧ Q .normal a w
  | fuel + 1, listed, a, w =>
    (Region.ready .any ops listed = [] → Q .normal a w) ∧
    ∀ i ∈ Region.ready .any ops listed, wpOp P ops Q i (fun a' w' => (needs ops rds i = true → S w → S w') ∧ wpAnyN P ops rds Q S fuel (listed.setIfInBounds i true) a' w') a w
theorem wpAny_of_N : ∀ (fuel : Nat) (listed : Array Bool) (a : Act) (w : World), wpAnyN P ops rds Q S fuel listed a w → wpAny P .any ops Q fuel listed a w
  | 0, _, _, _, h => h
  | fuel + 1, listed, a, w, h => ⟨h.1, fun i hi => wpOp_mono (fun a' w' h' => wpAny_of_N fuel _ a' w' h'.2) (h.2 i hi)⟩

/-- Operation o yields v, in whatever world that meets T, and leaves it. -/
def YieldsT (P : Program) (ops : Array Oper) (T : World → Prop) (o : Oper) (v : Value) (a : Act) : Prop :=
  (Region.wanted o (yielded ops a.tmps) = true ∧ ∀ w, T w → (execOp a.eval o).run P w = .ok (.value v) w) ∨
  (Region.wanted o (yielded ops a.tmps) = false ∧ v = undef)
theorem YieldsT.wpOp {T : World → Prop} {i : Nat} {o : Oper} {v : Value} {a : Act} (hi : ops[i]? = some o) (hy : YieldsT P ops T o v a)
    {K : Act → World → Prop} {w : World} (hT : T w) (h : K (a.put o.dst v) w) : wpOp P ops Q i K a w := by
  unfold Go.wpOp
  simp only [hi]
  rcases hy with ⟨hw, hv⟩ | ⟨hw, rfl⟩
  · simp only [hw, if_true, Oper.wp, hv w hT, Oper.upon]; exact .inl h
  · simp only [hw, Bool.false_eq_true, if_false]; exact h
theorem YieldsT.of_same {T : World → Prop} {o : Oper} {v : Value} {a a' : Act} (hy : YieldsT P ops T o v a) (he : execOp a'.eval o = execOp a.eval o)
    (hw : Region.wanted o (yielded ops a'.tmps) = Region.wanted o (yielded ops a.tmps)) : YieldsT P ops T o v a' := by
  unfold YieldsT at *
  rw [he, hw]
  exact hy
theorem wpOp_putT {T : World → Prop} {j : Nat} {oi oj : Oper} {v : Value} (hj : ops[j]? = some oj) (hap : oi.apart ops oj = true)
    (hsi : ∀ cs b, oi.op ≠ .select cs b) (hsj : ∀ cs b, oj.op ≠ .select cs b)
    (hQ : ∀ c a w, Q (.panic c) (a.put oi.dst v) w → Q (.panic c) a w) {K : Act → World → Prop} {a : Act} {w : World}
    (hy : YieldsT P ops T oi v a) (h : wpOp P ops Q j K (a.put oi.dst v) w) :
    wpOp P ops Q j (fun a' w' => YieldsT P ops T oi v a' ∧ K (a'.put oi.dst v) w') a w := by
  obtain ⟨h1, h2, h3⟩ := Oper.apart_spec hap
  have keep : ∀ (a : Act), YieldsT P ops T oi v a → ∀ u, YieldsT P ops T oi v (a.put oj.dst u) := fun a hy u =>
    hy.of_same (execOp_put oi hsi a oj.dst u h3) (wanted_put oi a oj.dst u h3)
  have keepD : ∀ d, YieldsT P ops T oi v { a with defers := d :: a.defers } := fun d => hy.of_same rfl rfl
  unfold wpOp at *
  simp only [hj] at *
  rw [wanted_put oj a oi.dst v h1] at h
  split
  · rename_i hw
    simp only [hw, if_true] at h
    rcases h with h | ⟨hasks, hlets⟩
    case inr => exact .inr ⟨by unfold Oper.asks at *; rw [execOp_put oj hsj a oi.dst v h1] at hasks; exact hasks, hlets⟩
    refine .inl ?_
    unfold Oper.wp at *
    rw [execOp_put oj hsj a oi.dst v h1] at h
    generalize (execOp a.eval oj).run P w = r at *
    cases r with
    | ok n w' =>
      cases n <;> simp only [Oper.upon] at h ⊢
      case value u => exact ⟨keep a hy u, by rw [← Act.put_comm a v u h2]; exact h⟩
      case skip => exact ⟨keep a hy _, by rw [← Act.put_comm a v undef h2]; exact h⟩
      case defer d =>
        refine ⟨keep _ (keepD d) _, ?_⟩
        rw [← Act.put_comm _ v undef h2, ← Act.put_defers]
        exact h
      case enter f args =>
        refine Calls.mono h fun e w'' he => ?_
        cases e with
        | returned u => exact ⟨keep a hy u, by rw [← Act.put_comm a v u h2]; exact he⟩
        | panicked c => exact hQ _ _ _ he
        | outgrown => exact he
      case row row args => exact Rows.mono h fun u w'' he => ⟨keep a hy u, by rw [← Act.put_comm a v u h2]; exact he⟩
    | halt x w' =>
      cases x <;> simp only [Oper.upon] at h ⊢
      case panic u => exact hQ _ _ _ h
  · rename_i hw
    simp only [hw] at h
    exact ⟨keep a hy _, by rw [← Act.put_comm a v undef h2]; exact h⟩

/-- Whatever is listed, what it waits for is listed. -/
def Closed (ops : Array Oper) (listed : Array Bool) : Prop :=
  ∀ j o, ops[j]? = some o → listed.getD j true = true → ∀ e ∈ o.after, Region.binds .any e = true → listed.getD e.on false = true
theorem getD_true_of_false {listed : Array Bool} {j : Nat} (h : listed.getD j false = true) : listed.getD j true = true := by
  rcases Nat.lt_or_ge j listed.size with h' | h'
  · simp [h'] at h ⊢; exact h
  · simp [Array.getElem?_eq_none h'] at h
theorem Closed.waits {listed : Array Bool} (hc : Closed ops listed) : ∀ (n j i : Nat) (o : Oper), ops[j]? = some o → (∀ e ∈ o.after, Region.binds .any e = true → listed.getD e.on false = true) →
    waitsFor ops n j i = true → listed.getD i false = true
  | 0, _, _, _, _, _, h => by simp [waitsFor] at h
  | n + 1, j, i, o, ho, hall, h => by
    simp only [waitsFor, ho] at h
    obtain ⟨e, he, hb⟩ := Array.any_eq_true'.1 h
    simp only [Bool.and_eq_true, Bool.or_eq_true, beq_iff_eq] at hb
    obtain ⟨hb1, hb2⟩ := hb
    rcases hb2 with rfl | hb2
    · exact hall e he hb1
    · have hon := hall e he hb1
      cases ho' : ops[e.on]? with
      | none => cases n <;> simp [waitsFor, ho'] at hb2
      | some o' => exact Closed.waits hc n e.on i o' ho' (hc e.on o' ho' (getD_true_of_false hon)) hb2
theorem Closed.ready {listed : Array Bool} (hc : Closed ops listed) {j : Nat} (hj : j ∈ Region.ready .any ops listed) : Closed ops (listed.setIfInBounds j true) := by
  obtain ⟨hun, oj, hoj, hall⟩ := mem_ready.1 hj
  intro k o ho hk e he hb
  by_cases hjk : j = k
  · subst hjk
    rw [hoj] at ho
    cases ho
    exact getD_set_true (hall e he hb)
  · rw [getD_set_ne true hjk] at hk
    exact getD_set_true (hc k o ho hk e he hb)

theorem wpAnyN_first {T : World → Prop} {i : Nat} {oi : Oper} {v : Value} {rd : Bool} (hi : ops[i]? = some oi) (hsel : ∀ (j : Nat) (o : Oper) cs b, ops[j]? = some o → o.op ≠ .select cs b)
    (hQ : ∀ c a w, Q (.panic c) (a.put oi.dst v) w → Q (.panic c) a w) (hTS : rd = true → ∀ w, S w → T w) (hST : rd = true → ∀ w, T w → S w) (hT0 : rd = false → ∀ w, T w) :
    ∀ (fuel : Nat) (listed : Array Bool) (a : Act) (w : World), Closed ops listed →
      (∀ j oj, ops[j]? = some oj → j ≠ i → listed.getD j true = false → waitsFor ops ops.size j i = true ∨ (oi.apart ops oj = true ∧ (rd = true → needs ops rds j = true))) →
      i ∈ Region.ready .any ops listed → T w → YieldsT P ops T oi v a →
      wpAnyN P ops rds Q S fuel (listed.setIfInBounds i true) (a.put oi.dst v) w → wpAnyN P ops rds Q S (fuel + 1) listed a w := by
  intro fuel
  induction fuel with
  | zero =>
    intro listed a w _ _ hr hT hy H
    refine ⟨fun h => (by rw [h] at hr; cases hr), fun j hj => ?_⟩
    by_cases hji : j = i
    · subst hji; exact hy.wpOp hi hT ⟨fun _ h => h, H⟩
    · have := ready_mono hj hji
      rw [H.1] at this
      cases this
  | succ fuel ih =>
    intro listed a w hcl hfree hr hT hy H
    refine ⟨fun h => (by rw [h] at hr; cases hr), fun j hj => ?_⟩
    by_cases hji : j = i
    · subst hji; exact hy.wpOp hi hT ⟨fun _ h => h, H⟩
    · have h1 := H.2 j (ready_mono hj hji)
      obtain ⟨hjun, oj, hoj, hall⟩ := mem_ready.1 hj
      have hiun := (mem_ready.1 hr).1
      have hnot : ¬ waitsFor ops ops.size j i = true := fun hw => by
        have h1 := hcl.waits _ j i oj hoj hall hw
        have h2 := getD_true_of_false h1
        rw [hiun] at h2
        cases h2
      obtain ⟨hap, hnd⟩ := (hfree j oj hoj hji hjun).resolve_left hnot
      have h2 := wpOp_putT hoj hap (fun cs b => hsel i oi cs b hi) (fun cs b => hsel j oj cs b hoj) hQ hy h1
      have hfree' : ∀ k ok, ops[k]? = some ok → k ≠ i → (listed.setIfInBounds j true).getD k true = false →
          waitsFor ops ops.size k i = true ∨ (oi.apart ops ok = true ∧ (rd = true → needs ops rds k = true)) := fun k ok hk hki hun => by
        refine hfree k ok hk hki ?_
        by_cases hjk : j = k
        · subst hjk; exact hjun
        · rw [getD_set_ne true hjk] at hun; exact hun
      refine wpOp_mono (fun a' w' h3 => ?_) h2
      obtain ⟨h4, h5, h6⟩ := h3
      refine ⟨h5, ?_⟩
      have hT' : T w' := by
        cases hrd : rd with
        | true => exact hTS hrd w' (h5 (hnd hrd) (hST hrd w hT))
        | false => exact hT0 hrd w'
      refine ih (listed.setIfInBounds j true) a' w' (hcl.ready hj) hfree' (ready_mono hr (Ne.symm hji)) hT' h4 ?_
      rw [Array.setIfInBounds_comm _ _ hji]
      exact h6

theorem unlisted_of {listed : Array Bool} {j : Nat} (h : listed.getD j true = false) : unlisted listed j = true := by simp [unlisted, h]
theorem free_spec {rd : Bool} {listed : Array Bool} {i : Nat} {oi : Oper} (h : freeOf ops rds rd listed i oi = true) (j : Nat) (oj : Oper) (hj : ops[j]? = some oj) (hne : j ≠ i) (hun : listed.getD j true = false) :
    waitsFor ops ops.size j i = true ∨ (oi.apart ops oj = true ∧ (rd = true → needs ops rds j = true)) := by
  simp only [freeOf, List.all_eq_true, List.mem_range] at h
  have h1 := h j (Array.getElem?_eq_some_iff.1 hj).1
  simp only [hj, Bool.or_eq_true, Bool.and_eq_true, beq_iff_eq, hne, false_or, unlisted_of hun, Bool.not_true, Bool.false_eq_true, Bool.not_eq_true'] at h1
  rcases h1 with h1 | ⟨h1, h2⟩
  · exact .inl h1
  · exact .inr ⟨h1, fun hr => h2.resolve_left (by simp [hr])⟩

/-- The walk: each operation once. -/
def wpE (P : Program) (ops : Array Oper) (rds : List Nat) (Q : Exit → Act → World → Prop) (S : World → Prop) : List (Nat × Nat) → Act → World → Prop
  | [], a, w => Q .normal a w
  | (i, k) :: rest, a, w => match ops[i]? with
    | none => False
    | some oi => match k with
      | 0 => ∃ v, YieldsT P ops (fun _ => True) oi v a ∧ wpE P ops rds Q S rest (a.put oi.dst v) w
      | 1 => wpOp P ops Q i (fun a' w' => (needs ops rds i = true → S w → S w') ∧ wpE P ops rds Q S rest a' w') a w
      | _ => ∃ v, YieldsT P ops S oi v a ∧ wpE P ops rds Q S rest (a.put oi.dst v) w
theorem wpN_of_E (hsel : ∀ (j : Nat) (o : Oper) cs b, ops[j]? = some o → o.op ≠ .select cs b) (hQ : ∀ c a d v w, Q (.panic c) (a.put d v) w → Q (.panic c) a w) :
    ∀ (l : List (Nat × Nat)) (has : Bool) (listed : Array Bool) (a : Act) (w : World), Closed ops listed → okOrder ops rds has listed l = true → (has = true → S w) →
      wpE P ops rds Q S l a w → wpAnyN P ops rds Q S l.length listed a w
  | [], has, listed, a, w, _, hok, _, h => ⟨by simpa [okOrder] using hok, h⟩
  | (i, k) :: rest, has, listed, a, w, hcl, hok, hS, h => by
    cases hi : ops[i]? with
    | none => simp [okOrder, hi] at hok
    | some oi =>
      simp only [okOrder, hi, Bool.and_eq_true, List.contains_iff_mem] at hok
      obtain ⟨hr, hok⟩ := hok
      simp only [wpE, hi] at h
      match k, hok, h with
      | 0, hok, h =>
        simp only [Bool.and_eq_true] at hok
        obtain ⟨v, hy, h⟩ := h
        refine wpAnyN_first (T := fun _ => True) (rd := false) hi hsel (fun c a w => hQ c a _ _ w) (fun e => by cases e) (fun e => by cases e) (fun _ _ => trivial) rest.length listed a w hcl (free_spec hok.1) hr trivial hy ?_
        exact wpN_of_E hsel hQ rest has _ _ w (hcl.ready hr) hok.2 hS h
      | 1, hok, h =>
        simp only [Bool.and_eq_true, beq_iff_eq] at hok
        refine ⟨fun e => (by rw [e] at hr; cases hr), fun j hj => ?_⟩
        rw [hok.1] at hj
        have hji : j = i := by simpa using hj
        subst hji
        refine wpOp_mono (fun a' w' h' => ⟨h'.1, wpN_of_E hsel hQ rest (has && needs ops rds j) _ a' w' (hcl.ready hr) hok.2 (fun e => ?_) h'.2⟩) h
        simp only [Bool.and_eq_true] at e
        exact h'.1 e.2 (hS e.1)
      | k + 2, hok, h =>
        simp only [Bool.and_eq_true] at hok
        obtain ⟨v, hy, h⟩ := h
        refine wpAnyN_first (T := S) (rd := true) hi hsel (fun c a w => hQ c a _ _ w) (fun _ _ h => h) (fun _ _ h => h) (fun e => by cases e) rest.length listed a w hcl (free_spec hok.1.2) hr (hS hok.1.1) hy ?_
        exact wpN_of_E hsel hQ rest has _ _ w (hcl.ready hr) hok.2 hS h
/-- The region, from its walk. -/
theorem wp_region_order {id : Nat} {a : Act} {w : World} (S : World → Prop) (rds : List Nat) (l : List (Nat × Nat)) (hm : P.follows .mixedOrders = true) (hsel : Region.noSelect ops = true)
    (hlen : l.length = ops.size) (hok : okOrder ops rds true (Array.replicate ops.size false) l = true) (hQ : ∀ c a d v w, Q (.panic c) (a.put d v) w → Q (.panic c) a w)
    (hS : S w.drew) (h : wpE P ops rds Q S l a w.drew) : (Code.region id ops true).wp P Q a w := by
  refine wp_region_any hm (wpAny_of_N (rds := rds) (S := S) _ _ _ _ ?_)
  rw [← hlen]
  refine wpN_of_E (fun j o cs b => Region.noSelect_spec hsel j o cs b) hQ l true _ a _ ?_ (by rw [hlen]; exact hok) (fun _ => hS) h
  intro j o ho hj
  rcases Nat.lt_or_ge j l.length with h' | h'
  · simp [h'] at hj
  · have := (Array.getElem?_eq_some_iff.1 ho).1
    omega
/-- .. where the reads need nothing behind what makes or writes: S says 'the world is the one at the region's start'. -/
theorem wp_region_now {id : Nat} {a : Act} {w : World} (rds : List Nat) (l : List (Nat × Nat)) (hm : P.follows .mixedOrders = true) (hsel : Region.noSelect ops = true)
    (hlen : l.length = ops.size) (hok : okOrder ops rds true (Array.replicate ops.size false) l = true) (hQ : ∀ c a d v w, Q (.panic c) (a.put d v) w → Q (.panic c) a w)
    (h : wpE P ops rds Q (fun w' => w' = w.drew) l a w.drew) : (Code.region id ops true).wp P Q a w :=
  wp_region_order (fun w' => w' = w.drew) rds l hm hsel hlen hok hQ rfl h
/-- The post of a region that does not panic. -/
def onlyNormal (Q : Exit → Act → World → Prop) : Exit → Act → World → Prop := fun e a w => match e with | .normal => Q .normal a w | _ => False
theorem wp_region_order0 {id : Nat} {a : Act} {w : World} (S : World → Prop) (rds : List Nat) (l : List (Nat × Nat)) (hm : P.follows .mixedOrders = true) (hsel : Region.noSelect ops = true)
    (hlen : l.length = ops.size) (hok : okOrder ops rds true (Array.replicate ops.size false) l = true)
    (hS : S w.drew) (h : wpE P ops rds (onlyNormal Q) S l a w.drew) : (Code.region id ops true).wp P Q a w :=
  wp_mono (wp_region_order (Q := onlyNormal Q) S rds l hm hsel hlen hok (fun _ _ _ _ _ h => h) hS h) (fun e a w h => by cases e <;> first | exact h | exact False.elim h)
theorem wp_region_now0 {id : Nat} {a : Act} {w : World} (rds : List Nat) (l : List (Nat × Nat)) (hm : P.follows .mixedOrders = true) (hsel : Region.noSelect ops = true)
    (hlen : l.length = ops.size) (hok : okOrder ops rds true (Array.replicate ops.size false) l = true)
    (h : wpE P ops rds (onlyNormal Q) (fun w' => w' = w.drew) l a w.drew) : (Code.region id ops true).wp P Q a w :=
  wp_region_order0 (fun w' => w' = w.drew) rds l hm hsel hlen hok rfl h
section
variable {o : Oper} {i : Nat} {rest : List (Nat × Nat)} {a : Act} {w : World}
theorem stepEnil0 (h : Q .normal a w) : wpE P ops rds (onlyNormal Q) S [] a w := h
theorem stepE0 (ho : ops[i]? = some o) (hw : Region.wanted o (yielded ops a.tmps) = true)
    (h : ∀ K : Act → Prop, (∀ a, wpE P ops rds Q S rest a w → K a) → ∃ v, (∀ w1 : World, (execOp a.eval o).run P w1 = .ok (.value v) w1) ∧ K (a.put o.dst v)) : wpE P ops rds Q S ((i, 0) :: rest) a w := by
  obtain ⟨v, h1, h2⟩ := h _ (fun _ h => h)
  simp only [wpE, ho]
  exact ⟨v, .inl ⟨hw, fun w1 _ => h1 w1⟩, h2⟩
theorem stepE2 (ho : ops[i]? = some o) (hw : Region.wanted o (yielded ops a.tmps) = true) (v : Value) (h1 : ∀ w1 : World, S w1 → (execOp a.eval o).run P w1 = .ok (.value v) w1)
    (h : ∀ K : Act → Prop, (∀ a, wpE P ops rds Q S rest a w → K a) → K (a.put o.dst v)) : wpE P ops rds Q S ((i, 2) :: rest) a w := by
  have h2 := h _ (fun _ h => h)
  simp only [wpE, ho]
  exact ⟨v, .inl ⟨hw, h1⟩, h2⟩
theorem stepE1 (ho : ops[i]? = some o) (hw : Region.wanted o (yielded ops a.tmps) = true) (hn : needs ops rds i = false)
    (h : ∀ K : Act → World → Prop, (∀ a' w', wpE P ops rds Q S rest a' w' → K a' w') → o.wp P a w K Q) : wpE P ops rds Q S ((i, 1) :: rest) a w := by
  simp only [wpE, ho, wpOp, hw, if_true]
  exact .inl (h _ fun a' w' h => ⟨fun e => absurd e (by rw [hn]; simp), h⟩)
theorem stepE1S (ho : ops[i]? = some o) (hw : Region.wanted o (yielded ops a.tmps) = true)
    (h : ∀ K : Act → World → Prop, (∀ a' w', S w' ∧ wpE P ops rds Q S rest a' w' → K a' w') → o.wp P a w K Q) : wpE P ops rds Q S ((i, 1) :: rest) a w := by
  simp only [wpE, ho, wpOp, hw, if_true]
  exact .inl (h _ fun a' w' h => ⟨fun _ _ => h.1, h.2⟩)
theorem stepEx0 (ho : ops[i]? = some o) (hw : Region.wanted o (yielded ops a.tmps) = false) (h : wpE P ops rds Q S rest (a.put o.dst undef) w) : wpE P ops rds Q S ((i, 0) :: rest) a w := by
  simp only [wpE, ho]
  exact ⟨undef, .inr ⟨hw, rfl⟩, h⟩
theorem stepEx2 (ho : ops[i]? = some o) (hw : Region.wanted o (yielded ops a.tmps) = false) (h : wpE P ops rds Q S rest (a.put o.dst undef) w) : wpE P ops rds Q S ((i, 2) :: rest) a w := by
  simp only [wpE, ho]
  exact ⟨undef, .inr ⟨hw, rfl⟩, h⟩
theorem stepEx1 (ho : ops[i]? = some o) (hw : Region.wanted o (yielded ops a.tmps) = false) (h : wpE P ops rds Q S rest (a.put o.dst undef) w) : wpE P ops rds Q S ((i, 1) :: rest) a w := by
  simp only [wpE, ho, wpOp, hw, Bool.false_eq_true, if_false]
  exact ⟨fun _ h => h, h⟩
theorem stepEnil (h : Q .normal a w) : wpE P ops rds Q S [] a w := h
end
end
end Go.Proofs.Ytcicnjlkcbimgaa
