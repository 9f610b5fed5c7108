/- Joined texts: OrderIn, Pack, Same, Pack2, Put4, Dirs5, Dirs6, Dirs7, DirsParts, DirsParts2, Twin, Twin2. -/
import Derived.Test.YtigkcbnlbdiimaaPl1
import Derived.OrdersIn
import Derived.RangeFuncNested
import Derived.RangeFuncBound
import Derived.RangeFuncCalls
import Derived.RangeFuncLeaves
import Derived.RangeFuncBox
import Derived.Shelf.Abstract
import Derived.Shelf.RegionOpen
import Derived.OwnWalkIn
import Derived.TacticsInMore
import Derived.LoopNIn
import Derived.LoopIn
import Derived.Maps.AppendAt
import Derived.Test.YtigkcbnlbdiimaaRows
import Derived.Deep.AppendLies
/- A region that draws its order, walked once, inside a fence (a round of a range over a function): as the text without a fence. The condition on the region is closed. Whatever the program. -/
namespace Go.Proofs.Ytigkcbnlbdiimaa
open Go.RowKit

section
variable {F : Fence} {n : Nat} {P : Program} {ops : Array Oper} {Q : Exit → Act → World → Prop} {S : World → Prop} {rds : List Nat}
def noDefer (ops : Array Oper) : Bool := ops.all fun o => match o.op with | .defer _ => false | _ => true
theorem noDefer_spec (h : noDefer ops = true) {i : Nat} {o : Oper} (ho : ops[i]? = some o) (r : Option Nat) (f : Operand → Value) : o.semAt r f = execOp f o := by
  refine Oper.semAt_eq r f o fun c hc => ?_
  have h1 := Array.all_eq_true'.1 h o (Array.mem_of_getElem? ho)
  rw [hc] at h1
  cases h1
/-- As wpAnyIn, and S is said behind each operation behind which it is needed. -/
def wpAnyNI (F : Fence) (n : Nat) (P : Program) (ops : Array Oper) (rds : List Nat) (Q : Exit → Act → World → Prop) (S : World → Prop) : Nat → Array Bool → Act → World → Prop
  | 0, listed, a, w => Region.ready .any ops listed = [] ∧ Q .normal a w
  | fuel + 1, listed, a, w =>
    (Region.ready .any ops listed = [] → Q .normal a w) ∧
    ∀ i ∈ Region.ready .any ops listed, wpOpIn F n P ops Q i (fun a' w' => (needs ops rds i = true → S w → S w') ∧ wpAnyNI F n P ops rds Q S fuel (listed.setIfInBounds i true) a' w') a w
theorem wpAnyI_of_N : ∀ (fuel : Nat) (listed : Array Bool) (a : Act) (w : World), wpAnyNI F n P ops rds Q S fuel listed a w → wpAnyIn F n P .any ops Q fuel listed a w
  | 0, _, _, _, h => h
  | fuel + 1, listed, a, w, h => ⟨h.1, fun i hi => wpOpIn_mono (fun a' w' h' => wpAnyI_of_N fuel _ a' w' h'.2) (h.2 i hi)⟩
/-- It yields, and is about to call nothing. -/
def YieldsI (P : Program) (ops : Array Oper) (T : World → Prop) (o : Oper) (v : Value) (a : Act) : Prop := YieldsT P ops T o v a ∧ ∀ w, o.about P w a.eval = none
theorem YieldsI.wpOp {T : World → Prop} {i : Nat} {o : Oper} {v : Value} {a : Act} (hd : noDefer ops = true) (hi : ops[i]? = some o) (hy : YieldsI P ops T o v a)
    {K : Act → World → Prop} {w : World} (hT : T w) (h : K (a.put o.dst v) w) : wpOpIn F n P ops Q i K a w := by
  unfold Go.wpOpIn
  simp only [hi]
  have hab : ∀ f, o.about P w a.eval = some f → F.fn f := fun f hf => by rw [hy.2 w] at hf; cases hf
  rcases hy.1 with ⟨hw, hv⟩ | ⟨hw, rfl⟩
  · simp only [hw, if_true, Oper.wpIn, noDefer_spec hd hi, hv w hT, Oper.uponIn]; exact ⟨hab, h⟩
  · simp only [hw, Bool.false_eq_true, if_false]; exact ⟨hab, h⟩
theorem YieldsI.of_same {T : World → Prop} {o : Oper} {v : Value} {a a' : Act} (hy : YieldsI P ops T o v a) (he : execOp a'.eval o = execOp a.eval o)
    (hw : Region.wanted o (yielded ops a'.tmps) = Region.wanted o (yielded ops a.tmps)) (hb : ∀ w, o.about P w a'.eval = o.about P w a.eval) : YieldsI P ops T o v a' :=
  ⟨hy.1.of_same he hw, fun w => by rw [hb w]; exact hy.2 w⟩
theorem wpOpI_putT {T : World → Prop} {j : Nat} {oi oj : Oper} {v : Value} (hd : noDefer ops = true) (hj : ops[j]? = some oj) (hap : oi.apart ops oj = true)
    (hsi : ∀ cs b, oi.op ≠ .select cs b) (hsj : ∀ cs b, oj.op ≠ .select cs b)
    (hQ : ∀ c a w, Q (.panic c) (a.put oi.dst v) w → Q (.panic c) a w) {K : Act → World → Prop} {a : Act} {w : World}
    (hy : YieldsI P ops T oi v a) (h : wpOpIn F n P ops Q j K (a.put oi.dst v) w) :
    wpOpIn F n P ops Q j (fun a' w' => YieldsI P ops T oi v a' ∧ K (a'.put oi.dst v) w') a w := by
  obtain ⟨h1, h2, h3⟩ := Oper.apart_spec hap
  have keep : ∀ (a : Act), YieldsI P ops T oi v a → ∀ u, YieldsI P ops T oi v (a.put oj.dst u) := fun a hy u =>
    hy.of_same (execOp_put oi hsi a oj.dst u h3) (wanted_put oi a oj.dst u h3) (fun w => about_put oi w a oj.dst u h3)
  have keepD : ∀ d, YieldsI P ops T oi v { a with defers := d :: a.defers } := fun d => hy.of_same rfl rfl (fun _ => rfl)
  have hsem : ∀ (r : Option Nat) (f : Operand → Value), oj.semAt r f = execOp f oj := fun r f => noDefer_spec hd hj r f
  unfold wpOpIn at *
  simp only [hj] at *
  rw [wanted_put oj a oi.dst v h1, about_put oj w a oi.dst v h1] at h
  split
  · rename_i hw
    simp only [hw, if_true] at h
    unfold Oper.wpIn at *
    rw [about_put oj w a oi.dst v h1] at h
    refine ⟨h.1, ?_⟩
    have h := h.2
    rw [hsem, execOp_put oj hsj a oi.dst v h1] at h
    rw [hsem]
    generalize (execOp a.eval oj).run P w = r at *
    cases r with
    | ok x w' =>
      cases x <;> simp only [Oper.uponIn] at h ⊢
      case value u => exact ⟨keep a hy u, by rw [← Act.put_comm a v u h2]; exact h⟩
      case skip => exact ⟨keep a hy _, by rw [← Act.put_comm a v undef h2]; exact h⟩
      case defer d =>
        refine ⟨keep _ (keepD d) _, ?_⟩
        rw [← Act.put_comm _ v undef h2, ← Act.put_defers]
        exact h
      case enter f args =>
        refine ⟨h.1, CallsIn.mono h.2 fun e w'' he => ?_⟩
        cases e with
        | returned u => exact ⟨keep a hy u, by rw [← Act.put_comm a v u h2]; exact he⟩
        | panicked c => exact hQ _ _ _ he
        | outgrown => exact he
      case row row args => exact ⟨h.1, RowsIn.mono h.2 fun u w'' he => ⟨keep a hy u, by rw [← Act.put_comm a v u h2]; exact he⟩⟩
      case round l f tmps assign body =>
        refine ⟨h.1, RoundIn.mono h.2 fun e w'' he => ?_⟩
        cases e with
        | returned u => exact ⟨keep a hy u, by rw [← Act.put_comm a v u h2]; exact he⟩
        | panicked c => exact hQ _ _ _ he
        | outgrown => exact he
    | halt x w' =>
      cases x <;> simp only [Oper.uponIn] at h ⊢
      case panic u => exact hQ _ _ _ h
  · rename_i hw
    simp only [hw] at h
    exact ⟨h.1, keep a hy _, by rw [← Act.put_comm a v undef h2]; exact h.2⟩

theorem wpAnyNI_first {T : World → Prop} {i : Nat} {oi : Oper} {v : Value} {rd : Bool} (hd : noDefer ops = true) (hi : ops[i]? = some oi) (hsel : ∀ (j : Nat) (o : Oper) cs b, ops[j]? = some o → o.op ≠ .select cs b)
    (hQ : ∀ c a w, Q (.panic c) (a.put oi.dst v) w → Q (.panic c) a w) (hTS : rd = true → ∀ w, S w → T w) (hST : rd = true → ∀ w, T w → S w) (hT0 : rd = false → ∀ w, T w) :
    ∀ (fuel : Nat) (listed : Array Bool) (a : Act) (w : World), Closed ops listed →
      (∀ j oj, ops[j]? = some oj → j ≠ i → listed.getD j true = false → waitsFor ops ops.size j i = true ∨ (oi.apart ops oj = true ∧ (rd = true → needs ops rds j = true))) →
      i ∈ Region.ready .any ops listed → T w → YieldsI P ops T oi v a →
      wpAnyNI F n P ops rds Q S fuel (listed.setIfInBounds i true) (a.put oi.dst v) w → wpAnyNI F n P ops rds Q S (fuel + 1) listed a w := by
  intro fuel
  induction fuel with
  | zero =>
    intro listed a w _ _ hr hT hy H
    refine ⟨fun h => (by rw [h] at hr; cases hr), fun j hj => ?_⟩
    by_cases hji : j = i
    · subst hji; exact hy.wpOp hd hi hT ⟨fun _ h => h, H⟩
    · have := ready_mono hj hji
      rw [H.1] at this
      cases this
  | succ fuel ih =>
    intro listed a w hcl hfree hr hT hy H
    refine ⟨fun h => (by rw [h] at hr; cases hr), fun j hj => ?_⟩
    by_cases hji : j = i
    · subst hji; exact hy.wpOp hd hi hT ⟨fun _ h => h, H⟩
    · have h1 := H.2 j (ready_mono hj hji)
      obtain ⟨hjun, oj, hoj, hall⟩ := mem_ready.1 hj
      have hiun := (mem_ready.1 hr).1
      have hnot : ¬ waitsFor ops ops.size j i = true := fun hw => by
        have h1 := hcl.waits _ j i oj hoj hall hw
        have h2 := getD_true_of_false h1
        rw [hiun] at h2
        cases h2
      obtain ⟨hap, hnd⟩ := (hfree j oj hoj hji hjun).resolve_left hnot
      have h2 := wpOpI_putT hd hoj hap (fun cs b => hsel i oi cs b hi) (fun cs b => hsel j oj cs b hoj) hQ hy h1
      have hfree' : ∀ k ok, ops[k]? = some ok → k ≠ i → (listed.setIfInBounds j true).getD k true = false →
          waitsFor ops ops.size k i = true ∨ (oi.apart ops ok = true ∧ (rd = true → needs ops rds k = true)) := fun k ok hk hki hun => by
        refine hfree k ok hk hki ?_
        by_cases hjk : j = k
        · subst hjk; exact hjun
        · rw [getD_set_ne true hjk] at hun; exact hun
      refine wpOpIn_mono (fun a' w' h3 => ?_) h2
      obtain ⟨h4, h5, h6⟩ := h3
      refine ⟨h5, ?_⟩
      have hT' : T w' := by
        cases hrd : rd with
        | true => exact hTS hrd w' (h5 (hnd hrd) (hST hrd w hT))
        | false => exact hT0 hrd w'
      refine ih (listed.setIfInBounds j true) a' w' (hcl.ready hj) hfree' (ready_mono hr (Ne.symm hji)) hT' h4 ?_
      rw [Array.setIfInBounds_comm _ _ hji]
      exact h6

/-- The walk: each operation once. -/
def wpEI (F : Fence) (n : Nat) (P : Program) (ops : Array Oper) (rds : List Nat) (Q : Exit → Act → World → Prop) (S : World → Prop) : List (Nat × Nat) → Act → World → Prop
  | [], a, w => Q .normal a w
  | (i, k) :: rest, a, w => match ops[i]? with
    | none => False
    | some oi => match k with
      | 0 => ∃ v, YieldsI P ops (fun _ => True) oi v a ∧ wpEI F n P ops rds Q S rest (a.put oi.dst v) w
      | 1 => wpOpIn F n P ops Q i (fun a' w' => (needs ops rds i = true → S w → S w') ∧ wpEI F n P ops rds Q S rest a' w') a w
      | _ => ∃ v, YieldsI P ops S oi v a ∧ wpEI F n P ops rds Q S rest (a.put oi.dst v) w
theorem wpNI_of_E (hd : noDefer ops = true) (hsel : ∀ (j : Nat) (o : Oper) cs b, ops[j]? = some o → o.op ≠ .select cs b) (hQ : ∀ c a d v w, Q (.panic c) (a.put d v) w → Q (.panic c) a w) :
    ∀ (l : List (Nat × Nat)) (has : Bool) (listed : Array Bool) (a : Act) (w : World), Closed ops listed → okOrder ops rds has listed l = true → (has = true → S w) →
      wpEI F n P ops rds Q S l a w → wpAnyNI F n P ops rds Q S l.length listed a w
  | [], has, listed, a, w, _, hok, _, h => ⟨by simpa [okOrder] using hok, h⟩
  | (i, k) :: rest, has, listed, a, w, hcl, hok, hS, h => by
    cases hi : ops[i]? with
    | none => simp [okOrder, hi] at hok
    | some oi =>
      simp only [okOrder, hi, Bool.and_eq_true, List.contains_iff_mem] at hok
      obtain ⟨hr, hok⟩ := hok
      simp only [wpEI, hi] at h
      match k, hok, h with
      | 0, hok, h =>
        simp only [Bool.and_eq_true] at hok
        obtain ⟨v, hy, h⟩ := h
        refine wpAnyNI_first (T := fun _ => True) (rd := false) hd hi hsel (fun c a w => hQ c a _ _ w) (fun e => by cases e) (fun e => by cases e) (fun _ _ => trivial) rest.length listed a w hcl (free_spec hok.1) hr trivial hy ?_
        exact wpNI_of_E hd hsel hQ rest has _ _ w (hcl.ready hr) hok.2 hS h
      | 1, hok, h =>
        simp only [Bool.and_eq_true, beq_iff_eq] at hok
        refine ⟨fun e => (by rw [e] at hr; cases hr), fun j hj => ?_⟩
        rw [hok.1] at hj
        have hji : j = i := by simpa using hj
        subst hji
        refine wpOpIn_mono (fun a' w' h' => ⟨h'.1, wpNI_of_E hd hsel hQ rest (has && needs ops rds j) _ a' w' (hcl.ready hr) hok.2 (fun e => ?_) h'.2⟩) h
        simp only [Bool.and_eq_true] at e
        exact h'.1 e.2 (hS e.1)
      | k + 2, hok, h =>
        simp only [Bool.and_eq_true] at hok
        obtain ⟨v, hy, h⟩ := h
        refine wpAnyNI_first (T := S) (rd := true) hd hi hsel (fun c a w => hQ c a _ _ w) (fun _ _ h => h) (fun _ _ h => h) (fun e => by cases e) rest.length listed a w hcl (free_spec hok.1.2) hr (hS hok.1.1) hy ?_
        exact wpNI_of_E hd hsel hQ rest has _ _ w (hcl.ready hr) hok.2 hS h
/-- The region, from its walk. -/
theorem wpIn_region_order {id : Nat} {a : Act} {w : World} (S : World → Prop) (rds : List Nat) (l : List (Nat × Nat)) (hm : P.follows .mixedOrders = true) (hd : noDefer ops = true) (hsel : Region.noSelect ops = true)
    (hlen : l.length = ops.size) (hok : okOrder ops rds true (Array.replicate ops.size false) l = true) (hQ : ∀ c a d v w, Q (.panic c) (a.put d v) w → Q (.panic c) a w)
    (hS : S w.drew) (h : wpEI F n P ops rds Q S l a w.drew) : (Code.region id ops true).wpIn F n P Q a w := by
  refine wpIn_region_any hm (wpAnyI_of_N (rds := rds) (S := S) _ _ _ _ ?_)
  rw [← hlen]
  refine wpNI_of_E hd (fun j o cs b => Region.noSelect_spec hsel j o cs b) hQ l true _ a _ ?_ (by rw [hlen]; exact hok) (fun _ => hS) h
  intro j o ho hj
  rcases Nat.lt_or_ge j l.length with h' | h'
  · simp [h'] at hj
  · have := (Array.getElem?_eq_some_iff.1 ho).1
    omega
theorem wpIn_region_now {id : Nat} {a : Act} {w : World} (rds : List Nat) (l : List (Nat × Nat)) (hm : P.follows .mixedOrders = true) (hd : noDefer ops = true) (hsel : Region.noSelect ops = true)
    (hlen : l.length = ops.size) (hok : okOrder ops rds true (Array.replicate ops.size false) l = true) (hQ : ∀ c a d v w, Q (.panic c) (a.put d v) w → Q (.panic c) a w)
    (h : wpEI F n P ops rds Q (fun w' => w' = w.drew) l a w.drew) : (Code.region id ops true).wpIn F n P Q a w :=
  wpIn_region_order (fun w' => w' = w.drew) rds l hm hd hsel hlen hok hQ rfl h
theorem wpIn_region_order0 {id : Nat} {a : Act} {w : World} (S : World → Prop) (rds : List Nat) (l : List (Nat × Nat)) (hm : P.follows .mixedOrders = true) (hd : noDefer ops = true) (hsel : Region.noSelect ops = true)
    (hlen : l.length = ops.size) (hok : okOrder ops rds true (Array.replicate ops.size false) l = true)
    (hS : S w.drew) (h : wpEI F n P ops rds (onlyNormal Q) S l a w.drew) : (Code.region id ops true).wpIn F n P Q a w :=
  wpIn_mono (wpIn_region_order (Q := onlyNormal Q) S rds l hm hd hsel hlen hok (fun _ _ _ _ _ h => h) hS h) (fun e a w h => by cases e <;> first | exact h | exact False.elim h)
theorem wpIn_region_now0 {id : Nat} {a : Act} {w : World} (rds : List Nat) (l : List (Nat × Nat)) (hm : P.follows .mixedOrders = true) (hd : noDefer ops = true) (hsel : Region.noSelect ops = true)
    (hlen : l.length = ops.size) (hok : okOrder ops rds true (Array.replicate ops.size false) l = true)
    (h : wpEI F n P ops rds (onlyNormal Q) (fun w' => w' = w.drew) l a w.drew) : (Code.region id ops true).wpIn F n P Q a w :=
  wpIn_region_order0 (fun w' => w' = w.drew) rds l hm hd hsel hlen hok rfl h
section
variable {o : Oper} {i : Nat} {rest : List (Nat × Nat)} {a : Act} {w : World}
theorem stepInil0 (h : Q .normal a w) : wpEI F n P ops rds (onlyNormal Q) S [] a w := h
theorem stepI0 (ho : ops[i]? = some o) (hw : Region.wanted o (yielded ops a.tmps) = true) (hab : ∀ w, o.about P w a.eval = none)
    (h : ∀ K : Act → Prop, (∀ a, wpEI F n P ops rds Q S rest a w → K a) → ∃ v, (∀ w1 : World, (execOp a.eval o).run P w1 = .ok (.value v) w1) ∧ K (a.put o.dst v)) : wpEI F n P ops rds Q S ((i, 0) :: rest) a w := by
  obtain ⟨v, h1, h2⟩ := h _ (fun _ h => h)
  simp only [wpEI, ho]
  exact ⟨v, ⟨.inl ⟨hw, fun w1 _ => h1 w1⟩, hab⟩, h2⟩
theorem stepI2 (ho : ops[i]? = some o) (hw : Region.wanted o (yielded ops a.tmps) = true) (hab : ∀ w, o.about P w a.eval = none) (v : Value) (h1 : ∀ w1 : World, S w1 → (execOp a.eval o).run P w1 = .ok (.value v) w1)
    (h : ∀ K : Act → Prop, (∀ a, wpEI F n P ops rds Q S rest a w → K a) → K (a.put o.dst v)) : wpEI F n P ops rds Q S ((i, 2) :: rest) a w := by
  have h2 := h _ (fun _ h => h)
  simp only [wpEI, ho]
  exact ⟨v, ⟨.inl ⟨hw, h1⟩, hab⟩, h2⟩
theorem stepI1 (ho : ops[i]? = some o) (hw : Region.wanted o (yielded ops a.tmps) = true) (hn : needs ops rds i = false)
    (h : ∀ K : Act → World → Prop, (∀ a' w', wpEI F n P ops rds Q S rest a' w' → K a' w') → o.wpIn F n P a w K Q) : wpEI F n P ops rds Q S ((i, 1) :: rest) a w := by
  simp only [wpEI, ho, wpOpIn, hw, if_true]
  exact h _ fun a' w' h => ⟨fun e => absurd e (by rw [hn]; simp), h⟩
theorem stepI1S (ho : ops[i]? = some o) (hw : Region.wanted o (yielded ops a.tmps) = true)
    (h : ∀ K : Act → World → Prop, (∀ a' w', S w' ∧ wpEI F n P ops rds Q S rest a' w' → K a' w') → o.wpIn F n P a w K Q) : wpEI F n P ops rds Q S ((i, 1) :: rest) a w := by
  simp only [wpEI, ho, wpOpIn, hw, if_true]
  exact h _ fun a' w' h => ⟨fun _ _ => h.1, h.2⟩
theorem stepInil (h : Q .normal a w) : wpEI F n P ops rds Q S [] a w := h
end
end
end Go.Proofs.Ytigkcbnlbdiimaa

/- Package pack: the parts of Put. -/
namespace Go.Proofs.Ytigkcbnlbdiimaa
open Go.RowKit Go.Shelf
attribute [local go_sem] Oper.semAt_some
/-- slices.Clone at []byte,byte. -/
theorem clone_info_Byte : (Try.prog.info? 5).map (fun i => (i.zero, i.size, i.bytes)) = some (some (.int .u8 0), 1, 1) := by kernel_rfl
set_option maxRecDepth 100000 in
set_option maxHeartbeats 1000000 in
theorem clone_Byte (v : Value) (n : Nat) (xs : List Value) (w : World) (h : Reads w 1 v n xs) (h1 : ∀ u ∈ xs, u.oneCell' = true) (hb : n * 1 ≤ 140737488355328) :
    Calls Try.prog 83 #[v] w (CloneOut w 5 1 v n xs) := by
  obtain ⟨i0, hi, hz0, hz1, hz2⟩ := info_parts clone_info_Byte
  obtain ⟨hlen, ⟨rfl, rfl⟩ | ⟨a, c, rfl, hm, hcell⟩⟩ := h
  · have hx : xs = [] := List.eq_nil_of_length_eq_zero (by simpa using hlen)
    subst hx
    clear hi hz0 hz1 hz2 hlen h1 hb
    have hne := fun (wx : World) => Lib.run_eql_slice_nil (P := Try.prog) wx 44 5 none 0 0 0 0 Try.underlying44
    go_enter Try.func83, Try.ntmps83
    go_wp2
    go_ret
    exact ⟨_, rfl, World.ownsRow_nil _ _ _ _, Iff.rfl, Below.refl _ _⟩
  · have hne := fun (wx : World) => Lib.run_eql_slice_nil (P := Try.prog) wx 44 5 (some a) n c 0 0 Try.underlying44
    have HI := Lib.hid hi
    have HZ0 := Lib.hid hz0
    have HZ1 := Lib.hid hz1
    have HZ2 := Lib.hid hz2
    have HL := Lib.hid hlen
    have HC := Lib.hid hcell
    have H1 := Lib.hid h1
    clear hi hz0 hz1 hz2 hlen hcell h1
    go_enter Try.func83, Try.ntmps83
    go_wp2_with (at_builtin; refine wpList_append_own _ rfl _ _ 44 rfl w.heap.size 5 i0 (.int .u8 0) 1 1 Try.underlying44 HI.out HZ0.out HZ1.out HZ2.out rfl (by decide) (.slice (some ⟨w.heap.size, 0, none⟩) 0 0) 0 [] rfl (World.ownsRow_lit w #[] 0 (Nat.le_refl _) (by unfold maxLen; omega) rfl) a n c xs rfl HL.out (fun j u hu => cell_later ((Below.refl _ _).alloc (Nat.le_refl _) _) (HC.out j u hu)) H1.out (by omega) (by omega) (by simp) ?_; intro v' w1 hown' hgrow hnil)
    go_ret
    exact ⟨_, rfl, by simpa using hown', by simpa using hnil, (((Below.refl _ _).alloc (Nat.le_refl _) _).grown hgrow (by simp) (by simp [Value.ownBlock]))⟩
set_option maxHeartbeats 400000 in
theorem sized_any (k : Int) (w : World) : Calls Try.prog 81 #[.int .i64 k] w fun e w' => e = .returned (.bool (k == 1 || k == 2 || k == 4 || k == 8)) ∧ w = w' := by
  go_enter Try.func81, Try.ntmps81
  go_wp2
  all_goals
    go_ret
    exact ⟨ret_bool (by simp [*]), rfl⟩
theorem byte_cast (n k : Nat) : ((n / 256 ^ k % 256 : Nat) : Int) = (n : Int) / 2 ^ (8 * k) % 256 := by
  rw [Int.natCast_emod, Int.natCast_ediv, Int.natCast_pow, show ((256 : Nat) : Int) = 2 ^ 8 from rfl, ← Int.pow_mul]
  rfl
theorem part_byte (n k : Nat) (hk : k < 8) (B : Nat) (w : World) (hn : n < 18446744073709551616) (hc : w.cell? ⟨B, 0, none⟩ = some (.int .u64 n)) :
    Calls Try.prog 84 #[.int .i64 k, .pointer (some ⟨B, 0, none⟩)] w fun e w' => e = .returned (.int .u8 ((n / 256 ^ k % 256 : Nat) : Int)) ∧ w = w' := by
  go_enter Try.func84, Try.ntmps84
  go_wp2
  go_ret
  exact ⟨ret_int (byte_cast n k).symm, rfl⟩
theorem fits_cast (n k : Nat) (hk : k ≠ 8) : decide (n < 256 ^ k) = ((k : Int) == 8 || (n : Int) / 2 ^ (8 * k) == 0) := by
  have h1 : ((k : Int) == 8) = false := beq_eq_false_iff_ne.2 (by omega)
  rw [h1, Bool.false_or, Bool.eq_iff_iff, decide_eq_true_iff, beq_iff_eq]
  have h2 : (n : Int) / 2 ^ (8 * k) = ((n / 256 ^ k : Nat) : Int) := by
    rw [Int.natCast_ediv, Int.natCast_pow, show ((256 : Nat) : Int) = 2 ^ 8 from rfl, ← Int.pow_mul]
  rw [h2]
  have h3 := Nat.div_eq_zero_iff_lt (x := n) (k := 256 ^ k) (Nat.pow_pos (by omega))
  omega
set_option maxHeartbeats 400000 in
theorem fits_any (n : Nat) (k : Nat) (hn : n < 18446744073709551616) (hk : k = 1 ∨ k = 2 ∨ k = 4 ∨ k = 8) (w : World) :
    Calls Try.prog 82 #[.int .u64 n, .int .i64 k] w fun e w' => e = .returned (.bool (decide (n < 256 ^ k))) ∧ w = w' := by
  by_cases h8 : k = 8
  · subst h8
    have hd : decide (n < 256 ^ 8) = true := by simpa using hn
    rw [hd]
    clear hd hk
    have H := Lib.hid hn
    clear hn
    go_enter Try.func82, Try.ntmps82
    go_wp2
    go_ret
    exact ⟨rfl, rfl⟩
  · have HD := Lib.hid (fits_cast n k h8)
    have hk9 : k < 8 := by omega
    have HK := Lib.hid hk
    clear hk
    go_enter Try.func82, Try.ntmps82
    go_wp2
    go_ret
    exact ⟨ret_bool (by rw [HD.out]), rfl⟩
/-- A byte as a value. -/
def bv (x : UInt8) : Value := .int .u8 (x.toNat : Int)
theorem bv_one (bs : List UInt8) : ∀ u ∈ bs.map bv, u.oneCell' = true := by
  intro u hu
  obtain ⟨x, _, rfl⟩ := List.mem_map.1 hu
  rfl
/-- The byte k of a number. -/
def nthByte (n k : Nat) : UInt8 := UInt8.ofNat (n / 256 ^ k)
theorem part_any (n k : Nat) (hk : k < 8) (B : Nat) (w : World) (hn : n < 18446744073709551616) (hc : w.cell? ⟨B, 0, none⟩ = some (.int .u64 n)) :
    Calls Try.prog 84 #[.int .i64 k, .pointer (some ⟨B, 0, none⟩)] w fun e w' => e = .returned (.int .u8 ((nthByte n k).toNat : Int)) ∧ w = w' := by
  have h := part_byte n k hk B w hn hc
  have e : (Value.int .u8 ((nthByte n k).toNat : Int)) = .int .u8 ((n / 256 ^ k % 256 : Nat) : Int) := by
    unfold nthByte
    rw [UInt8.toNat_ofNat']
  rw [e]
  exact h
/-- Two blocks lie as they lay. -/
def Kept (b c : Nat) (W W' : World) : Prop := W'.heap[b]? = W.heap[b]? ∧ W'.heap[c]? = W.heap[c]?
theorem Kept.refl (b c : Nat) (W : World) : Kept b c W W := ⟨rfl, rfl⟩
theorem Kept.trans {b c : Nat} {A B C : World} (h : Kept b c A B) (k : Kept b c B C) : Kept b c A C := ⟨k.1.trans h.1, k.2.trans h.2⟩
theorem Kept.cell1 {b c : Nat} {W W' : World} (h : Kept b c W W') (o : Nat) : W'.cell? ⟨b, o, none⟩ = W.cell? ⟨b, o, none⟩ := World.cell?_of_block (a := ⟨b, o, none⟩) h.1
theorem Kept.cell2 {b c : Nat} {W W' : World} (h : Kept b c W W') (o : Nat) : W'.cell? ⟨c, o, none⟩ = W.cell? ⟨c, o, none⟩ := World.cell?_of_block (a := ⟨c, o, none⟩) h.2
/-- Backward: what has come when the indices down to m are over. -/
def backL (L m : Nat) : List (Fin L) := ((List.finRange L).drop m).reverse
theorem backL_len (L m : Nat) : (backL L m).length = L - m := by simp [backL]
theorem backL_all (L : Nat) : backL L L = [] := by simp [backL, List.drop_eq_nil_of_le]
theorem backL_step (L j : Nat) (h : j < L) : backL L j = backL L (j + 1) ++ [⟨j, h⟩] := by
  unfold backL
  rw [List.drop_eq_getElem_cons (by simpa using h)]
  simp
def backEnc (zs : List UInt8) (i : Fin zs.length) : Array Value := #[.int .i64 (i.val : Int), .int .u8 (zs[i.val].toNat : Int)]
set_option maxRecDepth 100000 in
set_option maxHeartbeats 2000000 in
theorem back1_in (F : Fence) (n : Nat) (hF : F.fn 92) (hro : F.round = none) (hn : 1 ≤ n) (l Bs b off cap : Nat) (zs : List UInt8) (hreach : zs.length ≤ maxLen) (J Jx : List (Fin zs.length) → World → Prop)
    (hY : ∀ pre x W, J pre W → pre.length < zs.length → YieldAt F (n - 1) Try.prog l (backEnc zs x) W fun e W' =>
      (e = .returned (.bool true) ∧ J (pre ++ [x]) W' ∧ Kept b Bs W W') ∨ (e = .returned (.bool false) ∧ Jx (pre ++ [x]) W'))
    (W : World) (hBs : W.cell? ⟨Bs, 0, none⟩ = some (.slice (some ⟨b, off, none⟩) zs.length cap)) (hc : ∀ j (h : j < zs.length), W.cell? ⟨b, off + j, none⟩ = some (.int .u8 (zs[j].toNat : Int))) (h0 : J [] W) :
    CallsIn F n Try.prog 92 #[.func (.yield l) #[] #[], .pointer (some ⟨Bs, 0, none⟩)] W fun e W' => (∃ v, e = .returned v) ∧
      ((∃ ys, ys = backL zs.length 0 ∧ J ys W') ∨ (∃ pre, (∃ k, k ≤ zs.length ∧ pre = backL zs.length k) ∧ Jx pre W')) := by
  unfold maxLen at hreach
  have HC := Lib.hid hc
  clear hc
  refine callsIn_of_wp Try.func92 rfl hF ?_ hro
  simp only [Try.ntmps92, List.size_toArray, List.length_cons, List.length_nil, Nat.reduceAdd, Nat.reduceSub, Array.replicate_succ, Array.replicate_zero, List.push_toArray, List.append_toArray, List.nil_append, List.cons_append]
  gi_wp2
  gi_loopw [3] (fun i wr => ∃ m : Nat, m ≤ zs.length ∧ i = .int .i64 ((m : Int) - 1) ∧ J (backL zs.length m) wr ∧ Kept b Bs W wr)
    (fun i _ => (intOf i + 1).toNat)
  case atStart => exact ⟨zs.length, Nat.le_refl _, rfl, by rw [backL_all]; exact h0, Kept.refl _ _ _⟩
  case round =>
    obtain ⟨m, hm, rfl, hJ, hnx⟩ := hrel
    have hBs' := (hnx.cell2 0).trans hBs
    rcases m with _ | j
    · have HJ := Lib.hid hJ
      clear hJ
      gi_wp2
      go_end0
      exact ⟨⟨_, rfl⟩, .inl ⟨_, rfl, HJ.out⟩⟩
    · have hcx := (hnx.cell1 (off + j)).trans (HC.out j (by omega))
      have hjl : j < zs.length := by omega
      have HF := Lib.hid (backL_step zs.length j hjl)
      obtain ⟨fn, tmps, assign, body, hy, hR⟩ := hY _ ⟨j, hjl⟩ wr hJ (by rw [backL_len]; omega)
      dsimp only [backEnc] at hy
      have e1 : ((j + 1 : Nat) : Int) - 1 = (j : Int) := by omega
      rw [e1]
      clear e1 hJ
      gi_wp2
      refine hR.mono ?_
      rintro e W3 (⟨rfl, hJ3, hk3⟩ | ⟨rfl, hJx3⟩)
      · have HJ := Lib.hid hJ3
        have hk := hnx.trans hk3
        clear hJ3 hk3 hnx
        gi_wp2
        go_roundw
        case rel => exact ⟨j, by omega, rfl, by rw [HF.out]; exact HJ.out, hk⟩
        case measure => first | (simp [intOf]; done) | (simp [intOf]; omega)
      · have HJ := Lib.hid hJx3
        clear hJx3
        gi_wp2
        refine bodyPost_ret (results_none rfl _ _ _) rfl ?_
        exact ⟨⟨_, rfl⟩, .inr ⟨_, ⟨j, by omega, HF.out.symm⟩, HJ.out⟩⟩
set_option maxHeartbeats 1000000 in
theorem back_any (a : Option Addr) (len cap : Nat) (w : World) :
    Calls Try.prog 85 #[.slice a len cap] w fun e w' => e = .returned (.func (.func 92) #[] #[.pointer (some ⟨w.heap.size, 0, none⟩)]) ∧ w.alloc (.cells #[.slice a len cap] 44) = w' := by
  go_enter Try.func85, Try.ntmps85
  go_wp2
  go_ret
  exact ⟨rfl, rfl⟩
theorem back_stops (F : Fence) (n : Nat) (hF : F.fn 92) (hro : F.round = none) (hn : 1 ≤ n) (Bs b off cap : Nat) (zs : List UInt8) (hreach : zs.length ≤ maxLen) (w : World) (hBs : Bs < w.heap.size) (hb : b < w.heap.size)
    (hc : w.cell? ⟨Bs, 0, none⟩ = some (.slice (some ⟨b, off, none⟩) zs.length cap)) (hI : ∀ j (h : j < zs.length), w.cell? ⟨b, off + j, none⟩ = some (.int .u8 (zs[j].toNat : Int))) :
    SeqStopsK F n Try.prog 92 #[.pointer (some ⟨Bs, 0, none⟩)] (backEnc zs) (Kept b Bs) (fun ys => ys = backL zs.length 0)
      (fun pre => ∃ k, k ≤ zs.length ∧ pre = backL zs.length k) zs.length w := fun l J Jx W hW _ _ hY h0 =>
  back1_in F n hF hro hn l Bs b off cap zs hreach J Jx hY W ((hW.cell (p := ⟨Bs, 0, none⟩) hBs).trans hc) (fun j hj => (hW.cell (p := ⟨b, off + j, none⟩) hb).trans (hI j hj)) h0
theorem kept_put {b c : Nat} {w : World} (hb : b < w.heap.size) (hc : c < w.heap.size) (W : World) (l : Nat) (o o' : Obj) (hl : w.heap.size ≤ l) (_ : W.heap[l]? = some o) (_ : o.isCells = false) (_ : o.isWalk = false) : Kept b c W (W.putObj l o') := by
  constructor <;> (simp only [World.putObj]; rw [Array.getElem?_setIfInBounds]; rw [if_neg (by omega)])
/-- The temporaries behind the assignment to one left side. -/
def assignAct (a : Act) (ps : Array Tmp) (vs : Array Value) (d p : Tmp) : Act :=
  { tmps := (((ps.zip vs).foldl (fun t (p, v) => t.setIfInBounds p v) a.tmps)).setIfInBounds d ((((ps.zip vs).foldl (fun t (p, v) => t.setIfInBounds p v) a.tmps)).getD p undef), defers := [] }
theorem wpIn_assign_one {F : Fence} {n : Nat} {P : Program} {Q : Exit → Act → World → Prop} {id : Nat} {d p : Tmp} {ty : TypeId} {po : String} {a : Act} {w : World}
    (h : Q .normal (a.put (some d) (a.tmps.getD p undef)) w) : (Code.region id #[{ dst := some d, op := .assign (.tmp p), type := ty, pos := po, after := #[], guard := none }] false).wpIn F n P Q a w := by
  refine wpIn_region ?_
  show wpOpsIn F n P _ Q [0] a w
  simp only [wpOpsIn, List.getElem?_toArray, List.getElem?_cons_zero, Region.wanted, if_true]
  unfold Oper.wpIn
  refine ⟨fun f hf => (by cases hf), ?_⟩
  rw [Oper.semAt_eq _ _ _ (by intro c hc; cases hc)]
  exact h
/-- A range over a function whose one variable is assigned. -/
theorem wpIn_rangeFunc_one {F : Fence} {n : Nat} {P : Program} {α : Type} {g : Operand} {ps : Array Tmp} {id : Nat} {d p : Tmp} {ty : TypeId} {po : String} {body : Code} {Q : Exit → Act → World → Prop} {a : Act} {w : World}
    (hro : F.round = none) (h1 : 1 ≤ n) {gf : Nat} {lb : Array Value} (hg : a.eval g = .func (.func gf) #[] lb) (hFg : F.fn gf) (eg : ∀ args w, (callFunc gf args).run P w = .ok (.enter gf args) w)
    {encs : α → Array Value} {Kp : World → World → Prop} {S Sp : List α → Prop} {N : Nat} {w0 : World} (hseq : SeqStopsK F (n - 1) P gf lb encs Kp S Sp N w0)
    (hKt : ∀ {A B C : World}, Kp A B → Kp B C → Kp A C) (hKb : ∀ (W : World) (l : Nat) (o o' : Obj), w.heap.size ≤ l → W.heap[l]? = some o → o.isCells = false → o.isWalk = false → Kp W (W.putObj l o')) (hb0 : Below w0.heap.size w0 w) (hps : ∀ x, (encs x).size = ps.size)
    (I : List α → World → Prop) (Ix : Code → List α → World → Prop) (hI : OwnFrom w.heap.size I) (hIx : ∀ c, OwnFrom w.heap.size (Ix c)) (h0 : I [] w)
    (hbody : ∀ (l : Nat) (pre : List α) (x : α) (W : World), I pre W → pre.length < N → body.wpIn (F.inRound l) (n - 1 - 1) P (ownPostG w.heap.size Kp I Ix (pre ++ [x]) W) (assignAct a ps (encs x) d p) W)
    (hdone : ∀ (D : Nat) (xs : List α) (W : World), w.heap.size ≤ D → S xs → I xs W → W.heap[D]? = some (.deferred (some [])) → Q .normal { a with defers := { target := .collected D, args := #[] } :: a.defers } W)
    (hstop : ∀ (D : Nat) (c : Code) (pre : List α) (W : World), w.heap.size ≤ D → Sp pre → Ix c pre W → W.heap[D]? = some (.deferred (some [])) → c.wpIn F n P Q { a with defers := { target := .collected D, args := #[] } :: a.defers } W) :
    (Code.rangeFunc g ps (Code.region id #[{ dst := some d, op := .assign (.tmp p), type := ty, pos := po, after := #[], guard := none }] false) body).wpIn F n P Q a w :=
  wpIn_rangeFunc_ownG hro h1 hg hFg eg hseq hKt hKb hb0 hps I Ix hI hIx h0 (fun x => assignAct a ps (encs x) d p)
    (fun l x W K hK => wpIn_assign_one hK) hbody hdone hstop
end Go.Proofs.Ytigkcbnlbdiimaa

/- Bytes read from memory, and corncribref01.Same at any two lists of bytes. No condition but that they are read. -/
namespace Go.Proofs.Ytigkcbnlbdiimaa
open Go.RowKit
theorem spot_none {w : World} {a : Addr} {u : Value} (h : w.cell? a = some u) : a = ⟨a.block, a.off, none⟩ := by
  have hs : a.spot = none := by
    cases hs : a.spot with
    | none => rfl
    | some s => simp [World.cell?, hs] at h; split at h <;> simp_all
  cases a
  simp_all
theorem reads_addr {w : World} {v : Value} {n : Nat} {xs : List Value} (h : Reads w 1 v n xs) (hn : 0 < n) :
    ∃ b o c, v = .slice (some ⟨b, o, none⟩) n c ∧ b < w.heap.size ∧ n ≤ maxLen ∧ ∀ (j : Nat) (u : Value), xs[j]? = some u → w.cell? ⟨b, o + j, none⟩ = some u := by
  obtain ⟨hl, ⟨_, h0⟩ | ⟨a, c, rfl, hm, hc⟩⟩ := h
  · omega
  · have h0 : xs[0]? = some xs[0] := List.getElem?_eq_getElem (by omega)
    have h1 := hc 0 _ h0
    have ha : a = ⟨a.block, a.off, none⟩ := spot_none (by simpa [Addr.add] using h1)
    have hb := World.block_lt_of_cell? w _ h1
    refine ⟨a.block, a.off, c, by rw [← ha], by simpa [Addr.add] using hb, hm, fun j u hu => ?_⟩
    have h2 := hc j u hu
    have e : a.add j = ⟨a.block, a.off + j, none⟩ := by
      rw [ha]
      unfold Addr.add
      split
      · rename_i hz; rw [hz]; rfl
      · rfl
    rwa [e] at h2
theorem reads_len {w : World} {sz : Nat} {v : Value} {n : Nat} {xs : List Value} (h : Reads w sz v n xs) : ∃ a c, v = .slice a n c := by
  obtain ⟨_, ⟨rfl, rfl⟩ | ⟨a, c, rfl, _⟩⟩ := h
  · exact ⟨none, 0, rfl⟩
  · exact ⟨some a, c, rfl⟩
theorem sl_inj {a b : Option Addr} {n m c d : Nat} (h : Value.slice a n c = .slice b m d) : a = b ∧ n = m ∧ c = d := by simpa using h
set_option maxRecDepth 100000 in
set_option maxHeartbeats 1000000 in
theorem same_any (va vb : Value) (xs ys : List UInt8) (w : World) (ha : Reads w 1 va xs.length (xs.map bv)) (hb : Reads w 1 vb ys.length (ys.map bv)) :
    Calls Try.prog 23 #[va, vb] w fun e w' => e = .returned (.bool (decide (xs = ys))) ∧ Below w.heap.size w w' := by
  obtain ⟨a1, c1, rfl⟩ := reads_len ha
  obtain ⟨a2, c2, rfl⟩ := reads_len hb
  by_cases hl : xs.length = ys.length
  · have hdl : ((xs.length : Int) != (ys.length : Int)) = false := by rw [hl]; simp
    have HL := Lib.hid hl
    have HA := Lib.hid ha
    have HB := Lib.hid hb
    clear hl ha hb
    go_enter Try.func23, Try.ntmps23
    go_wp2
    go_loopw [5] (fun i wr => ∃ k : Nat, k ≤ xs.length ∧ i = .int .i64 k ∧ xs.take k = ys.take k ∧ Below w.heap.size w wr) (fun i _ => xs.length - (intOf i).toNat)
    case atStart => exact ⟨0, Nat.zero_le _, rfl, rfl, Below.refl _ _⟩
    case round =>
      obtain ⟨k, hk, rfl, ht, hbw⟩ := hrel
      have HT := Lib.hid ht
      have HBW := Lib.hid hbw
      clear ht hbw
      by_cases hlt : k < xs.length
      · have hlt2 : k < ys.length := by have := HL.out; omega
        obtain ⟨b1, o1, _, e1, hb1, hm1, hc1⟩ := reads_addr HA.out (by omega)
        obtain ⟨b2, o2, _, e2, hb2, hm2, hc2⟩ := reads_addr HB.out (by omega)
        obtain ⟨rfl, -, rfl⟩ := sl_inj e1
        obtain ⟨rfl, -, rfl⟩ := sl_inj e2
        have k1 := (HBW.out.cell (p := ⟨b1, o1 + k, none⟩) hb1).trans (hc1 k (bv xs[k]) (by rw [List.getElem?_map, List.getElem?_eq_getElem hlt]; rfl))
        have k2 := (HBW.out.cell (p := ⟨b2, o2 + k, none⟩) hb2).trans (hc2 k (bv ys[k]) (by rw [List.getElem?_map, List.getElem?_eq_getElem hlt2]; rfl))
        unfold maxLen at hm1 hm2
        clear e1 e2 hc1 hc2
        have hi0 : (0 : Int) ≤ (k : Int) := by omega
        have hi1 : (k : Int) < (xs.length : Int) := by omega
        have hi2 : (k : Int) < (ys.length : Int) := by omega
        have HX := Lib.hid (show xs.take (k + 1) = xs.take k ++ [xs[k]] by rw [List.take_succ_eq_append_getElem hlt])
        have HY := Lib.hid (show ys.take (k + 1) = ys.take k ++ [ys[k]] by rw [List.take_succ_eq_append_getElem hlt2])
        unfold bv at k1 k2
        obtain ⟨x, hx⟩ : ∃ x, xs[k] = x := ⟨_, rfl⟩
        obtain ⟨y, hy⟩ : ∃ y, ys[k] = y := ⟨_, rfl⟩
        have HXX := Lib.hid hx
        have HYY := Lib.hid hy
        rw [hx] at k1
        rw [hy] at k2
        clear hx hy
        by_cases hxy : x = y
        · have hxe : ((x.toNat : Int) != (y.toNat : Int)) = false := by rw [hxy]; simp
          have HXY := Lib.hid hxy
          clear hxy
          go_wp2_with fail
          refine wp_region_now0 [3, 7] [(0, 0), (1, 0), (2, 0), (3, 2), (4, 0), (5, 0), (6, 0), (7, 2), (8, 0)] (by kernel_rfl) (by kernel_rfl) rfl (by kernel_rfl) ?_
          refine stepE0 rfl rfl (fun K hK => ?_)
          go_simp
          refine hK _ ?_
          clear hK K
          refine stepE0 rfl rfl (fun K hK => ?_)
          go_simp
          refine hK _ ?_
          clear hK K
          refine stepE0 rfl rfl (fun K hK => ?_)
          go_simp
          refine hK _ ?_
          clear hK K
          refine stepE2 rfl rfl ?_ (fun w1 hS => ?_) (fun K hK => ?_)
          rotate_left
          focus (obtain rfl : w1 = _ := hS; go_simp; rfl)
          go_simp
          refine hK _ ?_
          clear hK K
          refine stepE0 rfl rfl (fun K hK => ?_)
          go_simp
          refine hK _ ?_
          clear hK K
          refine stepE0 rfl rfl (fun K hK => ?_)
          go_simp
          refine hK _ ?_
          clear hK K
          refine stepE0 rfl rfl (fun K hK => ?_)
          go_simp
          refine hK _ ?_
          clear hK K
          refine stepE2 rfl rfl ?_ (fun w1 hS => ?_) (fun K hK => ?_)
          rotate_left
          focus (obtain rfl : w1 = _ := hS; go_simp; rfl)
          go_simp
          refine hK _ ?_
          clear hK K
          refine stepE0 rfl rfl (fun K hK => ?_)
          go_simp
          refine hK _ ?_
          clear hK K
          try refine stepEnil0 ?_
          go_wp2_with fail
          go_roundw
          case rel => exact ⟨k + 1, by omega, by go_num, by rw [HX.out, HY.out, HT.out, HXX.out, HYY.out, HXY.out], HBW.out.drew⟩
          case measure => simp [intOf]; omega
        · have hxe : ((x.toNat : Int) != (y.toNat : Int)) = true := by
            rw [bne_iff_ne]
            intro h
            exact hxy (UInt8.toNat_inj.1 (by omega))
          have HXY := Lib.hid hxy
          clear hxy
          go_wp2_with fail
          refine wp_region_now0 [3, 7] [(0, 0), (1, 0), (2, 0), (3, 2), (4, 0), (5, 0), (6, 0), (7, 2), (8, 0)] (by kernel_rfl) (by kernel_rfl) rfl (by kernel_rfl) ?_
          refine stepE0 rfl rfl (fun K hK => ?_)
          go_simp
          refine hK _ ?_
          clear hK K
          refine stepE0 rfl rfl (fun K hK => ?_)
          go_simp
          refine hK _ ?_
          clear hK K
          refine stepE0 rfl rfl (fun K hK => ?_)
          go_simp
          refine hK _ ?_
          clear hK K
          refine stepE2 rfl rfl ?_ (fun w1 hS => ?_) (fun K hK => ?_)
          rotate_left
          focus (obtain rfl : w1 = _ := hS; go_simp; rfl)
          go_simp
          refine hK _ ?_
          clear hK K
          refine stepE0 rfl rfl (fun K hK => ?_)
          go_simp
          refine hK _ ?_
          clear hK K
          refine stepE0 rfl rfl (fun K hK => ?_)
          go_simp
          refine hK _ ?_
          clear hK K
          refine stepE0 rfl rfl (fun K hK => ?_)
          go_simp
          refine hK _ ?_
          clear hK K
          refine stepE2 rfl rfl ?_ (fun w1 hS => ?_) (fun K hK => ?_)
          rotate_left
          focus (obtain rfl : w1 = _ := hS; go_simp; rfl)
          go_simp
          refine hK _ ?_
          clear hK K
          refine stepE0 rfl rfl (fun K hK => ?_)
          go_simp
          refine hK _ ?_
          clear hK K
          try refine stepEnil0 ?_
          go_wp2_with fail
          go_ret
          refine ⟨ret_bool (decide_eq_false fun h => HXY.out ?_).symm, HBW.out.drew⟩
          subst h
          rw [← HXX.out, ← HYY.out]
      · go_wp2_with fail
        go_ret
        refine ⟨ret_bool (decide_eq_true ?_).symm, HBW.out⟩
        have := HT.out
        rwa [List.take_of_length_le (by omega), List.take_of_length_le (by have := HL.out; omega)] at this
  · have hdl : ((xs.length : Int) != (ys.length : Int)) = true := by rw [bne_iff_ne]; omega
    have HL := Lib.hid hl
    clear hl ha hb
    go_enter Try.func23, Try.ntmps23
    go_wp2
    go_ret
    exact ⟨ret_bool (decide_eq_false fun h => HL.out (by rw [h])).symm, Below.refl _ _⟩
end Go.Proofs.Ytigkcbnlbdiimaa

/- Package pack: what Put holds while it works. -/
namespace Go.Proofs.Ytigkcbnlbdiimaa
open Go.RowKit Go.Shelf
theorem Reads.below {w w' : World} {sz : Nat} {v : Value} {n : Nat} {xs : List Value} (h : Reads w sz v n xs) (hb : Below w.heap.size w w') : Reads w' sz v n xs := by
  refine ⟨h.1, h.2.imp id ?_⟩
  rintro ⟨a, c, rfl, hn, hc⟩
  exact ⟨a, c, rfl, hn, fun j u hu => cell_later hb (hc j u hu)⟩
/-- The boxes of Put: the number's at Bn, out's at Bo, rest's at Br. -/
structure PutSt (w0 w : World) (Bn Bo Br n : Nat) (vo : Value) (os : List UInt8) (vr : Value) (rs : List UInt8) : Prop where
  bel : Below w0.heap.size w0 w
  hn : w.heap[Bn]? = some (.cells #[.int .u64 n] 114 (0, 0))
  ho : w.heap[Bo]? = some (.cells #[vo] 44 (0, 0))
  hr : w.heap[Br]? = some (.cells #[vr] 44 (0, 0))
  ro : w.ownsRow w0.heap.size 5 1 vo os.length (os.map bv)
  rr : w.ownsRow w0.heap.size 5 1 vr rs.length (rs.map bv)
  low : w0.heap.size ≤ Bn ∧ w0.heap.size ≤ Bo ∧ w0.heap.size ≤ Br
  ne : Bn ≠ Bo ∧ Bn ≠ Br ∧ Bo ≠ Br
  no : vo.ownBlock ≠ some Bn ∧ vo.ownBlock ≠ some Bo ∧ vo.ownBlock ≠ some Br
  nr : vr.ownBlock ≠ some Bn ∧ vr.ownBlock ≠ some Bo ∧ vr.ownBlock ≠ some Br
  apart : ∀ g, vo.ownBlock = some g → vr.ownBlock ≠ some g
theorem PutSt.lt {w0 w : World} {Bn Bo Br n : Nat} {vo : Value} {os : List UInt8} {vr : Value} {rs : List UInt8} (h : PutSt w0 w Bn Bo Br n vo os vr rs) : Bn < w.heap.size ∧ Bo < w.heap.size ∧ Br < w.heap.size :=
  ⟨(Array.getElem?_eq_some_iff.1 h.hn).1, (Array.getElem?_eq_some_iff.1 h.ho).1, (Array.getElem?_eq_some_iff.1 h.hr).1⟩
theorem PutSt.cells {w0 w : World} {Bn Bo Br n : Nat} {vo : Value} {os : List UInt8} {vr : Value} {rs : List UInt8} (h : PutSt w0 w Bn Bo Br n vo os vr rs) :
    w.cell? ⟨Bn, 0, none⟩ = some (.int .u64 n) ∧ w.cell? ⟨Bo, 0, none⟩ = some vo ∧ w.cell? ⟨Br, 0, none⟩ = some vr ∧ w.frozen? ⟨Bo, 0, none⟩ = false ∧ w.frozen? ⟨Br, 0, none⟩ = false :=
  ⟨by rw [cell_of_row w Bn 0 _ _ _ h.hn]; rfl, by rw [cell_of_row w Bo 0 _ _ _ h.ho]; rfl, by rw [cell_of_row w Br 0 _ _ _ h.hr]; rfl, frozen_of_row w Bo 0 _ _ h.ho, frozen_of_row w Br 0 _ _ h.hr⟩
theorem PutSt.keep {w0 w w' : World} {Bn Bo Br n : Nat} {vo : Value} {os : List UInt8} {vr : Value} {rs : List UInt8} (h : PutSt w0 w Bn Bo Br n vo os vr rs) (hb : Below w.heap.size w w') : PutSt w0 w' Bn Bo Br n vo os vr rs := by
  obtain ⟨h1, h2, h3⟩ := h.lt
  exact ⟨h.bel.trans (hb.mono h.bel.size), (hb.block _ h1).trans h.hn, (hb.block _ h2).trans h.ho, (hb.block _ h3).trans h.hr,
    ownsRow_at h.ro (fun k hk => hb.block k (h.ro.lt k hk).2), ownsRow_at h.rr (fun k hk => hb.block k (h.rr.lt k hk).2), h.low, h.ne, h.no, h.nr, h.apart⟩
theorem PutSt.drew {w0 w : World} {Bn Bo Br n : Nat} {vo : Value} {os : List UInt8} {vr : Value} {rs : List UInt8} (h : PutSt w0 w Bn Bo Br n vo os vr rs) : PutSt w0 w.drew Bn Bo Br n vo os vr rs :=
  h.keep ((Below.refl _ w).drew)
/-- An append to rest, stored back. -/
theorem PutSt.onRest {w0 w w2 : World} {Bn Bo Br n g cap m : Nat} {vo : Value} {os : List UInt8} {vr : Value} {rs ns : List UInt8} (h : PutSt w0 w Bn Bo Br n vo os vr rs)
    (hg : w.grownBy w2 vr.ownBlock) (hown : w2.ownsRow w0.heap.size 5 1 (.slice (some ⟨g, 0, none⟩) m cap) m ((rs ++ ns).map bv)) (hm : m = (rs ++ ns).length) (hat : vr.ownBlock = some g ∨ g = w.heap.size) :
    PutSt w0 (w2.setCell ⟨Br, 0, none⟩ (.slice (some ⟨g, 0, none⟩) m cap)) Bn Bo Br n vo os (.slice (some ⟨g, 0, none⟩) m cap) (rs ++ ns) := by
  subst hm
  obtain ⟨h1, h2, h3⟩ := h.lt
  obtain ⟨e1, e2, e3⟩ := h.ne
  have hgn : g ≠ Bn ∧ g ≠ Bo ∧ g ≠ Br := by
    obtain ⟨x1, x2, x3⟩ := h.nr
    rcases hat with h' | h'
    · refine ⟨fun e => x1 (by rw [h', e]), fun e => x2 (by rw [h', e]), fun e => x3 (by rw [h', e])⟩
    · omega
  have b1 := hg.block Bn h1 (fun e => h.nr.1 e.symm)
  have b2 := hg.block Bo h2 (fun e => h.nr.2.1 e.symm)
  have b3 := hg.block Br h3 (fun e => h.nr.2.2 e.symm)
  refine ⟨(h.bel.grown hg h.bel.size (fun k e => (h.rr.lt k e).1)).setCell h.low.2.2 _, (heap_setCell_other w2 _ Bn _ e2).trans (b1.trans h.hn), (heap_setCell_other w2 _ Bo _ e3).trans (b2.trans h.ho), heap_setCell_same w2 Br 0 _ _ _ (b3.trans h.hr),
    ownsRow_at (ownsRow_at h.ro (fun k hk => hg.block k (h.ro.lt k hk).2 (fun e => h.apart k hk e.symm))) (fun k hk => heap_setCell_other w2 _ k _ (fun e => h.no.2.2 (by rw [hk, e]))), ownsRow_at hown (fun k hk => heap_setCell_other w2 _ k _ (fun e => hgn.2.2 (by have h1 : g = k := (by simpa [Value.ownBlock] using hk); exact h1.trans e))),
    h.low, h.ne, h.no, ⟨fun e => hgn.1 (by simpa [Value.ownBlock] using e), fun e => hgn.2.1 (by simpa [Value.ownBlock] using e), fun e => hgn.2.2 (by simpa [Value.ownBlock] using e)⟩, ?_⟩
  intro k hk e
  have e' : g = k := by simpa [Value.ownBlock] using e
  subst e'
  rcases hat with h' | h'
  · exact h.apart g hk h'
  · have := (h.ro.lt g hk).2; omega
/-- An append to out, stored back. -/
theorem PutSt.onOut {w0 w w2 : World} {Bn Bo Br n g cap m : Nat} {vo : Value} {os ns : List UInt8} {vr : Value} {rs : List UInt8} (h : PutSt w0 w Bn Bo Br n vo os vr rs)
    (hg : w.grownBy w2 vo.ownBlock) (hown : w2.ownsRow w0.heap.size 5 1 (.slice (some ⟨g, 0, none⟩) m cap) m ((os ++ ns).map bv)) (hm : m = (os ++ ns).length) (hat : vo.ownBlock = some g ∨ g = w.heap.size) :
    PutSt w0 (w2.setCell ⟨Bo, 0, none⟩ (.slice (some ⟨g, 0, none⟩) m cap)) Bn Bo Br n (.slice (some ⟨g, 0, none⟩) m cap) (os ++ ns) vr rs := by
  subst hm
  obtain ⟨h1, h2, h3⟩ := h.lt
  obtain ⟨e1, e2, e3⟩ := h.ne
  have hgn : g ≠ Bn ∧ g ≠ Bo ∧ g ≠ Br := by
    obtain ⟨x1, x2, x3⟩ := h.no
    rcases hat with h' | h'
    · refine ⟨fun e => x1 (by rw [h', e]), fun e => x2 (by rw [h', e]), fun e => x3 (by rw [h', e])⟩
    · omega
  have b1 := hg.block Bn h1 (fun e => h.no.1 e.symm)
  have b2 := hg.block Bo h2 (fun e => h.no.2.1 e.symm)
  have b3 := hg.block Br h3 (fun e => h.no.2.2 e.symm)
  refine ⟨(h.bel.grown hg h.bel.size (fun k e => (h.ro.lt k e).1)).setCell h.low.2.1 _, (heap_setCell_other w2 _ Bn _ e1).trans (b1.trans h.hn), heap_setCell_same w2 Bo 0 _ _ _ (b2.trans h.ho), (heap_setCell_other w2 _ Br _ (fun e => e3 e.symm)).trans (b3.trans h.hr),
    ownsRow_at hown (fun k hk => heap_setCell_other w2 _ k _ (fun e => hgn.2.1 (by have h1 : g = k := (by simpa [Value.ownBlock] using hk); exact h1.trans e))), ownsRow_at (ownsRow_at h.rr (fun k hk => hg.block k (h.rr.lt k hk).2 (fun e => h.apart k e.symm hk))) (fun k hk => heap_setCell_other w2 _ k _ (fun e => h.nr.2.1 (by rw [hk, e]))),
    h.low, h.ne, ⟨fun e => hgn.1 (by simpa [Value.ownBlock] using e), fun e => hgn.2.1 (by simpa [Value.ownBlock] using e), fun e => hgn.2.2 (by simpa [Value.ownBlock] using e)⟩, h.nr, ?_⟩
  intro k hk e
  have e' : g = k := by simpa [Value.ownBlock] using hk
  subst e'
  rcases hat with h' | h'
  · exact h.apart g h' e
  · have := (h.rr.lt g e).2; omega
theorem PutSt.start (w w1 : World) (n : Nat) (a1 : Option Addr) (nb c1 : Nat) (bs : List UInt8) (hnb : nb = bs.length) (x : UInt8) (hB : Below w.heap.size w w1) (kb : w1.heap[w.heap.size]? = some (.cells #[.int .u64 n] 114 (0, 0)))
    (ho : w1.ownsRow (w.heap.size + 1) 5 1 (.slice a1 nb c1) nb (bs.map bv)) (hz : w.heap.size < w1.heap.size) :
    PutSt w (((w1.alloc (.cells #[.slice a1 nb c1] 44)).alloc (.cells #[.int .u8 (x.toNat : Int)] 5)).alloc (.cells #[.slice (some ⟨w1.heap.size + 1, 0, none⟩) 1 1] 44))
      w.heap.size w1.heap.size (w1.heap.size + 1 + 1) n (.slice a1 nb c1) bs (.slice (some ⟨w1.heap.size + 1, 0, none⟩) 1 1) [x] := by
  subst hnb
  have hlt := ho.lt
  have h1 : ∀ k, k < w1.heap.size → (((w1.alloc (.cells #[.slice a1 bs.length c1] 44)).alloc (.cells #[.int .u8 (x.toNat : Int)] 5)).alloc (.cells #[.slice (some ⟨w1.heap.size + 1, 0, none⟩) 1 1] 44)).heap[k]? = w1.heap[k]? := fun k hk => by
    rw [Below.heap_alloc _ _ _ (by simp; omega), Below.heap_alloc _ _ _ (by simp; omega), Below.heap_alloc _ _ _ hk]
  refine ⟨((hB.alloc (by omega) _).alloc (by simp; omega) _).alloc (by simp; omega) _, (h1 _ hz).trans kb, ?_, ?_, ownsRow_at (ownsRow_mono ho (by omega)) (fun k hk => h1 k (hlt k hk).2), ?_, ⟨Nat.le_refl _, by omega, by omega⟩, ⟨by omega, by omega, by omega⟩,
    ⟨fun e => by have := hlt _ e; omega, fun e => by have := hlt _ e; omega, fun e => by have := hlt _ e; omega⟩, ⟨by simp [Value.ownBlock]; omega, by simp [Value.ownBlock], by simp [Value.ownBlock]⟩, fun g hg => by have := hlt _ hg; simp [Value.ownBlock]; omega⟩
  · rw [Below.heap_alloc _ _ _ (by simp; omega), Below.heap_alloc _ _ _ (by simp)]
    exact heap_alloc_new _ _
  · have := heap_alloc_new ((w1.alloc (.cells #[.slice a1 bs.length c1] 44)).alloc (.cells #[.int .u8 (x.toNat : Int)] 5)) (.cells #[.slice (some ⟨w1.heap.size + 1, 0, none⟩) 1 1] 44)
    simpa using this
  · have h2 := (World.ownsRow_lit (base := w.heap.size) (e := 5) (size := 1) (w1.alloc (.cells #[.slice a1 bs.length c1] 44)) #[.int .u8 (x.toNat : Int)] 1 (by simp; omega) (by unfold maxLen; omega) rfl).alloc (.cells #[.slice (some ⟨w1.heap.size + 1, 0, none⟩) 1 1] 44)
    simpa [bv] using h2
theorem wpIn_append_lies {P : Program} {F : Fence} {nn : Nat} (w : World) {o : Oper} {a : Act} {K : Act → World → Prop} {Q : Exit → Act → World → Prop} (s x : Operand) (t : TypeId)
    (ho : o.op = .call { callee := .builtin .append, args := #[s, x], argTypes := #[t, t] })
    (base : Nat) (e : TypeId) (i : TypeInfo) (z : Value) (size bytes : Nat) (ht : P.underlying t = some (.slice e)) (hi : P.info? e = some i) (hz : i.zero = some z)
    (hsize : i.size = size) (hby : i.bytes = bytes) (hzs : z.cells.size = size) (hsz : 0 < size)
    (v : Value) (n : Nat) (xs : List Value) (hs : a.eval s = v) (hown : w.ownsRow base e size v n xs)
    (ad : Addr) (m c : Nat) (news : List Value) (hx : a.eval x = .slice (some ad) m c) (hl : news.length = m * size) (hnews : ∀ j u, news[j]? = some u → w.cell? (ad.add j) = some u) (h1 : ∀ u ∈ news, u.oneCell' = true)
    (hm : 0 < m) (h63 : n + m ≤ maxLen) (hbytes : (n + m) * bytes ≤ 140737488355328) (hbase : base ≤ w.heap.size) (H : Nat) (hH : w.heap.size = H)
    (h : ∀ g cap w', w'.ownsRow base e size (.slice (some ⟨g, 0, none⟩) (n + m) cap) (n + m) (xs ++ news) → w.grownBy w' v.ownBlock → (v.ownBlock = some g ∨ g = H) → g < w'.heap.size → K (a.put o.dst (.slice (some ⟨g, 0, none⟩) (n + m) cap)) w') : o.wpIn F nn P a w K Q := by
  obtain ⟨g, cap, w', hr, h2, h3, h4, h5⟩ := run_append_lies (P := P) w t o.type base e i z size bytes ht hi hz hsize hby hzs hsz v n xs hown ad m c news hl hnews h1 hm h63 hbytes hbase H hH
  unfold Oper.wpIn
  refine ⟨fun f hf => ?_, ?_⟩
  · simp [Oper.about, ho, resolve, Target.leads] at hf
  · rw [Oper.semAt_eq _ _ _ (by rw [ho]; intro c hc; cases hc)]
    unfold execOp
    simp only [ho, resolve, invoke, builtin, Sem.run_bind, Sem.run_pure, Result.andThen_ok, List.map_toArray, List.map_cons, List.map_nil, hs, hx, hr]
    exact h g cap w' h2 h3 h4 h5
theorem owns_cells {w : World} {base : Nat} {e : TypeId} {size n : Nat} {v : Value} {xs : List Value} (h : w.ownsRow base e size v n xs) (k : Nat) (hk : v.ownBlock = some k) : ∃ cs t f, w.heap[k]? = some (.cells cs t f) := by
  rcases h.2 with ⟨rfl, _⟩ | ⟨g, cap, cur, rfl, _, hg, _⟩
  · cases hk
  · have e : g = k := by simpa [Value.ownBlock] using hk
    subst e
    exact ⟨_, _, _, hg⟩
theorem PutSt.grown {w0 w w' : World} {Bn Bo Br n : Nat} {vo : Value} {os : List UInt8} {vr : Value} {rs : List UInt8} {row : Option Nat} {B : Nat} (h : PutSt w0 w Bn Bo Br n vo os vr rs) (hg : w.grownBy w' row)
    (hB : w0.heap.size ≤ B) (hr : ∀ r, row = some r → B ≤ r ∧ ∃ o : Obj, w.heap[r]? = some o ∧ o.isCells = false) : PutSt w0 w' Bn Bo Br n vo os vr rs := by
  obtain ⟨h1, h2, h3⟩ := h.lt
  have key : ∀ (k : Nat) (cs : Array Value) (t : TypeId) (f : Nat × Nat), w.heap[k]? = some (Obj.cells cs t f) → w'.heap[k]? = w.heap[k]? := fun k cs t f hk => hg.block k (Array.getElem?_eq_some_iff.1 hk).1 (fun e => by
    obtain ⟨_, o, ho, hc⟩ := hr k e.symm
    rw [hk] at ho
    cases ho
    cases hc)
  refine ⟨h.bel.grown hg h.bel.size (fun k e => Nat.le_trans hB (hr k e).1), (key _ _ _ _ h.hn).trans h.hn, (key _ _ _ _ h.ho).trans h.ho, (key _ _ _ _ h.hr).trans h.hr,
    ownsRow_at h.ro (fun k hk => ?_), ownsRow_at h.rr (fun k hk => ?_), h.low, h.ne, h.no, h.nr, h.apart⟩
  · obtain ⟨cs, t, f, hc⟩ := owns_cells h.ro k hk
    exact key k cs t f hc
  · obtain ⟨cs, t, f, hc⟩ := owns_cells h.rr k hk
    exact key k cs t f hc
theorem owns_len {w : World} {base : Nat} {e : TypeId} {size n : Nat} {v : Value} {xs : List Value} (h : w.ownsRow base e size v n xs) : ∃ a m c, v = .slice a m c ∧ Hid (m = n) := by
  obtain ⟨a, c, rfl⟩ := ownsRow_len h
  exact ⟨a, n, c, rfl, Lib.hid rfl⟩
theorem owns_cap {w : World} {base : Nat} {e : TypeId} {size n c : Nat} {a : Addr} {xs : List Value} (h : w.ownsRow base e size (.slice (some a) n c) n xs) : n ≤ c ∧ c ≤ 9223372036854775807 := by
  rcases h.2 with ⟨h1, _⟩ | ⟨g, cap, cur, h1, _, _, h2, h3, _⟩
  · cases h1
  · obtain ⟨_, _, rfl⟩ : some a = some ⟨g, 0, none⟩ ∧ n = n ∧ c = cap := by simpa using h1
    exact ⟨h2, h3⟩
end Go.Proofs.Ytigkcbnlbdiimaa

/- Package pack: Put at each size. (Written by wip/genput.py.) -/
namespace Go.Proofs.Ytigkcbnlbdiimaa
open Go.RowKit Go.Shelf
attribute [local go_sem] Oper.semAt_some
theorem byte_info : (Try.prog.info? 5).map (fun i => (i.zero, i.size, i.bytes)) = some (some (.int .u8 0), 1, 1) := by kernel_rfl
set_option maxRecDepth 100000 in
set_option maxHeartbeats 8000000 in
theorem put_4 (v : Value) (bs : List UInt8) (n : Nat) (w : World) (h : Reads w 1 v bs.length (bs.map bv)) (hlen : bs.length ≤ 70368744177664) (hn : n < 18446744073709551616) (hfit : n < 256 ^ 4) :
    Calls Try.prog 60 #[v, .int .u64 n, .int .i64 4] w fun e w' => ∃ v', e = .returned (.tuple #[v', .nilIface]) ∧ w'.ownsRow w.heap.size 5 1 v' (bs ++ (List.range 4).map (nthByte n)).length ((bs ++ (List.range 4).map (nthByte n)).map bv) ∧ Below w.heap.size w w' := by
  have hfit' : decide (n < 256 ^ 4) = true := by simpa using hfit
  have HF := Lib.hid hfit'
  have HR := Lib.hid h
  clear hfit' hfit h
  obtain ⟨i0, hi, hz0, hz1, hz2⟩ := info_parts byte_info
  have HI := Lib.hid hi
  have HZ0 := Lib.hid hz0
  have HZ1 := Lib.hid hz1
  have HZ2 := Lib.hid hz2
  clear hi hz0 hz1 hz2
  refine (callsIn_wide (n := 4)).1 ?_
  refine callsIn_of_wp_marks Try.func60 rfl trivial ?_ rfl
  simp only [Try.ntmps60, List.size_toArray, List.length_cons, List.length_nil, Nat.reduceAdd, Nat.reduceSub, Array.replicate_succ, Array.replicate_zero, List.push_toArray, List.append_toArray, List.nil_append, List.cons_append]
  refine wpIn_wide.2 ?_
  go_wp2_with fail
  refine (sized_any 4 _).mono ?_
  rintro e w1 ⟨rfl, rfl⟩
  go_wp2_with fail
  refine (fits_any n 4 hn (by omega) _).mono ?_
  rintro e w1 ⟨rfl, rfl⟩
  rw [HF.out]
  go_wp2_with fail
  refine (clone_Byte v bs.length (bs.map bv) _ (HR.out.below (by repeat (first | (with_reducible exact Below.refl _ _) | (with_reducible refine Below.setCell ?_ ?_ _) | (with_reducible refine Below.alloc ?_ ?_ _) | (with_reducible refine Below.drewN ?_ _) | (with_reducible refine Below.drew ?_) | (with_reducible exact Nat.le_refl _) | (focus (simp only [World.size_alloc, World.size_setCell, World.size_drew, World.size_drewN]; omega)) | omega | exact Nat.le_refl _ | (focus (simp; done)) | (focus (simp; omega))))) (bv_one bs) (by omega)).mono ?_
  rintro e w1 ⟨v1, rfl, ho1, _, hb1⟩
  have hz1 := hb1.size
  simp only [World.size_alloc] at hz1
  have kn : w1.cell? ⟨w.heap.size, 0, none⟩ = some (.int .u64 n) := by rw [hb1.cell (by simp)]; simp
  have kb : w1.heap[w.heap.size]? = some (.cells #[.int .u64 n] 114 (0, 0)) := (hb1.block _ (by simp)).trans (heap_alloc_new _ _)
  have hz1' : w.heap.size < w1.heap.size := by omega
  have HB1 := Lib.hid (Below.trans (B := w.heap.size) (a := w) (by repeat (first | (with_reducible exact Below.refl _ _) | (with_reducible refine Below.setCell ?_ ?_ _) | (with_reducible refine Below.alloc ?_ ?_ _) | (with_reducible refine Below.drewN ?_ _) | (with_reducible refine Below.drew ?_) | (with_reducible exact Nat.le_refl _) | (focus (simp only [World.size_alloc, World.size_setCell, World.size_drew, World.size_drewN]; omega)) | omega | exact Nat.le_refl _ | (focus (simp; done)) | (focus (simp; omega)))) (hb1.mono (by simp)))
  simp only [World.size_alloc] at ho1
  obtain ⟨a1, c1, rfl⟩ := ownsRow_len ho1
  have KB := Lib.hid kb
  have HO1 := Lib.hid ho1
  clear ho1 hb1 hz1 kb
  go_wp2_with fail
  refine Calls.mono (part_any n 0 (by omega) w.heap.size _ hn ?_) ?_
  focus (go_simp)
  rintro e w2 ⟨rfl, rfl⟩
  go_wp2_with fail
  have hst := PutSt.start w w1 n a1 bs.length c1 bs rfl (nthByte n 0) HB1.out KB.out HO1.out hz1'
  obtain ⟨W0, hW⟩ : ∃ W0, (((w1.alloc (.cells #[.slice a1 bs.length c1] 44)).alloc (.cells #[.int .u8 ((nthByte n 0).toNat : Int)] 5)).alloc (.cells #[.slice (some ⟨w1.heap.size + 1, 0, none⟩) 1 1] 44)) = W0 := ⟨_, rfl⟩
  rw [hW] at hst ⊢
  clear hW kn hz1' HO1 KB HB1
  generalize w1.heap.size + 1 + 1 = Br at *
  generalize w1.heap.size + 1 = Bq0 at *
  generalize w1.heap.size = Bo at *
  have HST := Lib.hid hst
  clear hst
  obtain ⟨kn, ko, kr, fo, fr⟩ := HST.out.cells
  obtain ⟨ln, lo, lr⟩ := HST.out.lt
  have hlow := HST.out.bel.size
  obtain ⟨SS, HSD⟩ : ∃ SS : World → Prop, Hid (SS = fun w' => w'.cell? ⟨Br, 0, none⟩ = some (.slice (some ⟨Bq0, 0, none⟩) 1 1)) := ⟨_, Lib.hid rfl⟩
  refine wp_region_order0 SS [0] [(0, 2), (1, 0), (3, 0), (2, 1), (4, 1), (5, 1), (6, 1), (7, 1)] (by kernel_rfl) (by kernel_rfl) rfl (by kernel_rfl) ?_ ?_
  focus (rw [HSD.out]; exact kr)
  refine stepE2 rfl rfl ?_ (fun w1 hS => ?_) (fun K hK => ?_)
  rotate_left
  focus (rw [HSD.out] at hS; have s0 : w1.cell? _ = some _ := hS; go_simp; rfl)
  go_simp
  refine hK _ ?_
  clear hK K
  refine stepE0 rfl rfl (fun K hK => ?_)
  go_simp
  refine hK _ ?_
  clear hK K
  refine stepE0 rfl rfl (fun K hK => ?_)
  go_simp
  refine hK _ ?_
  clear hK K
  refine stepE1S rfl rfl (fun K hK => ?_)
  (go_wp2_with fail; refine Calls.mono (part_any n 3 (by omega) w.heap.size _ hn ?_) ?_; (focus (exact kn)); rintro e w2 ⟨rfl, rfl⟩; go_wp2)
  refine ⟨by rw [HSD.out]; exact (by show World.cell? _ _ = some _; go_simp), ?_⟩
  refine stepE1S rfl rfl (fun K hK => ?_)
  (go_wp2_with fail; refine Calls.mono (part_any n 2 (by omega) w.heap.size _ hn ?_) ?_; (focus (exact kn)); rintro e w2 ⟨rfl, rfl⟩; go_wp2)
  refine ⟨by rw [HSD.out]; exact (by show World.cell? _ _ = some _; go_simp), ?_⟩
  refine stepE1S rfl rfl (fun K hK => ?_)
  go_wp2
  refine ⟨by rw [HSD.out]; exact (by show World.cell? _ _ = some _; go_simp), ?_⟩
  refine stepE1 rfl rfl (by kernel_rfl) (fun K hK => ?_)
  (refine wp_append_lies _ _ _ 44 rfl w.heap.size 5 i0 (.int .u8 0) 1 1 Try.underlying44 HI.out HZ0.out HZ1.out HZ2.out rfl (by decide) (.slice (some ⟨Bq0, 0, none⟩) 1 1) 1 ([nthByte n 0].map bv) rfl ((HST.out.rr.alloc _).drew) ⟨W0.heap.size, 0, none⟩ 2 2 [.int .u8 ((nthByte n 3).toNat : Int), .int .u8 ((nthByte n 2).toNat : Int)] rfl rfl (World.news_of_block (heap_alloc_new W0 _)) (by simp [Value.oneCell']) (by omega) (by unfold maxLen; omega) (by omega) (by simp; omega) _ rfl ?_; intro g cp w2 hown2 hgrow hat hlt2; have HP := Lib.hid (PutSt.onRest (ns := [nthByte n 3, nthByte n 2]) (HST.out.drew.keep ((Below.refl _ _).alloc (Nat.le_refl _) _)) hgrow hown2 rfl (by simpa using hat)); have hkb := World.cell?_of_block (a := ⟨Br, 0, none⟩) (hgrow.block Br (by simp; omega) (fun e => HST.out.nr.2.2 e.symm)); have hkf := World.frozen?_of_block (a := ⟨Br, 0, none⟩) (hgrow.block Br (by simp; omega) (fun e => HST.out.nr.2.2 e.symm)); clear hgrow hown2 hat; go_wp2)
  refine stepE1 rfl rfl (by kernel_rfl) (fun K hK => ?_)
  go_wp2
  try refine stepEnil0 ?_
  clear HSD SS
  have hst : PutSt w (w2.setCell ⟨Br, 0, none⟩ (.slice (some ⟨g, 0, none⟩) 3 cp)) w.heap.size Bo Br n (.slice a1 bs.length c1) bs (.slice (some ⟨g, 0, none⟩) 3 cp) [nthByte n 0, nthByte n 3, nthByte n 2] := HP.out
  clear HP HST kn ko kr fo fr ln lo lr hlow hkb hkf hlt2
  generalize w2.setCell ⟨Br, 0, none⟩ (.slice (some ⟨g, 0, none⟩) 3 cp) = W1 at *
  clear w2
  generalize g = Bq1 at *
  generalize cp = cq1 at *
  go_wp2_with fail
  have HST := Lib.hid hst
  clear hst
  obtain ⟨kn, ko, kr, fo, fr⟩ := HST.out.cells
  obtain ⟨ln, lo, lr⟩ := HST.out.lt
  have hlow := HST.out.bel.size
  obtain ⟨SS, HSD⟩ : ∃ SS : World → Prop, Hid (SS = fun w' => w'.cell? ⟨Br, 0, none⟩ = some (.slice (some ⟨Bq1, 0, none⟩) 3 cq1)) := ⟨_, Lib.hid rfl⟩
  refine wp_region_order0 SS [0] [(0, 2), (1, 0), (2, 1), (3, 1), (4, 1), (5, 1)] (by kernel_rfl) (by kernel_rfl) rfl (by kernel_rfl) ?_ ?_
  focus (rw [HSD.out]; exact kr)
  refine stepE2 rfl rfl ?_ (fun w1 hS => ?_) (fun K hK => ?_)
  rotate_left
  focus (rw [HSD.out] at hS; have s0 : w1.cell? _ = some _ := hS; go_simp; rfl)
  go_simp
  refine hK _ ?_
  clear hK K
  refine stepE0 rfl rfl (fun K hK => ?_)
  go_simp
  refine hK _ ?_
  clear hK K
  refine stepE1S rfl rfl (fun K hK => ?_)
  (go_wp2_with fail; refine Calls.mono (part_any n 1 (by omega) w.heap.size _ hn ?_) ?_; (focus (exact kn)); rintro e w2 ⟨rfl, rfl⟩; go_wp2)
  refine ⟨by rw [HSD.out]; exact (by show World.cell? _ _ = some _; go_simp), ?_⟩
  refine stepE1S rfl rfl (fun K hK => ?_)
  go_wp2
  refine ⟨by rw [HSD.out]; exact (by show World.cell? _ _ = some _; go_simp), ?_⟩
  refine stepE1 rfl rfl (by kernel_rfl) (fun K hK => ?_)
  (refine wp_append_lies _ _ _ 44 rfl w.heap.size 5 i0 (.int .u8 0) 1 1 Try.underlying44 HI.out HZ0.out HZ1.out HZ2.out rfl (by decide) (.slice (some ⟨Bq1, 0, none⟩) 3 cq1) 3 ([nthByte n 0, nthByte n 3, nthByte n 2].map bv) rfl ((HST.out.rr.alloc _).drew) ⟨W1.heap.size, 0, none⟩ 1 1 [.int .u8 ((nthByte n 1).toNat : Int)] rfl rfl (World.news_of_block (heap_alloc_new W1 _)) (by simp [Value.oneCell']) (by omega) (by unfold maxLen; omega) (by omega) (by simp; omega) _ rfl ?_; intro g cp w2 hown2 hgrow hat hlt2; have HP := Lib.hid (PutSt.onRest (ns := [nthByte n 1]) (HST.out.drew.keep ((Below.refl _ _).alloc (Nat.le_refl _) _)) hgrow hown2 rfl (by simpa using hat)); have hkb := World.cell?_of_block (a := ⟨Br, 0, none⟩) (hgrow.block Br (by simp; omega) (fun e => HST.out.nr.2.2 e.symm)); have hkf := World.frozen?_of_block (a := ⟨Br, 0, none⟩) (hgrow.block Br (by simp; omega) (fun e => HST.out.nr.2.2 e.symm)); clear hgrow hown2 hat; go_wp2)
  refine stepE1 rfl rfl (by kernel_rfl) (fun K hK => ?_)
  go_wp2
  try refine stepEnil0 ?_
  clear HSD SS
  have hst : PutSt w (w2.setCell ⟨Br, 0, none⟩ (.slice (some ⟨g, 0, none⟩) 4 cp)) w.heap.size Bo Br n (.slice a1 bs.length c1) bs (.slice (some ⟨g, 0, none⟩) 4 cp) [nthByte n 0, nthByte n 3, nthByte n 2, nthByte n 1] := HP.out
  clear HP HST kn ko kr fo fr ln lo lr hlow hkb hkf hlt2
  generalize w2.setCell ⟨Br, 0, none⟩ (.slice (some ⟨g, 0, none⟩) 4 cp) = W2 at *
  clear w2
  generalize g = Bq2 at *
  generalize cp = cq2 at *
  go_wp2_with fail
  have HST := Lib.hid hst
  clear hst
  obtain ⟨kn, ko, kr, fo, fr⟩ := HST.out.cells
  obtain ⟨ln, lo, lr⟩ := HST.out.lt
  have hlow := HST.out.bel.size
  have kq : W2.cell? ⟨Bq2, 0, none⟩ = some (.int .u8 ((nthByte n 0).toNat : Int)) := HST.out.rr.cellAt 0 (by decide)
  have lq := (HST.out.rr.lt _ rfl).2
  obtain ⟨hq1, hq2⟩ := owns_cap HST.out.rr
  change 4 ≤ cq2 at hq1
  obtain ⟨SS, HSD⟩ : ∃ SS : World → Prop, Hid (SS = fun w' => w'.cell? ⟨Bo, 0, none⟩ = some (.slice a1 bs.length c1) ∧ w'.cell? ⟨Br, 0, none⟩ = some (.slice (some ⟨Bq2, 0, none⟩) 4 cq2) ∧ w'.cell? ⟨Bq2, 0, none⟩ = some (.int .u8 ((nthByte n 0).toNat : Int))) := ⟨_, Lib.hid rfl⟩
  refine wp_region_order0 SS [0, 1, 3] [(0, 2), (1, 2), (2, 0), (3, 2), (4, 1), (5, 1), (6, 1)] (by kernel_rfl) (by kernel_rfl) rfl (by kernel_rfl) ?_ ?_
  focus (rw [HSD.out]; exact ⟨ko, kr, kq⟩)
  refine stepE2 rfl rfl ?_ (fun w1 hS => ?_) (fun K hK => ?_)
  rotate_left
  focus (rw [HSD.out] at hS; obtain ⟨s0, s1, s2⟩ := hS; go_simp; rfl)
  go_simp
  refine hK _ ?_
  clear hK K
  refine stepE2 rfl rfl ?_ (fun w1 hS => ?_) (fun K hK => ?_)
  rotate_left
  focus (rw [HSD.out] at hS; obtain ⟨s0, s1, s2⟩ := hS; go_simp; rfl)
  go_simp
  refine hK _ ?_
  clear hK K
  refine stepE0 rfl rfl (fun K hK => ?_)
  go_simp
  refine hK _ ?_
  clear hK K
  refine stepE2 rfl rfl ?_ (fun w1 hS => ?_) (fun K hK => ?_)
  rotate_left
  focus (rw [HSD.out] at hS; obtain ⟨s0, s1, s2⟩ := hS; go_simp; rfl)
  go_simp
  refine hK _ ?_
  clear hK K
  refine stepE1S rfl rfl (fun K hK => ?_)
  go_wp2
  refine ⟨by rw [HSD.out]; exact (by refine ⟨?_, ?_, ?_⟩ <;> go_simp), ?_⟩
  refine stepE1 rfl rfl (by kernel_rfl) (fun K hK => ?_)
  (refine wp_append_lies _ _ _ 44 rfl w.heap.size 5 i0 (.int .u8 0) 1 1 Try.underlying44 HI.out HZ0.out HZ1.out HZ2.out rfl (by decide) (.slice a1 bs.length c1) bs.length (bs.map bv) rfl ((HST.out.ro.alloc _).drew) ⟨W2.heap.size, 0, none⟩ 1 1 [.int .u8 ((nthByte n 0).toNat : Int)] rfl rfl (World.news_of_block (heap_alloc_new W2 _)) (by simp [Value.oneCell']) (by omega) (by unfold maxLen; omega) (by omega) (by simp; omega) _ rfl ?_; intro g cp w2 hown2 hgrow hat hlt2; have HP := Lib.hid (PutSt.onOut (ns := [nthByte n 0]) (HST.out.drew.keep ((Below.refl _ _).alloc (Nat.le_refl _) _)) hgrow (by rw [List.map_append]; exact hown2) (by simp) (by simpa using hat)); have hkb := World.cell?_of_block (a := ⟨Bo, 0, none⟩) (hgrow.block Bo (by simp; omega) (fun e => HST.out.no.2.1 e.symm)); have hkf := World.frozen?_of_block (a := ⟨Bo, 0, none⟩) (hgrow.block Bo (by simp; omega) (fun e => HST.out.no.2.1 e.symm)); clear hgrow hown2 hat; go_wp2)
  refine stepE1 rfl rfl (by kernel_rfl) (fun K hK => ?_)
  go_wp2
  try refine stepEnil0 ?_
  clear HSD SS
  have hst : PutSt w (w2.setCell ⟨Bo, 0, none⟩ (.slice (some ⟨g, 0, none⟩) (bs.length + 1) cp)) w.heap.size Bo Br n (.slice (some ⟨g, 0, none⟩) (bs.length + 1) cp) (bs ++ [nthByte n 0]) (.slice (some ⟨Bq2, 0, none⟩) 4 cq2) [nthByte n 0, nthByte n 3, nthByte n 2, nthByte n 1] := HP.out
  clear HP HST kn ko kr fo fr ln lo lr hlow hkb hkf hlt2 kq lq
  generalize w2.setCell ⟨Bo, 0, none⟩ (.slice (some ⟨g, 0, none⟩) (bs.length + 1) cp) = W at *
  clear w2
  generalize g = Bp at *
  generalize cp = cq at *
  have HST := Lib.hid hst
  clear hst
  obtain ⟨kn, ko, kr, fo, fr⟩ := HST.out.cells
  obtain ⟨ln, lo, lr⟩ := HST.out.lt
  have hlow := HST.out.bel.size
  go_wp2_with fail
  refine (back_any _ _ _ _).mono ?_
  rintro e w2 ⟨rfl, rfl⟩
  go_wp2_with fail
  have lq : Bq2 < W.heap.size := (HST.out.rr.lt _ rfl).2
  have hBq := Lib.hid (show ∀ i x, [nthByte n 0, nthByte n 3, nthByte n 2, nthByte n 1][i]? = some x → W.cell? ⟨Bq2, i, none⟩ = some (.int .u8 (x.toNat : Int)) from fun i x hx => by
    have h1 := HST.out.rr.cellAt i (by have := (List.getElem?_eq_some_iff.1 hx).1; simp at this ⊢; omega)
    rw [h1, List.getElem?_map, hx]; rfl)
  refine (wpIn_wide (n := 4)).1 ?_
  refine wpIn_rangeFunc_one (α := Fin [nthByte n 3, nthByte n 2, nthByte n 1].length) rfl (by omega) (gf := 92) (lb := #[.pointer (some ⟨W.heap.size, 0, none⟩)]) rfl trivial (enters_of Try.func92 (by kernel_rfl) rfl)
    (back_stops Fence.wide 3 trivial rfl (by omega) W.heap.size Bq2 1 (cq2 - 1) [nthByte n 3, nthByte n 2, nthByte n 1] (by simp [maxLen]) _ (by simp) (by simp; omega) (by simp) (fun j hj => cell_later ((Below.refl _ _).alloc (Nat.le_refl _) _) (hBq.out (1 + j) _ (by rw [Nat.add_comm]; exact List.getElem?_eq_getElem hj))))
    (fun h k => h.trans k) (kept_put (by simp; omega) (by simp)) (Below.refl _ _) (fun _ => rfl)
    (fun pre W' => ∃ vo, PutSt w W' w.heap.size Bo Br n vo ((bs ++ [nthByte n 0]) ++ pre.map (fun (i : Fin [nthByte n 3, nthByte n 2, nthByte n 1].length) => [nthByte n 3, nthByte n 2, nthByte n 1][i.val])) (.slice (some ⟨Bq2, 0, none⟩) 4 cq2) [nthByte n 0, nthByte n 3, nthByte n 2, nthByte n 1] ∧ vo.ownBlock ≠ some W.heap.size ∧ W.heap.size < W'.heap.size)
    (fun _ _ _ => False) ?own (fun _ _ _ _ _ hs _ _ => hs) ⟨_, by simpa using HST.out.keep ((Below.refl _ _).alloc (Nat.le_refl _) _), fun e => by have := (HST.out.ro.lt _ e).2; omega, by simp⟩
    ?body ?done ?stop
  case own =>
    rintro s A B row ⟨vo, hs, hv, hz⟩ hg hr
    exact ⟨vo, hs.grown hg (by have := HST.out.bel.size; simp; omega) hr, hv, by have := hg.size; omega⟩
  case stop =>
    rintro D c pre A _ _ h _
    exact h.elim
  case done =>
    rintro D ys A hD rfl ⟨vo, hs, _, _⟩ hK
    obtain ⟨ao, mo, co, rfl, HM⟩ := owns_len hs.ro
    have HS := Lib.hid hs
    have HK := Lib.hid hK
    clear hs hK
    obtain ⟨sn, so, sr, sfo, sfr⟩ := HS.out.cells
    go_wp2
    refine ⟨by simp, .inl ⟨_, _, rfl, run_takeDeferred HK.out, ?_⟩⟩
    have hfin : (bs ++ [nthByte n 0]) ++ (backL [nthByte n 3, nthByte n 2, nthByte n 1].length 0).map (fun (i : Fin [nthByte n 3, nthByte n 2, nthByte n 1].length) => [nthByte n 3, nthByte n 2, nthByte n 1][i.val]) = bs ++ (List.range 4).map (nthByte n) := by
      rw [List.append_assoc]
      rfl
    have hr := HS.out.ro
    rw [hfin] at hr
    have hm := HM.out
    rw [hfin] at hm
    subst hm
    exact ⟨_, results_tmp2 rfl _ _ _, _, rfl, ownsRow_putObj hr _ HK.out rfl, HS.out.bel.trans (belowK_b (w := w) (Nat.le_refl _) A D _ _ (by have := HST.out.bel.size; simp at hD; omega) HK.out rfl rfl)⟩
  case body =>
    rintro l pre x A ⟨vo, hs, hvb, hza⟩ hlen2
    obtain ⟨ao, mo, co, rfl, HM⟩ := owns_len hs.ro
    have HS := Lib.hid hs
    clear hs
    obtain ⟨sn, so, sr, sfo, sfr⟩ := HS.out.cells
    obtain ⟨ln2, lo2, lr2⟩ := HS.out.lt
    have hlow2 := HS.out.bel.size
    obtain ⟨xi, hxi⟩ := x
    have hxi' : xi < 3 := hxi
    obtain ⟨y, hy⟩ : ∃ y, [nthByte n 3, nthByte n 2, nthByte n 1][xi]'hxi = y := ⟨_, rfl⟩
    have HY := Lib.hid hy
    have hq : A.cell? ⟨Bq2, xi + 1, none⟩ = some (.int .u8 (y.toNat : Int)) := by
      have h1 := HS.out.rr.cellAt (xi + 1) (by simp; omega)
      rw [h1, List.getElem?_map, List.getElem?_cons_succ, List.getElem?_eq_getElem hxi, hy]; rfl
    have lq2 : Bq2 < A.heap.size := (HS.out.rr.lt _ rfl).2
    have hmo : mo ≤ 80368744177664 := by
      have h1 := HM.out
      have h2 : pre.length < 3 := hlen2
      simp at h1
      omega
    simp only [assignAct, backEnc, hy]
    clear hy
    have hw1 : IntKind.i64.wrap ((xi : Int) + 1) = (xi : Int) + 1 := IntWalk.i64_in _ (by omega)
    have hw2 : (0 : Int) ≤ (xi : Int) + 1 := by omega
    have hw3 : (xi : Int) + 1 < 4 := by omega
    have hw4 : ((xi : Int) + 1).toNat = xi + 1 := by omega
    gi_wp2
    obtain ⟨SS, HSD⟩ : ∃ SS : World → Prop, Hid (SS = fun w' => w'.cell? ⟨Bo, 0, none⟩ = some (.slice ao mo co) ∧ w'.cell? ⟨Br, 0, none⟩ = some (.slice (some ⟨Bq2, 0, none⟩) 4 cq2) ∧ w'.cell? ⟨Bq2, xi + 1, none⟩ = some (.int .u8 (y.toNat : Int))) := ⟨_, Lib.hid rfl⟩
    refine wpIn_region_order0 SS [0, 1, 5] [(0, 2), (1, 2), (2, 0), (3, 0), (4, 0), (5, 2), (6, 1), (7, 1), (8, 1)] (by kernel_rfl) (by kernel_rfl) (by kernel_rfl) rfl (by kernel_rfl) ?_ ?_
    focus (rw [HSD.out]; exact ⟨so, sr, hq⟩)
    refine stepI2 rfl rfl (fun _ => rfl) ?_ (fun w1 hS => ?_) (fun K hK => ?_)
    rotate_left
    focus (rw [HSD.out] at hS; obtain ⟨s0, s1, s2⟩ := hS; go_simp; rfl)
    go_simp
    refine hK _ ?_
    clear hK K
    refine stepI2 rfl rfl (fun _ => rfl) ?_ (fun w1 hS => ?_) (fun K hK => ?_)
    rotate_left
    focus (rw [HSD.out] at hS; obtain ⟨s0, s1, s2⟩ := hS; go_simp; rfl)
    go_simp
    refine hK _ ?_
    clear hK K
    refine stepI0 rfl rfl (fun _ => rfl) (fun K hK => ?_)
    go_simp
    refine hK _ ?_
    clear hK K
    refine stepI0 rfl rfl (fun _ => rfl) (fun K hK => ?_)
    go_simp
    refine hK _ ?_
    clear hK K
    refine stepI0 rfl rfl (fun _ => rfl) (fun K hK => ?_)
    go_simp
    refine hK _ ?_
    clear hK K
    refine stepI2 rfl rfl (fun _ => rfl) ?_ (fun w1 hS => ?_) (fun K hK => ?_)
    rotate_left
    focus (rw [HSD.out] at hS; obtain ⟨s0, s1, s2⟩ := hS; go_simp; rfl)
    go_simp
    refine hK _ ?_
    clear hK K
    refine stepI1S rfl rfl (fun K hK => ?_)
    gi_wp2
    refine ⟨by rw [HSD.out]; exact (by refine ⟨?_, ?_, ?_⟩ <;> go_simp), ?_⟩
    refine stepI1 rfl rfl (by kernel_rfl) (fun K hK => ?_)
    (refine wpIn_append_lies _ _ _ 44 rfl w.heap.size 5 i0 (.int .u8 0) 1 1 Try.underlying44 HI.out HZ0.out HZ1.out HZ2.out rfl (by decide) (.slice ao mo co) mo (((bs ++ [nthByte n 0]) ++ pre.map (fun (i : Fin [nthByte n 3, nthByte n 2, nthByte n 1].length) => [nthByte n 3, nthByte n 2, nthByte n 1][i.val])).map bv) rfl (by have h1 := (HS.out.ro.alloc (.cells #[.int .u8 (y.toNat : Int)] 5)).drew; have h2 := HM.out; rw [← h2] at h1; exact h1) ⟨A.heap.size, 0, none⟩ 1 1 [.int .u8 (y.toNat : Int)] rfl rfl (World.news_of_block (heap_alloc_new A _)) (by simp [Value.oneCell']) (by omega) (by unfold maxLen; omega) (by omega) (by simp; omega) _ rfl ?_; intro g cp w2 hown2 hgrow hat hlt2; have HP := Lib.hid (PutSt.onOut (ns := [y]) (HS.out.drew.keep ((Below.refl _ _).alloc (Nat.le_refl _) _)) hgrow (by rw [List.map_append]; exact hown2) (by have := HM.out; simp at this ⊢; omega) (by simpa using hat)); have hkb := World.cell?_of_block (a := ⟨Bo, 0, none⟩) (hgrow.block Bo (by simp; omega) (fun e => HS.out.no.2.1 e.symm)); have hkf := World.frozen?_of_block (a := ⟨Bo, 0, none⟩) (hgrow.block Bo (by simp; omega) (fun e => HS.out.no.2.1 e.symm)); have HG := Lib.hid hgrow; have hat' : (Value.slice ao mo co).ownBlock = some g ∨ g = A.heap.size + 1 := (by simpa using hat); have hat2 := Lib.hid hat'; clear hgrow hown2 hat hat'; gi_wp2)
    refine stepI1 rfl rfl (by kernel_rfl) (fun K hK => ?_)
    gi_wp2
    try refine stepInil0 ?_
    clear HSD SS
    have hca : ∀ (j : Nat) (o : Obj), (Value.slice ao mo co).ownBlock = some j → A.heap[j]? = some o → o.isCells = true := fun j o hj ho => by
      obtain ⟨cs, t, f, hc⟩ := owns_cells HS.out.ro j hj
      rw [hc] at ho
      cases ho
      rfl
    have hblk : ∀ k, k < A.heap.size → k ≠ Bo → (Value.slice ao mo co).ownBlock ≠ some k → (w2.setCell ⟨Bo, 0, none⟩ (.slice (some ⟨g, 0, none⟩) (mo + 1) cp)).heap[k]? = A.heap[k]? := fun k hk hne hnb => by
      rw [heap_setCell_other _ _ _ _ hne, HG.out.block k (by simp; omega) (fun e => hnb e.symm)]
      exact Below.heap_alloc _ _ _ hk
    refine ⟨?_, ⟨hblk _ lq2 (fun e => HS.out.nr.2.1 (by rw [← e]; rfl)) (fun e => HS.out.apart _ e rfl), hblk _ hza (fun e => by have := HST.out.lt.2.1; omega) hvb⟩, .slice (some ⟨g, 0, none⟩) (mo + 1) cp, ?_, ?_, ?_⟩
    · refine KeepsOthers.from (KeepsOthers.trans (KeepsOthers.trans (KeepsOthers.trans (KeepsOthers.alloc A _) (KeepsOthers.drew _)) (KeepsOthers.of_grownBy HG.out fun j o hj ho => ?_)) (KeepsOthers.setCell _ _ _)) _
      refine hca j o hj ?_
      have hjl := (HS.out.ro.lt j hj).2
      rw [← ho]
      exact (Below.heap_alloc _ _ _ hjl).symm
    · have h1 := HP.out
      rw [List.append_assoc] at h1
      rw [List.map_append]
      simp only [List.map_cons, List.map_nil, HY.out]
      exact h1
    · intro e
      have e' : g = W.heap.size := by simpa [Value.ownBlock] using e
      rcases hat2.out with h | h
      · exact hvb (by rw [← e']; exact h)
      · omega
    · have := HG.out.size
      simp at this ⊢
      omega
end Go.Proofs.Ytigkcbnlbdiimaa

/- The directory's map: On, Bytes, Replay. -/
namespace Go.Proofs.Ytigkcbnlbdiimaa
open Go.RowKit
theorem int_info : (Try.prog.info? 3).map (fun i => (i.zero, i.size, i.bytes)) = some (some (.int .i64 0), 1, 8) := by kernel_rfl
/-- Has it a node? -/
def onB (node : Int) (x : Ent) : Bool := [x.n0, x.n1, x.n2].contains node
def onVols (node : Int) (es : List Ent) : List Int := (es.filter (onB node)).map Ent.vol
theorem onVols_yes (node : Int) (es : List Ent) (k : Nat) (x : Ent) (hx : es[k]? = some x) (h : onB node x = true) : onVols node (es.take (k + 1)) = onVols node (es.take k) ++ [x.vol] := by
  obtain ⟨hk, hx'⟩ := List.getElem?_eq_some_iff.1 hx
  rw [List.take_succ_eq_append_getElem hk, hx']
  simp [onVols, List.filter_append, List.filter_cons, h]
theorem onVols_no (node : Int) (es : List Ent) (k : Nat) (x : Ent) (hx : es[k]? = some x) (h : onB node x = false) : onVols node (es.take (k + 1)) = onVols node (es.take k) := by
  obtain ⟨hk, hx'⟩ := List.getElem?_eq_some_iff.1 hx
  rw [List.take_succ_eq_append_getElem hk, hx']
  simp [onVols, List.filter_append, List.filter_cons, h]
theorem onVols_len (node : Int) (es : List Ent) : (onVols node es).length ≤ es.length := by
  simp only [onVols, List.length_map]
  exact List.length_filter_le _ _
set_option maxRecDepth 100000 in
set_option maxHeartbeats 2000000 in
theorem on_any (base bm : Nat) (v : Value) (es : List Ent) (node : Int) (w : World) (h : MapAt w base bm v es) :
    Calls Try.prog 20 #[.pointer (some ⟨bm, 0, none⟩), .int .i64 node] w
      fun e w' => ∃ v', e = .returned v' ∧ w'.ownsRow w.heap.size 3 1 v' (onVols node es).length ((onVols node es).map (Value.int .i64)) ∧ Below w.heap.size w w' := by
  have hfew := h.few
  have H := Lib.hid h
  clear h
  obtain ⟨i0, hi, hz0, hz1, hz2⟩ := info_parts int_info
  have HI := Lib.hid hi
  have HZ0 := Lib.hid hz0
  have HZ1 := Lib.hid hz1
  have HZ2 := Lib.hid hz2
  clear hi hz0 hz1 hz2
  go_enter Try.func20, Try.ntmps20
  go_wp2_with fail
  refine (all_any _ _ _ _ _ H.out).mono ?_
  rintro e w3 ⟨v3, rfl, ho3, _, hb3⟩
  obtain ⟨a3, cap3, rfl⟩ := ownsRow_len ho3
  have HO3 := Lib.hid ho3
  have HB3 := Lib.hid hb3
  have hz3 := hb3.size
  clear ho3 hb3
  go_wp2_with fail
  go_loopw [5, 11] (fun l i wr => ∃ k : Nat, k ≤ es.length ∧ i = .int .i64 k ∧ wr.ownsRow w3.heap.size 3 1 l (onVols node (es.take k)).length ((onVols node (es.take k)).map (Value.int .i64)) ∧ Below w3.heap.size w3 wr) (fun _ i _ => es.length - (intOf i).toNat)
  case atStart => exact ⟨0, Nat.zero_le _, rfl, World.ownsRow_nil _ _ _ _, Below.refl _ _⟩
  case round =>
    obtain ⟨k, hk, rfl, hown, hbw⟩ := hrel
    have HOW := Lib.hid hown
    have HBW := Lib.hid hbw
    have hzr := hbw.size
    obtain ⟨al, cl, rfl⟩ := ownsRow_len hown
    clear hown hbw
    by_cases hlt : k < es.length
    · obtain ⟨x, hx⟩ : ∃ x, es[k]? = some x := ⟨_, List.getElem?_eq_getElem hlt⟩
      obtain ⟨g3, cc3, e3, hg3, _, _, x0, x1, x2, x3, x4, x5⟩ := row_ent (ownsRow_below HO3.out HBW.out) k x hx
      obtain ⟨rfl, -, rfl⟩ := slice_inj e3
      have HOL := Lib.hid (onVols_len node (es.take k))
      have hnl : (onVols node (es.take k)).length ≤ 4096 := by have := HOL.out; simp at this; omega
      clear e3
      cases hc : onB node x
      · have HX := Lib.hid (onVols_no node es k x hx hc)
        have HC := Lib.hid hc
        obtain ⟨xv, xe, xa, xb, xc, xs⟩ := x
        clear hx hc
        go_wp2_with fail
        refine Calls.mono (contains3 wr.heap.size 2 _ xa xb xc node false _ HC.out ?_ ?_ ?_) ?_
        · go_simp
        · go_simp
        · go_simp
        rintro e w4 ⟨rfl, rfl⟩
        go_wp2_with fail
        go_roundw
        case rel => exact ⟨k + 1, by omega, by go_num, by rw [HX.out]; exact HOW.out.alloc _, HBW.out.alloc hzr _⟩
        case measure => simp [intOf]; omega
      · have HX := Lib.hid (onVols_yes node es k x hx hc)
        have HC := Lib.hid hc
        obtain ⟨xv, xe, xa, xb, xc, xs⟩ := x
        clear hx hc
        go_wp2_with fail
        refine Calls.mono (contains3 wr.heap.size 2 _ xa xb xc node true _ HC.out ?_ ?_ ?_) ?_
        · go_simp
        · go_simp
        · go_simp
        rintro e w4 ⟨rfl, rfl⟩
        go_wp2_with (at_builtin; refine wpList_append_own _ rfl _ _ 42 rfl w3.heap.size 3 i0 (.int .i64 0) 1 8 Try.underlying42 HI.out HZ0.out HZ1.out HZ2.out rfl (by decide) _ _ _ rfl ((HOW.out.alloc _).alloc _) ⟨wr.heap.size + 1, 0, none⟩ 1 1 [.int .i64 xv] rfl rfl (by have h := cell_one_new (wr.alloc (.cells #[.int .i64 xv, .int .i64 xe, .int .i64 xa, .int .i64 xb, .int .i64 xc, .bool xs] 37)) (.int .i64 xv) 3; simpa using h) (by simp [Value.oneCell']) (by unfold maxLen; omega) (by omega) (by simp; omega) ?_; intro v' w5 hown' hgrow _; have HOX := Lib.hid hown'; have HGX := Lib.hid hgrow; clear hown' hgrow)
        go_roundw
        case rel => exact ⟨k + 1, by omega, by go_num, by rw [HX.out]; simpa using HOX.out, ((HBW.out.alloc hzr _).alloc (by simp; omega) _).grown HGX.out (by simp; omega) (fun g hg => (HOW.out.lt g hg).1)⟩
        case measure => simp [intOf]; omega
    · have HK := Lib.hid (show es.take k = es from List.take_of_length_le (by omega))
      go_wp2_with fail
      go_ret
      refine ⟨_, rfl, ?_, HB3.out.trans (HBW.out.mono hz3)⟩
      have := HOW.out
      rw [HK.out] at this ⊢
      exact ownsRow_mono this hz3
end Go.Proofs.Ytigkcbnlbdiimaa

/- The directory's map: Replay, and what many commands come to. -/
namespace Go.Proofs.Ytigkcbnlbdiimaa
open Go.RowKit
def doAll (es : List Ent) (cs : List Cmd) : List Ent := cs.foldl doEs es
def okN (k : Nat) : Nat := if k = 0 then 1 else 0
theorem okN_le (k : Nat) : okN k ≤ 1 := by unfold okN; split <;> omega
def cntAll (es : List Ent) : List Cmd → Nat
  | [] => 0
  | c :: cs => okN (doK es c) + cntAll (doEs es c) cs
theorem doAll_snoc (es : List Ent) (cs : List Cmd) (c : Cmd) : doAll es (cs ++ [c]) = doEs (doAll es cs) c := by simp [doAll]
theorem cntAll_snoc (es : List Ent) (cs : List Cmd) (c : Cmd) : cntAll es (cs ++ [c]) = cntAll es cs + okN (doK (doAll es cs) c) := by
  induction cs generalizing es with
  | nil => simp [cntAll, doAll]
  | cons d cs ih => simp only [List.cons_append, cntAll, ih]; simp only [doAll, List.foldl_cons]; omega
theorem doAll_append (es : List Ent) (cs ds : List Cmd) : doAll es (cs ++ ds) = doAll (doAll es cs) ds := by simp [doAll]
theorem cntAll_append (es : List Ent) (cs ds : List Cmd) : cntAll es (cs ++ ds) = cntAll es cs + cntAll (doAll es cs) ds := by
  induction cs generalizing es with
  | nil => simp [cntAll, doAll]
  | cons d cs ih => simp only [List.cons_append, cntAll, ih]; simp only [doAll, List.foldl_cons]; omega
theorem cntAll_le (es : List Ent) (cs : List Cmd) : cntAll es cs ≤ cs.length := by
  induction cs generalizing es with
  | nil => exact Nat.le_refl _
  | cons d cs ih =>
    have := ih (doEs es d)
    have := okN_le (doK es d)
    simp only [cntAll, List.length_cons]
    omega
theorem good_all (cs : List Cmd) : ∀ (E : Int) (es : List Ent), Good E es → 1 ≤ E → E + cs.length ≤ 1000000 → Good (E + cs.length) (doAll es cs) := by
  induction cs with
  | nil => intro E es h _ _; simpa [doAll] using h
  | cons c cs ih =>
    intro E es h h1 h2
    simp only [List.length_cons] at h2 ⊢
    have := ih (E + 1) (doEs es c) (good_do E es c h h1 (by omega)) (by omega) (by omega)
    rw [show E + ((cs.length + 1 : Nat) : Int) = E + 1 + cs.length by omega]
    exact this
theorem take_snoc_get {α : Type} (l : List α) (k : Nat) (x : α) (hx : l[k]? = some x) : l.take (k + 1) = l.take k ++ [x] := by
  obtain ⟨hk, hx'⟩ := List.getElem?_eq_some_iff.1 hx
  rw [List.take_succ_eq_append_getElem hk, hx']
theorem Keeps.of_low {F : Nat → Prop} {w0 w w' : World} (h : Keeps F w w') (hb : Below w0.heap.size w0 w) (hF : ∀ k, F k → w0.heap.size ≤ k) : Below w0.heap.size w0 w' :=
  hb.trans (h.below hb.size hF)
set_option maxRecDepth 100000 in
set_option maxHeartbeats 2000000 in
theorem replay_any (ao : Option Addr) (n cap : Nat) (cs : List Cmd) (w : World) (hl : cs.length = n) (hn : n ≤ 1000000) (hA : 0 < n → ∃ b off, ao = some ⟨b, off, none⟩ ∧ b < w.heap.size ∧ CmdsAt w b off cs) :
    Calls Try.prog 22 #[.slice ao n cap] w fun e w' => e = .returned (.tuple #[.pointer (some ⟨w.heap.size, 0, none⟩), .int .i64 (cntAll [] cs : Nat)]) ∧ (∃ v, MapAt w' w.heap.size w.heap.size v (doAll [] cs)) ∧ Below w.heap.size w w' := by
  have HL := Lib.hid hl
  have HA := Lib.hid hA
  clear hl hA
  go_enter Try.func22, Try.ntmps22
  go_wp2_with fail
  refine (new_any _).mono ?_
  rintro e w2 ⟨rfl, rfl⟩
  have HM0 := Lib.hid (MapAt.made w w.heap.size (Nat.le_refl _))
  go_wp2_with fail
  go_loopw [5, 13] (fun t i wr => ∃ k : Nat, k ≤ n ∧ i = .int .i64 k ∧ t = .int .i64 (cntAll [] (cs.take k) : Nat) ∧ (∃ v, MapAt wr w.heap.size w.heap.size v (doAll [] (cs.take k))) ∧ Below w.heap.size w wr) (fun _ i _ => n - (intOf i).toNat)
  case atStart => exact ⟨0, Nat.zero_le _, rfl, rfl, ⟨_, HM0.out⟩, (by repeat (first | (with_reducible exact Below.refl _ _) | (with_reducible refine Below.setCell ?_ ?_ _) | (with_reducible refine Below.alloc ?_ ?_ _) | (with_reducible refine Below.drewN ?_ _) | (with_reducible refine Below.drew ?_) | (with_reducible exact Nat.le_refl _) | (focus (simp only [World.size_alloc, World.size_setCell, World.size_drew, World.size_drewN]; omega)) | omega | exact Nat.le_refl _ | (focus (simp; done)) | (focus (simp; omega))))⟩
  case round =>
    obtain ⟨k, hk, rfl, rfl, ⟨v, hm⟩, hbw⟩ := hrel
    have HM := Lib.hid hm
    have HBW := Lib.hid hbw
    have hzr := hbw.size
    clear hm hbw
    by_cases hlt : k < n
    · obtain ⟨c, hc⟩ : ∃ c, cs[k]? = some c := ⟨_, List.getElem?_eq_getElem (by rw [HL.out]; exact hlt)⟩
      obtain ⟨b, off, rfl, hb, hC⟩ := HA.out (by omega)
      obtain ⟨q0, q1, q2, q3, q4, q5, q6, q7⟩ := hC k c hc
      clear hC
      have k0 := (HBW.out.cell (p := ⟨b, off + k * 8, none⟩) hb).trans q0
      have k1 := (HBW.out.cell (p := ⟨b, off + k * 8 + 1, none⟩) hb).trans q1
      have k2 := (HBW.out.cell (p := ⟨b, off + k * 8 + 2, none⟩) hb).trans q2
      have k3 := (HBW.out.cell (p := ⟨b, off + k * 8 + 3, none⟩) hb).trans q3
      have k4 := (HBW.out.cell (p := ⟨b, off + k * 8 + 4, none⟩) hb).trans q4
      have k5 := (HBW.out.cell (p := ⟨b, off + k * 8 + 5, none⟩) hb).trans q5
      have k6 := (HBW.out.cell (p := ⟨b, off + k * 8 + 6, none⟩) hb).trans q6
      have k7 := (HBW.out.cell (p := ⟨b, off + k * 8 + 7, none⟩) hb).trans q7
      have hbr : b < wr.heap.size := by omega
      have HT := Lib.hid (take_snoc_get cs k c hc)
      have HCS := Lib.hid (cntAll_snoc [] (cs.take k) c)
      have HDS := Lib.hid (doAll_snoc [] (cs.take k) c)
      have HLE := Lib.hid (cntAll_le [] (cs.take k))
      have hcl : (cntAll [] (cs.take k) : Int) ≤ 1000000 := by
        have := HLE.out
        simp at this
        omega
      have hcl0 : (0 : Int) ≤ (cntAll [] (cs.take k) : Int) := by omega
      clear hc q0 q1 q2 q3 q4 q5 q6 q7
      generalize cntAll [] (cs.take k) = t at *
      generalize doAll [] (cs.take k) = es at *
      by_cases hk0 : doK es c = 0
      · have HK0 := Lib.hid hk0
        clear hk0
        obtain ⟨nd, hnd⟩ : ∃ nd, doN es c = nd := ⟨_, rfl⟩
        have HND := Lib.hid hnd
        clear hnd
        go_wp2_with fail
        refine (do_at w.heap.size w.heap.size v es _ c nd 0 _ (HM.out.below (by repeat (first | (with_reducible exact Below.refl _ _) | (with_reducible refine Below.setCell ?_ ?_ _) | (with_reducible refine Below.alloc ?_ ?_ _) | (with_reducible refine Below.drewN ?_ _) | (with_reducible refine Below.drew ?_) | (with_reducible exact Nat.le_refl _) | (focus (simp only [World.size_alloc, World.size_setCell, World.size_drew, World.size_drewN]; omega)) | omega | exact Nat.le_refl _ | (focus (simp; done)) | (focus (simp; omega))))) rfl HND.out (by rw [HK0.out]; rfl)).mono ?_
        rintro e w4 hd
        have HU := Lib.hid (hd.under (w0 := w) (HM.out.below (by repeat (first | (with_reducible exact Below.refl _ _) | (with_reducible refine Below.setCell ?_ ?_ _) | (with_reducible refine Below.alloc ?_ ?_ _) | (with_reducible refine Below.drewN ?_ _) | (with_reducible refine Below.drew ?_) | (with_reducible exact Nat.le_refl _) | (focus (simp only [World.size_alloc, World.size_setCell, World.size_drew, World.size_drewN]; omega)) | omega | exact Nat.le_refl _ | (focus (simp; done)) | (focus (simp; omega))))) (Nat.le_refl _) (HBW.out.alloc hzr _))
        obtain ⟨rfl, v4, hm4, _, _⟩ := hd
        have HM4 := Lib.hid hm4
        clear hm4
        rw [errV_zero]
        go_wp2_with fail
        go_roundw
        case rel => exact ⟨k + 1, by omega, by go_num, by rw [HT.out, HCS.out, okN, if_pos HK0.out]; go_num, ⟨v4, by rw [HT.out, HDS.out]; exact HM4.out⟩, HU.out⟩
        case measure => simp [intOf]; omega
      · have hkz : (doK es c : Int) ≠ 0 := by omega
        have HK0 := Lib.hid hk0
        clear hk0
        obtain ⟨nd, hnd⟩ : ∃ nd, doN es c = nd := ⟨_, rfl⟩
        have HND := Lib.hid hnd
        obtain ⟨kd, hkd⟩ : ∃ kd : Int, (doK es c : Int) = kd := ⟨_, rfl⟩
        rw [hkd] at hkz
        have HKD := Lib.hid hkd
        have HKZ := Lib.hid hkz
        clear hnd hkd hkz
        go_wp2_with fail
        refine (do_at w.heap.size w.heap.size v es _ c nd kd _ (HM.out.below (by repeat (first | (with_reducible exact Below.refl _ _) | (with_reducible refine Below.setCell ?_ ?_ _) | (with_reducible refine Below.alloc ?_ ?_ _) | (with_reducible refine Below.drewN ?_ _) | (with_reducible refine Below.drew ?_) | (with_reducible exact Nat.le_refl _) | (focus (simp only [World.size_alloc, World.size_setCell, World.size_drew, World.size_drewN]; omega)) | omega | exact Nat.le_refl _ | (focus (simp; done)) | (focus (simp; omega))))) rfl HND.out HKD.out).mono ?_
        rintro e w4 hd
        have HU := Lib.hid (hd.under (w0 := w) (HM.out.below (by repeat (first | (with_reducible exact Below.refl _ _) | (with_reducible refine Below.setCell ?_ ?_ _) | (with_reducible refine Below.alloc ?_ ?_ _) | (with_reducible refine Below.drewN ?_ _) | (with_reducible refine Below.drew ?_) | (with_reducible exact Nat.le_refl _) | (focus (simp only [World.size_alloc, World.size_setCell, World.size_drew, World.size_drewN]; omega)) | omega | exact Nat.le_refl _ | (focus (simp; done)) | (focus (simp; omega))))) (Nat.le_refl _) (HBW.out.alloc hzr _))
        obtain ⟨rfl, v4, hm4, _, _⟩ := hd
        have HM4 := Lib.hid hm4
        clear hm4
        rw [errV_ne HKZ.out]
        go_wp2_with fail
        go_roundw
        case rel => exact ⟨k + 1, by omega, by go_num, by rw [HT.out, HCS.out, okN, if_neg HK0.out]; rfl, ⟨v4, by rw [HT.out, HDS.out]; exact HM4.out⟩, HU.out⟩
        case measure => simp [intOf]; omega
    · have HK := Lib.hid (show cs.take k = cs from List.take_of_length_le (by rw [HL.out]; omega))
      have h2 := HK.out
      rw [h2] at HM ⊢
      clear h2
      go_wp2_with fail
      go_ret2
      exact ⟨rfl, ⟨v, HM.out⟩, HBW.out⟩
end Go.Proofs.Ytigkcbnlbdiimaa

/- The directory's map: its bytes. -/
namespace Go.Proofs.Ytigkcbnlbdiimaa
open Go.RowKit
def ofI (n : Int) : UInt8 := UInt8.ofNat (n % 256).toNat
theorem ofI_toNat (n : Int) : ((ofI n).toNat : Int) = n % 256 := by
  unfold ofI
  rw [UInt8.toNat_ofNat']
  omega
def entBytes (x : Ent) : List UInt8 := (List.range 4).map (nthByte x.epoch.toNat) ++ [ofI x.n0, ofI x.n1, ofI x.n2, if x.shut then 1 else 0]
def mapBytes (es : List Ent) : List UInt8 := es.flatMap entBytes
theorem entBytes_len (x : Ent) : (entBytes x).length = 8 := by simp [entBytes]
theorem mapBytes_len (es : List Ent) : (mapBytes es).length = es.length * 8 := by
  induction es with
  | nil => rfl
  | cons x es ih => simp only [mapBytes, List.flatMap_cons, List.length_append, entBytes_len, List.length_cons] at ih ⊢; rw [ih]; omega
theorem mapBytes_snoc (es : List Ent) (k : Nat) (x : Ent) (hx : es[k]? = some x) : mapBytes (es.take (k + 1)) = mapBytes (es.take k) ++ entBytes x := by
  rw [take_snoc_get es k x hx]
  simp [mapBytes]
theorem ownsRow_cast {w : World} {base : Nat} {e : TypeId} {size : Nat} {v : Value} {n m : Nat} {xs ys : List Value} (h : w.ownsRow base e size v n xs) (hn : n = m) (hx : xs = ys) : w.ownsRow base e size v m ys := by
  subst hn hx; exact h
set_option maxRecDepth 100000 in
set_option maxHeartbeats 4000000 in
theorem bytes_any (base bm : Nat) (v : Value) (es : List Ent) (E : Int) (w : World) (h : MapAt w base bm v es) (hg : Good E es) (hE : E ≤ 1000000) :
    Calls Try.prog 21 #[.pointer (some ⟨bm, 0, none⟩)] w
      fun e w' => ∃ v', e = .returned v' ∧ w'.ownsRow w.heap.size 5 1 v' (mapBytes es).length ((mapBytes es).map bv) ∧ Below w.heap.size w w' := by
  have hfew := h.few
  have H := Lib.hid h
  have HGO := Lib.hid hg
  clear h hg
  obtain ⟨i0, hi, hz0, hz1, hz2⟩ := info_parts byte_info
  have HI := Lib.hid hi
  have HZ0 := Lib.hid hz0
  have HZ1 := Lib.hid hz1
  have HZ2 := Lib.hid hz2
  clear hi hz0 hz1 hz2
  go_enter Try.func21, Try.ntmps21
  go_wp2_with fail
  refine (all_any _ _ _ _ _ H.out).mono ?_
  rintro e w3 ⟨v3, rfl, ho3, _, hb3⟩
  obtain ⟨a3, cap3, rfl⟩ := ownsRow_len ho3
  have HO3 := Lib.hid ho3
  have HB3 := Lib.hid hb3
  have hz3 := hb3.size
  clear ho3 hb3
  go_wp2_with fail
  go_loopw [3, 12] (fun l i wr => ∃ k : Nat, k ≤ es.length ∧ i = .int .i64 k ∧ wr.ownsRow w3.heap.size 5 1 l (mapBytes (es.take k)).length ((mapBytes (es.take k)).map bv) ∧ Below w3.heap.size w3 wr) (fun _ i _ => es.length - (intOf i).toNat)
  case atStart => exact ⟨0, Nat.zero_le _, rfl, World.ownsRow_nil _ _ _ _, Below.refl _ _⟩
  case round =>
    obtain ⟨k, hk, rfl, hown, hbw⟩ := hrel
    have HBW := Lib.hid hbw
    have hzr := hbw.size
    by_cases hlt : k < es.length
    · obtain ⟨x, hx⟩ : ∃ x, es[k]? = some x := ⟨_, List.getElem?_eq_getElem hlt⟩
      obtain ⟨g3, cc3, e3, hg3, _, _, x0, x1, x2, x3, x4, x5⟩ := row_ent (ownsRow_below HO3.out hbw) k x hx
      obtain ⟨rfl, -, rfl⟩ := slice_inj e3
      obtain ⟨-, he1, he2⟩ := HGO.out k x hx
      have HX := Lib.hid (mapBytes_snoc es k x hx)
      have hnl : (mapBytes (es.take k)).length ≤ 40000 := by rw [mapBytes_len]; simp; omega
      have hrd := reads_of_owns hown
      clear hown hbw e3 hx
      generalize mapBytes (es.take k) = acc at *
      obtain ⟨al, cl, rfl⟩ := reads_len hrd
      have HRD := Lib.hid hrd
      clear hrd
      obtain ⟨xv, xe, xa, xb, xc, xs⟩ := x
      obtain ⟨ep, rfl⟩ : ∃ ep : Nat, xe = (ep : Int) := ⟨xe.toNat, by have h : 1 ≤ xe := he1; omega⟩
      have hep : (ep : Int) ≤ 1000000 := by have h : (ep : Int) ≤ E := he2; omega
      have hep' : ep ≤ 1000000 := by omega
      clear he1 he2
      go_wp2_with fail
      refine (put_4 (.slice al acc.length cl) acc ep _ (HRD.out.below (by repeat (first | (with_reducible exact Below.refl _ _) | (with_reducible refine Below.setCell ?_ ?_ _) | (with_reducible refine Below.alloc ?_ ?_ _) | (with_reducible refine Below.drewN ?_ _) | (with_reducible refine Below.drew ?_) | (with_reducible exact Nat.le_refl _) | (focus (simp only [World.size_alloc, World.size_setCell, World.size_drew, World.size_drewN]; omega)) | omega | exact Nat.le_refl _ | (focus (simp; done)) | (focus (simp; omega))))) (by omega) (by omega) (by omega)).mono ?_
      rintro e w4 ⟨v4, rfl, ho4, hb4⟩
      obtain ⟨a4, m4, c4, rfl, HM4⟩ := owns_len ho4
      have hm4 : m4 = acc.length + 4 := by have := HM4.out; simpa using this
      have hm4' : m4 ≤ 50000 := by omega
      have HM4' := Lib.hid hm4
      clear hm4
      have ho4' := ownsRow_cast ho4 HM4.out.symm rfl
      simp only [World.size_alloc] at ho4'
      have HO4 := Lib.hid ho4'
      clear ho4'
      obtain ⟨hc4, hf4⟩ := bcell hb4
      have hz4 := hb4.size
      simp only [World.size_alloc] at hz4
      have hz4' : wr.heap.size < w4.heap.size := by omega
      have HB4 := Lib.hid (Below.trans (B := w3.heap.size) (a := wr) (by repeat (first | (with_reducible exact Below.refl _ _) | (with_reducible refine Below.setCell ?_ ?_ _) | (with_reducible refine Below.alloc ?_ ?_ _) | (with_reducible refine Below.drewN ?_ _) | (with_reducible refine Below.drew ?_) | (with_reducible exact Nat.le_refl _) | (focus (simp only [World.size_alloc, World.size_setCell, World.size_drew, World.size_drewN]; omega)) | omega | exact Nat.le_refl _ | (focus (simp; done)) | (focus (simp; omega)))) (hb4.mono (by simp; omega)))
      clear ho4 hb4 hz4 HM4
      have kx : w4.cell? ⟨wr.heap.size, 5, none⟩ = some (.bool xs) := by rw [hc4 _ _ (by simp)]; simp
      have ix0 : ∀ w, (Instr.index 30 (.agg #[.int .i64 xa, .int .i64 xb, .int .i64 xc]) (.int .i64 0)).run Try.prog w = .ok (.int .i64 xa) w := fun _ => by kernel_rfl
      have ix1 : ∀ w, (Instr.index 30 (.agg #[.int .i64 xa, .int .i64 xb, .int .i64 xc]) (.int .i64 1)).run Try.prog w = .ok (.int .i64 xb) w := fun _ => by kernel_rfl
      have ix2 : ∀ w, (Instr.index 30 (.agg #[.int .i64 xa, .int .i64 xb, .int .i64 xc]) (.int .i64 2)).run Try.prog w = .ok (.int .i64 xc) w := fun _ => by kernel_rfl
      go_wp2_with fail
      refine wp_loop_rounds 4 ?_
      rw [rounds_succ]
      go_wp2_with (at_builtin; refine wpList_append_own _ rfl _ _ 44 rfl (wr.heap.size + 1) 5 i0 (.int .u8 0) 1 1 Try.underlying44 HI.out HZ0.out HZ1.out HZ2.out rfl (by decide) (.slice a4 m4 c4) m4 _ rfl (HO4.out.alloc _) ⟨w4.heap.size, 0, none⟩ 1 1 [.int .u8 (xa % 256)] rfl rfl (cell_one_new _ _ _) (by simp [Value.oneCell']) (by unfold maxLen; omega) (by omega) (by simp; omega) ?_; intro v5 w5 hown hgrow _; have kx : w5.cell? ⟨wr.heap.size, 5, none⟩ = some (.bool xs) := (grown_cell (b := wr.heap.size) (o := 5) hgrow (by simp; omega) (fun e => by have := (HO4.out.lt _ e).1; omega)).trans (by go_simp); have hl5 : wr.heap.size < w5.heap.size := (by have := hgrow.size; simp at this; omega); have HB5 := Lib.hid (Below.grown (HB4.out.alloc (by have := HB4.out.size; omega) _) hgrow (by simp; omega) (fun g e => by have := (HO4.out.lt _ e).1; omega)); have HO5 := Lib.hid hown; clear hown hgrow)
      rw [rounds_succ]
      go_wp2_with (at_builtin; refine wpList_append_own _ rfl _ _ 44 rfl (wr.heap.size + 1) 5 i0 (.int .u8 0) 1 1 Try.underlying44 HI.out HZ0.out HZ1.out HZ2.out rfl (by decide) v5 (m4 + 1) _ rfl (HO5.out.alloc _) ⟨w5.heap.size, 0, none⟩ 1 1 [.int .u8 (xb % 256)] rfl rfl (cell_one_new _ _ _) (by simp [Value.oneCell']) (by unfold maxLen; omega) (by omega) (by simp; omega) ?_; intro v6 w6 hown hgrow _; have kx : w6.cell? ⟨wr.heap.size, 5, none⟩ = some (.bool xs) := (grown_cell (b := wr.heap.size) (o := 5) hgrow (by simp; omega) (fun e => by have := (HO5.out.lt _ e).1; omega)).trans (by go_simp); have hl6 : wr.heap.size < w6.heap.size := (by have := hgrow.size; simp at this; omega); have HB6 := Lib.hid (Below.grown (HB5.out.alloc (by have := HB5.out.size; omega) _) hgrow (by simp; omega) (fun g e => by have := (HO5.out.lt _ e).1; omega)); have HO6 := Lib.hid hown; clear hown hgrow)
      rw [rounds_succ]
      go_wp2_with (at_builtin; refine wpList_append_own _ rfl _ _ 44 rfl (wr.heap.size + 1) 5 i0 (.int .u8 0) 1 1 Try.underlying44 HI.out HZ0.out HZ1.out HZ2.out rfl (by decide) v6 (m4 + 1 + 1) _ rfl (HO6.out.alloc _) ⟨w6.heap.size, 0, none⟩ 1 1 [.int .u8 (xc % 256)] rfl rfl (cell_one_new _ _ _) (by simp [Value.oneCell']) (by unfold maxLen; omega) (by omega) (by simp; omega) ?_; intro v7 w7 hown hgrow _; have kx : w7.cell? ⟨wr.heap.size, 5, none⟩ = some (.bool xs) := (grown_cell (b := wr.heap.size) (o := 5) hgrow (by simp; omega) (fun e => by have := (HO6.out.lt _ e).1; omega)).trans (by go_simp); have hl7 : wr.heap.size < w7.heap.size := (by have := hgrow.size; simp at this; omega); have HB7 := Lib.hid (Below.grown (HB6.out.alloc (by have := HB6.out.size; omega) _) hgrow (by simp; omega) (fun g e => by have := (HO6.out.lt _ e).1; omega)); have HO7 := Lib.hid hown; clear hown hgrow)
      rw [rounds_succ]
      cases xs
      · go_wp2_with (at_builtin; refine wpList_append_own _ rfl _ _ 44 rfl (wr.heap.size + 1) 5 i0 (.int .u8 0) 1 1 Try.underlying44 HI.out HZ0.out HZ1.out HZ2.out rfl (by decide) v7 (m4 + 1 + 1 + 1) _ rfl (HO7.out.alloc _) ⟨w7.heap.size, 0, none⟩ 1 1 [.int .u8 (0)] rfl rfl (cell_one_new _ _ _) (by simp [Value.oneCell']) (by unfold maxLen; omega) (by omega) (by simp; omega) ?_; intro v8 w8 hown hgrow _; have kx : w8.cell? ⟨wr.heap.size, 5, none⟩ = some (.bool false) := (grown_cell (b := wr.heap.size) (o := 5) hgrow (by simp; omega) (fun e => by have := (HO7.out.lt _ e).1; omega)).trans (by go_simp); have hl8 : wr.heap.size < w8.heap.size := (by have := hgrow.size; simp at this; omega); have HB8 := Lib.hid (Below.grown (HB7.out.alloc (by have := HB7.out.size; omega) _) hgrow (by simp; omega) (fun g e => by have := (HO7.out.lt _ e).1; omega)); have HO8 := Lib.hid hown; clear hown hgrow)
        go_roundw
        case rel => exact ⟨k + 1, by omega, by go_num, by
          rw [HX.out]
          exact ownsRow_mono (ownsRow_cast HO8.out (by rw [List.length_append, entBytes_len]; have := HM4'.out; omega) (by simp [entBytes, bv, ofI_toNat, List.map_append])) (by omega), HBW.out.trans HB8.out⟩
        case measure => simp [intOf]; omega
      · go_wp2_with (at_builtin; refine wpList_append_own _ rfl _ _ 44 rfl (wr.heap.size + 1) 5 i0 (.int .u8 0) 1 1 Try.underlying44 HI.out HZ0.out HZ1.out HZ2.out rfl (by decide) v7 (m4 + 1 + 1 + 1) _ rfl (HO7.out.alloc _) ⟨w7.heap.size, 0, none⟩ 1 1 [.int .u8 (1)] rfl rfl (cell_one_new _ _ _) (by simp [Value.oneCell']) (by unfold maxLen; omega) (by omega) (by simp; omega) ?_; intro v8 w8 hown hgrow _; have kx : w8.cell? ⟨wr.heap.size, 5, none⟩ = some (.bool true) := (grown_cell (b := wr.heap.size) (o := 5) hgrow (by simp; omega) (fun e => by have := (HO7.out.lt _ e).1; omega)).trans (by go_simp); have hl8 : wr.heap.size < w8.heap.size := (by have := hgrow.size; simp at this; omega); have HB8 := Lib.hid (Below.grown (HB7.out.alloc (by have := HB7.out.size; omega) _) hgrow (by simp; omega) (fun g e => by have := (HO7.out.lt _ e).1; omega)); have HO8 := Lib.hid hown; clear hown hgrow)
        go_roundw
        case rel => exact ⟨k + 1, by omega, by go_num, by
          rw [HX.out]
          exact ownsRow_mono (ownsRow_cast HO8.out (by rw [List.length_append, entBytes_len]; have := HM4'.out; omega) (by simp [entBytes, bv, ofI_toNat, List.map_append])) (by omega), HBW.out.trans HB8.out⟩
        case measure => simp [intOf]; omega
    · have HOW := Lib.hid hown
      clear hown hbw
      have HK := Lib.hid (show es.take k = es from List.take_of_length_le (by omega))
      obtain ⟨al, cl, rfl⟩ := ownsRow_len HOW.out
      go_wp2_with fail
      go_ret
      refine ⟨_, rfl, ?_, HB3.out.trans (HBW.out.mono hz3)⟩
      have := HOW.out
      rw [HK.out] at this ⊢
      exact ownsRow_mono this hz3
end Go.Proofs.Ytigkcbnlbdiimaa

/- DirsParts: what its counts come to, in plain words. No program. -/
namespace Go.Proofs.Ytigkcbnlbdiimaa
open Go.RowKit
/-- The nodes of a volume are no two alike, and from 0 to 255. -/
def Sound (es : List Ent) : Prop := ∀ (i : Nat) (x : Ent), es[i]? = some x → x.n0 ≠ x.n1 ∧ x.n1 ≠ x.n2 ∧ x.n0 ≠ x.n2 ∧ 0 ≤ x.n0 ∧ x.n0 ≤ 255 ∧ 0 ≤ x.n1 ∧ x.n1 ≤ 255 ∧ 0 ≤ x.n2 ∧ x.n2 ≤ 255
theorem placeB_iff (n : Int) : placeB n = true ↔ 0 ≤ n ∧ n ≤ 255 := by simp [placeB]
theorem sound_turn (x : Ent) (c : Cmd) (h : x.n0 ≠ x.n1 ∧ x.n1 ≠ x.n2 ∧ x.n0 ≠ x.n2 ∧ 0 ≤ x.n0 ∧ x.n0 ≤ 255 ∧ 0 ≤ x.n1 ∧ x.n1 ≤ 255 ∧ 0 ≤ x.n2 ∧ x.n2 ≤ 255) (ht : turnE x c = 0) (hk : c.kind = 2 ∨ c.kind = 3 ∨ c.kind = 4) :
    (turnX x c).n0 ≠ (turnX x c).n1 ∧ (turnX x c).n1 ≠ (turnX x c).n2 ∧ (turnX x c).n0 ≠ (turnX x c).n2 ∧ 0 ≤ (turnX x c).n0 ∧ (turnX x c).n0 ≤ 255 ∧ 0 ≤ (turnX x c).n1 ∧ (turnX x c).n1 ≤ 255 ∧ 0 ≤ (turnX x c).n2 ∧ (turnX x c).n2 ≤ 255 := by
  rcases hk with h2 | h3 | h4
  · simp only [turnX, h2, if_true]; exact h
  · have : ¬ (3 : Int) = 2 := by omega
    simp only [turnX, h3, if_true, this, if_false]; exact h
  · have n2 : ¬ (4 : Int) = 2 := by omega
    have n3 : ¬ (4 : Int) = 3 := by omega
    simp only [turnE, h4, n2, n3, if_true, if_false, errNode] at ht
    split at ht
    · cases ht
    · split at ht
      · cases ht
      · rename_i hs hc
        simp only [turnX, h4, n2, n3, if_true, if_false]
        have hp : 0 ≤ c.node ∧ c.node ≤ 255 := by
          cases hp : placeB c.node
          · exact absurd (.inr (.inr hp)) hs
          · exact (placeB_iff _).1 hp
        have c0 : ¬ x.n0 = c.node := fun h => hc (.inl h)
        have c1 : ¬ x.n1 = c.node := fun h => hc (.inr (.inl h))
        have c2 : ¬ x.n2 = c.node := fun h => hc (.inr (.inr h))
        have hs1 : ¬ c.spot < 0 := fun h => hs (.inl h)
        have hs2 : ¬ 3 ≤ c.spot := fun h => hs (.inr (.inl h))
        have hs0 : c.spot = 0 ∨ c.spot = 1 ∨ c.spot = 2 := by omega
        rcases hs0 with h | h | h
        all_goals
          simp only [h]
          refine ⟨?_, ?_, ?_, ?_, ?_, ?_, ?_, ?_, ?_⟩ <;> simp <;> omega
theorem sound_do (es : List Ent) (c : Cmd) (h : Sound es) : Sound (doEs es c) := by
  rcases do_ways es c with ⟨_, e, _⟩ | ⟨_, _, _, ht, e, _⟩ | ⟨_, j, x, hx, _, _, ht, hk, e, _⟩
  · rw [e]; exact h
  · rw [e]
    intro i y hy
    rw [List.getElem?_append] at hy
    split at hy
    · exact h i y hy
    · have hy' : y = ⟨(es.length : Int) + 1, 1, c.n0, c.n1, c.n2, false⟩ := by
        rcases Nat.lt_or_ge (i - es.length) 1 with h' | h'
        · have : i - es.length = 0 := by omega
          rw [this] at hy
          simpa using hy.symm
        · rw [List.getElem?_eq_none (by simpa using h')] at hy; cases hy
      subst hy'
      simp [threeB, placeB] at ht
      simp only [ne_eq]
      omega
  · rw [e]
    intro i y hy
    rw [List.getElem?_set] at hy
    split at hy
    · split at hy
      · cases hy
        exact sound_turn x c (h j x hx) ht hk
      · cases hy
    · exact h i y hy
theorem sound_all (cs : List Cmd) : ∀ (es : List Ent), Sound es → Sound (doAll es cs) := by
  induction cs with
  | nil => intro es h; exact h
  | cons c cs ih => intro es h; exact ih _ (sound_do es c h)
/-- How many volumes have a node, all nodes below m together. -/
def cntOn (es : List Ent) : Nat → Nat
  | 0 => 0
  | m + 1 => cntOn es m + (onVols (m : Int) es).length
def has1 (n : Int) (m : Nat) : Nat := if 0 ≤ n ∧ n < (m : Int) then 1 else 0
def hit (m : Nat) (x : Ent) : Nat := has1 x.n0 m + has1 x.n1 m + has1 x.n2 m
theorem onB_iff (node : Int) (x : Ent) : onB node x = true ↔ node = x.n0 ∨ node = x.n1 ∨ node = x.n2 := by
  simp [onB]
theorem hit_succ (m : Nat) (x : Ent) (h : x.n0 ≠ x.n1 ∧ x.n1 ≠ x.n2 ∧ x.n0 ≠ x.n2) : hit (m + 1) x = hit m x + if onB (m : Int) x = true then 1 else 0 := by
  have hs : ∀ n : Int, has1 n (m + 1) = has1 n m + if n = (m : Int) then 1 else 0 := by
    intro n
    unfold has1
    split <;> split <;> split <;> omega
  have e : (if onB (m : Int) x = true then 1 else 0) = (if x.n0 = (m : Int) then 1 else 0) + (if x.n1 = (m : Int) then 1 else 0) + (if x.n2 = (m : Int) then 1 else 0) := by
    obtain ⟨h1, h2, h3⟩ := h
    by_cases hb : onB (m : Int) x = true
    · rw [if_pos hb]
      rw [onB_iff] at hb
      split <;> split <;> split <;> omega
    · rw [if_neg hb]
      rw [onB_iff] at hb
      split <;> split <;> split <;> omega
  rw [e]
  simp only [hit, hs]
  omega
theorem cntOn_sum (es : List Ent) (h : Sound es) (m : Nat) : cntOn es m = (es.map (hit m)).sum := by
  induction m with
  | zero =>
    have : ∀ x, hit 0 x = 0 := fun x => by simp only [hit, has1]; repeat (first | omega | split)
    rw [show hit 0 = fun _ => 0 from funext this]
    have hz : ∀ l : List Ent, 0 = (l.map fun _ => 0).sum := fun l => by
      induction l with
      | nil => rfl
      | cons x l ih => simpa using ih
    rw [cntOn]
    exact hz es
  | succ m ih =>
    rw [cntOn, ih]
    clear ih
    induction es with
    | nil => simp [onVols]
    | cons x es ih =>
      have h0 := h 0 x rfl
      have h' : Sound es := fun i y hy => h (i + 1) y hy
      have := ih h'
      rw [List.map_cons, List.sum_cons, List.map_cons, List.sum_cons, hit_succ m x ⟨h0.1, h0.2.1, h0.2.2.1⟩, ← this]
      simp only [onVols, List.filter_cons]
      split <;> simp <;> omega
theorem cntOn_all (es : List Ent) (h : Sound es) : cntOn es 256 = 3 * es.length := by
  rw [cntOn_sum es h]
  induction es with
  | nil => rfl
  | cons x es ih =>
    obtain ⟨_, _, _, a1, a2, b1, b2, c1, c2⟩ := h 0 x rfl
    have h' : Sound es := fun i y hy => h (i + 1) y hy
    rw [List.map_cons, List.sum_cons, ih h', List.length_cons]
    have : hit 256 x = 3 := by
      unfold hit has1
      rw [if_pos (by omega), if_pos (by omega), if_pos (by omega)]
    omega
theorem cntOn_le (es : List Ent) (m : Nat) : cntOn es m ≤ m * es.length := by
  induction m with
  | zero => simp [cntOn]
  | succ m ih =>
    have := onVols_len (m : Int) es
    rw [cntOn, Nat.succ_mul]
    omega
/-- A volume that On tells is there, and has the node. -/
theorem onVols_at (E : Int) (node : Int) (es : List Ent) (hg : Good E es) (j : Nat) (vol : Int) (h : (onVols node es)[j]? = some vol) : ∃ (k : Nat) (x : Ent), vol = (k : Int) + 1 ∧ es[k]? = some x ∧ onB node x = true := by
  have hm := List.mem_of_getElem? h
  simp only [onVols, List.mem_map, List.mem_filter] at hm
  obtain ⟨x, ⟨hx, hb⟩, rfl⟩ := hm
  obtain ⟨k, hk, rfl⟩ := List.mem_iff_getElem.1 hx
  have hk' : es[k]? = some es[k] := List.getElem?_eq_getElem hk
  exact ⟨k, es[k], (hg k _ hk').1, hk', hb⟩
end Go.Proofs.Ytigkcbnlbdiimaa

/- DirsParts: the walk. -/
namespace Go.Proofs.Ytigkcbnlbdiimaa
open Go.RowKit
theorem cmd_info : (Try.prog.info? 32).map (fun i => (i.zero, i.size, i.bytes)) = some (some (.agg #[.int .i64 0, .int .i64 0, .int .i64 0, .int .i64 0, .int .i64 0, .int .i64 0, .int .i64 0, .int .i64 0]), 8, 64) := by kernel_rfl
/-- The cells of one command of an owned row. -/
theorem row_cmd {w : World} {base : Nat} {v : Value} {n : Nat} {cs : List Cmd} (hr : w.ownsRow base 32 8 v n (cs.flatMap Cmd.row)) (k : Nat) (x : Cmd) (hx : cs[k]? = some x) :
    ∃ g c, v = .slice (some ⟨g, 0, none⟩) n c ∧ g < w.heap.size ∧ base ≤ g ∧ k < n ∧
      w.cell? ⟨g, k * 8, none⟩ = some (.int .i64 x.kind) ∧ w.cell? ⟨g, k * 8 + 1, none⟩ = some (.int .i64 x.vol) ∧ w.cell? ⟨g, k * 8 + 2, none⟩ = some (.int .i64 x.epoch) ∧
      w.cell? ⟨g, k * 8 + 3, none⟩ = some (.int .i64 x.spot) ∧ w.cell? ⟨g, k * 8 + 4, none⟩ = some (.int .i64 x.node) ∧ w.cell? ⟨g, k * 8 + 5, none⟩ = some (.int .i64 x.n0) ∧
      w.cell? ⟨g, k * 8 + 6, none⟩ = some (.int .i64 x.n1) ∧ w.cell? ⟨g, k * 8 + 7, none⟩ = some (.int .i64 x.n2) := by
  have hk : k < cs.length := (List.getElem?_eq_some_iff.1 hx).1
  have hlen := hr.1
  rw [length_flatMap_row Cmd.row 8 Cmd.row_len] at hlen
  have hlt := hr.lt
  rcases hr.2 with ⟨_, hz⟩ | ⟨g, cap, cur, rfl, hg, _⟩
  · omega
  · have hg1 := hlt g rfl
    have hc := fun j hj => ownsRow_cell Cmd.row 8 Cmd.row_len cs hr k j x hx hj
    refine ⟨g, cap, rfl, hg1.2, hg1.1, by omega, ?_, ?_, ?_, ?_, ?_, ?_, ?_, ?_⟩
    · simpa [Cmd.row] using hc 0 (by omega)
    · simpa [Cmd.row] using hc 1 (by omega)
    · simpa [Cmd.row] using hc 2 (by omega)
    · simpa [Cmd.row] using hc 3 (by omega)
    · simpa [Cmd.row] using hc 4 (by omega)
    · simpa [Cmd.row] using hc 5 (by omega)
    · simpa [Cmd.row] using hc 6 (by omega)
    · simpa [Cmd.row] using hc 7 (by omega)
/-- .. all of them, as a contract of commands asks. -/
theorem cmds_row {w : World} {base : Nat} {a : Option Addr} {n c : Nat} {cs : List Cmd} (hr : w.ownsRow base 32 8 (.slice a n c) n (cs.flatMap Cmd.row)) (h0 : 0 < n) :
    ∃ g, a = some ⟨g, 0, none⟩ ∧ g < w.heap.size ∧ base ≤ g ∧ CmdsAt w g 0 cs := by
  have hlt := hr.lt
  rcases hr.2 with ⟨_, hz⟩ | ⟨g, cap, cur, e, hg, _⟩
  · omega
  · obtain ⟨rfl, -, rfl⟩ := slice_inj e
    have hg1 := hlt g rfl
    refine ⟨g, rfl, hg1.2, hg1.1, fun i x hx => ?_⟩
    obtain ⟨g', c', e', _, _, _, hcs⟩ := row_cmd hr i x hx
    obtain ⟨e1, -, -⟩ := slice_inj e'
    simp at e1
    subst e1
    simpa using hcs
theorem CmdsAt.take {w : World} {b off : Nat} {cs : List Cmd} (h : CmdsAt w b off cs) (k : Nat) : CmdsAt w b off (cs.take k) := fun i c hc => by
  refine h i c ?_
  rw [List.getElem?_take] at hc
  split at hc
  · exact hc
  · cases hc
theorem CmdsAt.below {w w' : World} {b off : Nat} {cs : List Cmd} (h : CmdsAt w b off cs) {B : Nat} (hb : Below B w w') (hlt : b < B) : CmdsAt w' b off cs := fun i c hc => by
  obtain ⟨h0, h1, h2, h3, h4, h5, h6, h7⟩ := h i c hc
  have e := fun o => hb.cell (p := ⟨b, o, none⟩) hlt
  exact ⟨(e _).trans h0, (e _).trans h1, (e _).trans h2, (e _).trans h3, (e _).trans h4, (e _).trans h5, (e _).trans h6, (e _).trans h7⟩
theorem flatMap_snoc {α β : Type} (f : α → List β) (l : List α) (k : Nat) (x : α) (hx : l[k]? = some x) : (l.take (k + 1)).flatMap f = (l.take k).flatMap f ++ f x := by
  rw [take_snoc_get l k x hx]
  simp
theorem emod_nat (x n : Nat) : ((x : Int) % ((n : Int) + 1)) = ((x % (n + 1) : Nat) : Int) := by
  rw [Int.natCast_emod]; rfl
set_option maxRecDepth 100000 in
set_option maxHeartbeats 8000000 in
theorem parts_any (ao : Option Addr) (n cap : Nat) (cs : List Cmd) (at0 : Nat) (hat : at0 ≤ 255) (w : World) (hl : cs.length = n) (hn : n ≤ 100) (hA : 0 < n → ∃ b off, ao = some ⟨b, off, none⟩ ∧ b < w.heap.size ∧ CmdsAt w b off cs) :
    Calls Try.prog 5 #[.slice ao n cap, .int .u8 at0] w fun e w' => e = .returned (.bool true) ∧ Below w.heap.size w w' := by
  have HL := Lib.hid hl
  have HA := Lib.hid hA
  clear hl hA
  obtain ⟨i0, hi, hz0, hz1, hz2⟩ := info_parts cmd_info
  have HI := Lib.hid hi
  have HZ0 := Lib.hid hz0
  have HZ1 := Lib.hid hz1
  have HZ2 := Lib.hid hz2
  clear hi hz0 hz1 hz2
  have hd100 : decide ((100 : Int) < (n : Int)) = false := by simp; omega
  go_enter Try.func5, Try.ntmps5
  go_wp2_with fail
  refine (alive19 _).mono ?_
  rintro e w1 ⟨rfl, hb1⟩
  have hz1 := hb1.size
  have HB1 := Lib.hid hb1
  clear hb1
  go_wp2_with fail
  go_loopw [5, 6] (fun c i wr => ∃ k : Nat, k ≤ n ∧ i = .int .i64 k ∧ wr.ownsRow w.heap.size 32 8 c k ((cs.take k).flatMap Cmd.row) ∧ Below w.heap.size w wr) (fun _ i _ => n - (intOf i).toNat)
  case atStart => exact ⟨0, Nat.zero_le _, rfl, World.ownsRow_nil _ _ _ _, HB1.out⟩
  case round =>
    obtain ⟨i, hi, rfl, hown, hbw⟩ := hrel
    have HOW := Lib.hid hown
    have HBW := Lib.hid hbw
    have hzr := hbw.size
    obtain ⟨ac, cc, rfl⟩ := ownsRow_len hown
    clear hown hbw
    by_cases hlt : i < n
    · obtain ⟨c, hc⟩ : ∃ c, cs[i]? = some c := ⟨_, List.getElem?_eq_getElem (by rw [HL.out]; exact hlt)⟩
      obtain ⟨b, off, rfl, hb, hC⟩ := HA.out (by omega)
      obtain ⟨q0, q1, q2, q3, q4, q5, q6, q7⟩ := hC i c hc
      clear hC
      have k0 := (HBW.out.cell (p := ⟨b, off + i * 8, none⟩) hb).trans q0
      have k1 := (HBW.out.cell (p := ⟨b, off + i * 8 + 1, none⟩) hb).trans q1
      have k2 := (HBW.out.cell (p := ⟨b, off + i * 8 + 2, none⟩) hb).trans q2
      have k3 := (HBW.out.cell (p := ⟨b, off + i * 8 + 3, none⟩) hb).trans q3
      have k4 := (HBW.out.cell (p := ⟨b, off + i * 8 + 4, none⟩) hb).trans q4
      have k5 := (HBW.out.cell (p := ⟨b, off + i * 8 + 5, none⟩) hb).trans q5
      have k6 := (HBW.out.cell (p := ⟨b, off + i * 8 + 6, none⟩) hb).trans q6
      have k7 := (HBW.out.cell (p := ⟨b, off + i * 8 + 7, none⟩) hb).trans q7
      have hbr : b < wr.heap.size := by omega
      have HT := Lib.hid (flatMap_snoc Cmd.row cs i c hc)
      obtain ⟨ck, cv, ce, cp, cn, c0, c1, c2⟩ := c
      clear hc q0 q1 q2 q3 q4 q5 q6 q7
      go_wp2_with (at_builtin; refine wpList_append_own _ rfl _ _ 46 rfl w.heap.size 32 i0 (.agg #[.int .i64 0, .int .i64 0, .int .i64 0, .int .i64 0, .int .i64 0, .int .i64 0, .int .i64 0, .int .i64 0]) 8 64 Try.underlying46 HI.out HZ0.out HZ1.out HZ2.out rfl (by decide) (.slice ac i cc) i _ rfl (HOW.out.alloc _) ⟨wr.heap.size, 0, none⟩ 1 1 [.int .i64 ck, .int .i64 cv, .int .i64 ce, .int .i64 cp, .int .i64 cn, .int .i64 c0, .int .i64 c1, .int .i64 c2] rfl rfl (World.news_of_block (heap_alloc_new wr _)) (by simp [Value.oneCell']) (by unfold maxLen; omega) (by omega) (by simp; omega) ?_; intro v' w5 hown' hgrow _; have HOX := Lib.hid hown'; have HGX := Lib.hid hgrow; clear hown' hgrow)
      go_roundw
      case rel => exact ⟨i + 1, by omega, by go_num, by rw [HT.out]; exact HOX.out, (HBW.out.alloc hzr _).grown HGX.out (by simp; omega) (fun g hg => (HOW.out.lt g hg).1)⟩
      case measure => simp [intOf]; omega
    · have hin : i = n := by omega
      subst hin
      have HOC := Lib.hid (show wr.ownsRow w.heap.size 32 8 (.slice ac i cc) i (cs.flatMap Cmd.row) from by
        have := HOW.out
        rwa [List.take_of_length_le (by rw [HL.out]; omega)] at this)
      clear hlt HOW
      obtain ⟨kk, hkk⟩ : ∃ kk, at0 % (i + 1) = kk := ⟨_, rfl⟩
      have hki : kk ≤ i := by have := Nat.mod_lt at0 (show 0 < i + 1 by omega); omega
      have HMC := Lib.hid (emod_nat at0 i)
      have HKK := Lib.hid hkk
      clear hkk
      have hcc : i ≤ cc := by
        rcases HOC.out.2 with ⟨e, h0⟩ | ⟨g, cap', cur, e, _, _, h1, _⟩
        · omega
        · obtain ⟨_, _, rfl⟩ := slice_inj e
          exact h1
      have hcm : cc ≤ 9223372036854775807 := by
        rcases HOC.out.2 with ⟨e, h0⟩ | ⟨g, cap', cur, e, _, _, _, h1, _⟩
        · obtain ⟨_, _, rfl⟩ := slice_inj e; omega
        · obtain ⟨_, _, rfl⟩ := slice_inj e
          exact h1
      have hkc : (kk : Int) ≤ (cc : Int) := by omega
      have HCA := Lib.hid (fun h0 => cmds_row HOC.out h0)
      go_wp2_with fail
      rw [HMC.out, HKK.out]
      refine (replay_any ac i cc cs _ HL.out (by omega) (fun h0 => by obtain ⟨g, h1, h2, _, h3⟩ := HCA.out h0; exact ⟨g, 0, h1, h2, h3⟩)).mono ?_
      rintro e w2 ⟨rfl, ⟨va, hma⟩, hb2⟩
      have HMA := Lib.hid hma
      have HB2 := Lib.hid hb2
      have hz2 := hb2.size
      have HOC2 := Lib.hid (ownsRow_below HOC.out hb2)
      clear hma hb2
      have HLA := Lib.hid (cntAll_le [] cs)
      have hta : (cntAll [] cs : Int) ≤ 100 := by have := HLA.out; have := HL.out; omega
      obtain ⟨ta, hta'⟩ : ∃ t, cntAll [] cs = t := ⟨_, rfl⟩
      have HTA := Lib.hid hta'
      rw [hta'] at hta ⊢
      clear hta'
      go_wp2_with fail
      refine (replay_any ac kk cc (cs.take kk) _ (by rw [List.length_take, HL.out]; omega) (by omega) (fun h0 => by
        obtain ⟨g, h1, h2, _, h3⟩ := HCA.out (by omega)
        exact ⟨g, 0, h1, by have := HB2.out.size; omega, (h3.below HB2.out h2).take kk⟩)).mono ?_
      rintro e w3 ⟨rfl, ⟨vb, hmb⟩, hb3⟩
      have HMB := Lib.hid hmb
      have HB3 := Lib.hid hb3
      have hz3 := hb3.size
      have HMA3 := Lib.hid (HMA.out.below hb3)
      have HOC3 := Lib.hid (ownsRow_below HOC2.out hb3)
      have HW3 := Lib.hid ((HBW.out.trans (HB2.out.mono hzr)).trans (hb3.mono (Nat.le_trans hzr hz2)))
      clear hmb hb3
      have HLB := Lib.hid (cntAll_le [] (cs.take kk))
      obtain ⟨wo, rfl⟩ : ∃ wo : World, wo = wr := ⟨_, rfl⟩
      go_wp2_with fail
      go_loopw [11, 12] (fun t j wx => ∃ k : Nat, k ≤ i ∧ j = .int .i64 k ∧ t = .int .i64 (cntAll [] (cs.take k) : Nat) ∧ (∃ v, MapAt wx w2.heap.size w2.heap.size v (doAll [] (cs.take k))) ∧ Below w2.heap.size w2 wx) (fun _ j _ => i - (intOf j).toNat)
      case atStart => exact ⟨kk, hki, rfl, rfl, ⟨_, HMB.out⟩, HB3.out⟩
      case round =>
        obtain ⟨k, hk, rfl, rfl, ⟨v, hm⟩, hbw⟩ := hrel
        have HM := Lib.hid hm
        have HBX := Lib.hid hbw
        have hzx := hbw.size
        clear hm hbw
        by_cases hlt2 : k < i
        · obtain ⟨c, hc⟩ : ∃ c, cs[k]? = some c := ⟨_, List.getElem?_eq_getElem (by rw [HL.out]; exact hlt2)⟩
          obtain ⟨g, cg, e1, hg, _, _, k0, k1, k2, k3, k4, k5, k6, k7⟩ := row_cmd (ownsRow_at HOC2.out (fun b hb => HBX.out.block b (HOC2.out.lt b hb).2)) k c hc
          obtain ⟨rfl, -, rfl⟩ := slice_inj e1
          have HT := Lib.hid (take_snoc_get cs k c hc)
          have HCS := Lib.hid (cntAll_snoc [] (cs.take k) c)
          have HDS := Lib.hid (doAll_snoc [] (cs.take k) c)
          have hcl : (cntAll [] (cs.take k) : Int) ≤ 100 := by
            have := cntAll_le [] (cs.take k)
            simp at this
            omega
          have hcl0 : (0 : Int) ≤ (cntAll [] (cs.take k) : Int) := by omega
          have hdk := doK_le (doAll [] (cs.take k)) c
          clear hc e1
          generalize cntAll [] (cs.take k) = t at *
          generalize doAll [] (cs.take k) = es at *
          obtain ⟨nd, hnd⟩ : ∃ nd, doN es c = nd := ⟨_, rfl⟩
          have HND := Lib.hid hnd
          obtain ⟨kd, hkd⟩ : ∃ kd : Nat, doK es c = kd := ⟨_, rfl⟩
          rw [hkd] at hdk
          have HKD := Lib.hid hkd
          clear hnd hkd
          go_wp2_with fail
          refine (do_at w2.heap.size w2.heap.size v es _ c nd kd _ HM.out rfl HND.out (by rw [HKD.out])).mono ?_
          rintro e w4 hd
          have HU := Lib.hid (hd.under (w0 := w2) HM.out (Nat.le_refl _) HBX.out)
          obtain ⟨rfl, v4, hm4, _, _⟩ := hd
          have HM4 := Lib.hid hm4
          clear hm4
          go_wp2_with fail
          refine (code_any _ (by omega) (by omega) _).mono ?_
          rintro e w5 ⟨rfl, rfl⟩
          by_cases hk0 : kd = 0
          · subst hk0
            go_wp2_with fail
            go_roundw
            case rel => exact ⟨k + 1, by omega, by go_num, by rw [HT.out, HCS.out, okN, if_pos HKD.out]; go_num, ⟨v4, by rw [HT.out, HDS.out]; exact HM4.out⟩, HU.out⟩
            case measure => simp [intOf]; omega
          · have hkb : ((kd : Int) == 0) = false := by rw [beq_eq_false_iff_ne]; omega
            have HK0 := Lib.hid hk0
            clear hk0
            go_wp2_with fail
            go_roundw
            case rel => exact ⟨k + 1, by omega, by go_num, by rw [HT.out, HCS.out, okN, if_neg (by rw [HKD.out]; exact HK0.out)]; rfl, ⟨v4, by rw [HT.out, HDS.out]; exact HM4.out⟩, HU.out⟩
            case measure => simp [intOf]; omega
        · have hke : cs.take k = cs := List.take_of_length_le (by rw [HL.out]; omega)
          rw [hke] at HM ⊢
          rw [HTA.out]
          clear hke
          have hgood : Good (1 + (i : Int)) (doAll [] cs) := by
            have := good_all cs 1 [] (fun i x hx => by simp at hx) (by omega) (by rw [HL.out]; omega)
            rwa [HL.out] at this
          have hsound := sound_all cs [] (fun i x hx => by simp at hx)
          have HMAx := Lib.hid (HMA.out.below (HBX.out))
          generalize doAll [] cs = es at *
          have HGD := Lib.hid hgood
          have HSD := Lib.hid hsound
          have hfew := HM.out.few
          clear hgood hsound
          go_wp2_with fail
          refine (bytes_any _ _ _ es (1 + (i : Int)) _ HMAx.out HGD.out (by omega)).mono ?_
          rintro e w4 ⟨v4, rfl, ho4, hb4⟩
          have HB4 := Lib.hid hb4
          have HR4 := Lib.hid (reads_of_owns ho4)
          have HMA4 := Lib.hid (HMAx.out.below hb4)
          have HM4 := Lib.hid (HM.out.below hb4)
          have hz4 := hb4.size
          clear ho4 hb4
          go_wp2_with fail
          refine (bytes_any _ _ _ es (1 + (i : Int)) _ HM4.out HGD.out (by omega)).mono ?_
          rintro e w5 ⟨v5, rfl, ho5, hb5⟩
          have HR5 := Lib.hid (reads_of_owns ho5)
          have HR45 := Lib.hid (HR4.out.below hb5)
          have HMA5 := Lib.hid (HMA4.out.below hb5)
          have HB5 := Lib.hid (HB4.out.trans (hb5.mono hz4))
          have hz5 := hb5.size
          clear ho5 hb5
          go_wp2_with fail
          refine (same_any _ _ _ _ _ HR45.out HR5.out).mono ?_
          rintro e w6 ⟨rfl, hb6⟩
          have HMA6 := Lib.hid (HMA5.out.below hb6)
          have HB6 := Lib.hid (HB5.out.trans (hb6.mono (Nat.le_trans hz4 hz5)))
          have hz6 := hb6.size
          clear hb6
          rw [decide_eq_true (rfl : mapBytes es = mapBytes es)]
          have HW6 := Lib.hid ((HBW.out.trans (HB2.out.mono hzr)).trans ((HBX.out.trans (HB6.out.mono hzx)).mono (Nat.le_trans hzr hz2)))
          obtain ⟨wp, hwp⟩ : ∃ wp : World, wr = wp := ⟨_, rfl⟩
          subst hwp
          go_wp2_with fail
          go_loopw [15, 16] (fun t j wx => ∃ m : Nat, m ≤ 256 ∧ j = .int .i64 m ∧ t = .int .i64 (cntOn es m : Nat) ∧ Below w6.heap.size w6 wx) (fun _ j _ => 256 - (intOf j).toNat)
          case atStart => exact ⟨0, by omega, rfl, rfl, Below.refl _ _⟩
          case round =>
            obtain ⟨m, hm, rfl, rfl, hbm⟩ := hrel
            have HBM := Lib.hid hbm
            have hzm := hbm.size
            have hcm1 : (cntOn es m : Int) ≤ 1048576 := by
              have h1 := cntOn_le es m
              have h2 : m * es.length ≤ 256 * 4096 := Nat.mul_le_mul hm hfew
              omega
            have hcm0 : (0 : Int) ≤ (cntOn es m : Int) := by omega
            clear hbm
            by_cases hlt3 : m < 256
            · have HCS := Lib.hid (show cntOn es (m + 1) = cntOn es m + (onVols (m : Int) es).length from rfl)
              go_wp2_with fail
              refine (on_any _ _ _ es (m : Int) _ (HMA6.out.below HBM.out)).mono ?_
              rintro e w7 ⟨v7, rfl, ho7, hb7⟩
              have HMA7 := Lib.hid ((HMA6.out.below HBM.out).below hb7)
              have HB7 := Lib.hid (HBM.out.trans (hb7.mono hzm))
              have HO7 := Lib.hid ho7
              have hz7 := hb7.size
              obtain ⟨a7, c7, rfl⟩ := ownsRow_len ho7
              have hol := onVols_len (m : Int) es
              clear ho7 hb7
              generalize cntOn es m = ct at *
              obtain ⟨wq, hwq⟩ : ∃ wq : World, wr = wq := ⟨_, rfl⟩
              subst hwq
              go_wp2_with fail
              go_loopw [15, 18] (fun t j wx => ∃ q : Nat, q ≤ (onVols (m : Int) es).length ∧ j = .int .i64 q ∧ t = .int .i64 ((ct + q : Nat) : Int) ∧ Below w7.heap.size w7 wx) (fun _ j _ => (onVols (m : Int) es).length - (intOf j).toNat)
              case atStart => exact ⟨0, by omega, rfl, rfl, Below.refl _ _⟩
              case round =>
                obtain ⟨q, hq, rfl, rfl, hbq⟩ := hrel
                have HBQ := Lib.hid hbq
                have hzq := hbq.size
                clear hbq
                by_cases hlt4 : q < (onVols (m : Int) es).length
                · obtain ⟨vol, hvol⟩ : ∃ vol, (onVols (m : Int) es)[q]? = some vol := ⟨_, List.getElem?_eq_getElem hlt4⟩
                  obtain ⟨kx, x, rfl, hx, hbx⟩ := onVols_at _ _ _ HGD.out q vol hvol
                  have ho7 := ownsRow_below HO7.out HBQ.out
                  have hown8 : ∃ g, a7 = some ⟨g, 0, none⟩ ∧ wr.cell? ⟨g, q, none⟩ = some (.int .i64 ((kx : Int) + 1)) := by
                    rcases ho7.2 with ⟨e, h0⟩ | ⟨g, cap', cur, e, _⟩
                    · omega
                    · obtain ⟨rfl, -, rfl⟩ := slice_inj e
                      refine ⟨g, rfl, ?_⟩
                      rw [ho7.cellAt q (by omega), List.getElem?_map, hvol]
                      rfl
                  obtain ⟨g, rfl, kq⟩ := hown8
                  rw [onB_iff] at hbx
                  have HX := Lib.hid hx
                  have HBXX := Lib.hid hbx
                  clear hx hbx hvol ho7
                  have hct : (ct : Int) + (q : Int) ≤ 2000000 := by omega
                  go_wp2_with fail
                  refine (find_yes _ _ _ es kx x _ (HMA7.out.below HBQ.out) HX.out).mono ?_
                  rintro e w8 ⟨rfl, hb8⟩
                  have HB8 := Lib.hid (HBQ.out.trans (hb8.mono hzq))
                  have hz8 := hb8.size
                  clear hb8
                  obtain ⟨xv, xe, xa, xb, xc, xs⟩ := x
                  go_wp2_with fail
                  refine (code_nil _).mono ?_
                  rintro e w9 ⟨rfl, rfl⟩
                  have hbx : (m : Int) = xa ∨ (m : Int) = xb ∨ (m : Int) = xc := HBXX.out
                  by_cases ha : xa = (m : Int)
                  · have hab : (xa != (m : Int)) = false := by rw [ha]; simp
                    clear ha hbx
                    go_wp2_with fail
                    go_roundw
                    case rel => exact ⟨q + 1, by omega, by go_num, by go_num, HB8.out.alloc (by omega) _⟩
                    case measure => simp [intOf]; omega
                  · have hab : (xa != (m : Int)) = true := by rw [bne_iff_ne]; exact ha
                    by_cases hb : xb = (m : Int)
                    · have hbb : (xb != (m : Int)) = false := by rw [hb]; simp
                      clear ha hb hbx
                      go_wp2_with fail
                      go_roundw
                      case rel => exact ⟨q + 1, by omega, by go_num, by go_num, HB8.out.alloc (by omega) _⟩
                      case measure => simp [intOf]; omega
                    · have hbb : (xb != (m : Int)) = true := by rw [bne_iff_ne]; exact hb
                      have hcb : (xc != (m : Int)) = false := by
                        have hc : xc = (m : Int) := by omega
                        rw [hc]; simp
                      clear ha hb hbx
                      go_wp2_with fail
                      go_roundw
                      case rel => exact ⟨q + 1, by omega, by go_num, by go_num, HB8.out.alloc (by omega) _⟩
                      case measure => simp [intOf]; omega
                · have hqe : q = (onVols (m : Int) es).length := by omega
                  have HQ := Lib.hid hqe
                  clear hqe
                  have hct : (ct : Int) + (q : Int) ≤ 2000000 := by omega
                  go_wp2_with fail
                  go_roundw
                  case rel => exact ⟨m + 1, by omega, by go_num, by rw [HCS.out, ← HQ.out], HB7.out.trans (HBQ.out.mono (by have := HB7.out.size; omega))⟩
                  case measure => simp [intOf]; omega
            · have hme : m = 256 := by omega
              subst hme
              rw [cntOn_all es HSD.out] at *
              go_wp2_with fail
              refine (all_any _ _ _ _ _ (HMA6.out.below HBM.out)).mono ?_
              rintro e w7 ⟨v7, rfl, ho7, _, hb7⟩
              obtain ⟨a7, c7, rfl⟩ := ownsRow_len ho7
              have HB7 := Lib.hid (HBM.out.trans (hb7.mono hzm))
              clear ho7 hb7
              go_wp2_with fail
              go_ret
              exact ⟨ret_bool (by simp), HW6.out.trans (HB7.out.mono HW6.out.size)⟩
end Go.Proofs.Ytigkcbnlbdiimaa

/- Package twin: a pair in memory; who leads, who follows, how much is settled. -/
namespace Go.Proofs.Ytigkcbnlbdiimaa
open Go.RowKit
structure Side where
  up : Bool
  log : List Cmd
/-- Two directories: L leads, F follows; 'lead' is true where side 1 leads. -/
structure Pr where
  L : Side
  F : Side
  lead : Bool
  term : Int
  settled : Int
def Pr.a (p : Pr) : Side := if p.lead then p.F else p.L
def Pr.b (p : Pr) : Side := if p.lead then p.L else p.F
def Pr.ld (p : Pr) : Int := if p.lead then 1 else 0
def Pr.cells (p : Pr) (va vb : Value) : Array Value := #[.bool p.a.up, va, .bool p.b.up, vb, .int .i64 p.ld, .int .i64 p.term, .int .i64 p.settled]
structure PairAt (w : World) (base bp : Nat) (va vb : Value) (p : Pr) : Prop where
  blk : w.heap[bp]? = some (.cells (p.cells va vb) 119 (0, 0))
  ra : w.ownsRow base 32 8 va p.a.log.length (p.a.log.flatMap Cmd.row)
  rb : w.ownsRow base 32 8 vb p.b.log.length (p.b.log.flatMap Cmd.row)
  low : base ≤ bp
  na : va.ownBlock ≠ some bp
  nb : vb.ownBlock ≠ some bp
  ap : ∀ g, va.ownBlock = some g → vb.ownBlock ≠ some g
/-- The blocks of a pair. -/
def Foot (bp : Nat) (va vb : Value) (k : Nat) : Prop := k = bp ∨ va.ownBlock = some k ∨ vb.ownBlock = some k
theorem PairAt.lt {w : World} {base bp : Nat} {va vb : Value} {p : Pr} (h : PairAt w base bp va vb p) : bp < w.heap.size := (Array.getElem?_eq_some_iff.1 h.blk).1
theorem PairAt.foot {w : World} {base bp : Nat} {va vb : Value} {p : Pr} (h : PairAt w base bp va vb p) (k : Nat) (hk : Foot bp va vb k) : base ≤ k ∧ k < w.heap.size := by
  rcases hk with rfl | hk | hk
  · exact ⟨h.low, h.lt⟩
  · exact h.ra.lt k hk
  · exact h.rb.lt k hk
theorem PairAt.keeps {w w' : World} {base bp : Nat} {va vb : Value} {p : Pr} {F : Nat → Prop} (h : PairAt w base bp va vb p) (hk : Keeps F w w') (hF : ∀ k, Foot bp va vb k → ¬ F k) : PairAt w' base bp va vb p :=
  ⟨by rw [hk.block bp h.lt (hF bp (.inl rfl))]; exact h.blk, ownsRow_keeps h.ra hk (fun k e => hF k (.inr (.inl e))), ownsRow_keeps h.rb hk (fun k e => hF k (.inr (.inr e))), h.low, h.na, h.nb, h.ap⟩
theorem PairAt.below {w w' : World} {base bp : Nat} {va vb : Value} {p : Pr} (h : PairAt w base bp va vb p) (hb : Below w.heap.size w w') : PairAt w' base bp va vb p :=
  h.keeps (F := fun _ => False) (Keeps.of_below hb fun k hk _ => hk) (fun _ _ h => h)
theorem PairAt.cell {w : World} {base bp : Nat} {va vb : Value} {p : Pr} (h : PairAt w base bp va vb p) :
    w.cell? ⟨bp, 0, none⟩ = some (.bool p.a.up) ∧ w.cell? ⟨bp, 1, none⟩ = some va ∧ w.cell? ⟨bp, 2, none⟩ = some (.bool p.b.up) ∧ w.cell? ⟨bp, 3, none⟩ = some vb ∧
      w.cell? ⟨bp, 4, none⟩ = some (.int .i64 p.ld) ∧ w.cell? ⟨bp, 5, none⟩ = some (.int .i64 p.term) ∧ w.cell? ⟨bp, 6, none⟩ = some (.int .i64 p.settled) ∧ (∀ o, w.frozen? ⟨bp, o, none⟩ = false) := by
  have e := fun j => cell_of_row w bp j _ _ _ h.blk
  exact ⟨e 0, e 1, e 2, e 3, e 4, e 5, e 6, fun o => frozen_of_row w bp o _ _ h.blk⟩
/-- What becomes of a pair's block while its own fields are written. -/
structure Pst (F : Nat → Prop) (w0 w : World) (bp : Nat) (cs : Array Value) : Prop where
  keep : Keeps F w0 w
  blk : w.heap[bp]? = some (.cells cs 119 (0, 0))
theorem Pst.refl {F : Nat → Prop} {w : World} {bp : Nat} {cs : Array Value} (h : w.heap[bp]? = some (.cells cs 119 (0, 0))) : Pst F w w bp cs := ⟨Keeps.refl _ _, h⟩
theorem Pst.lt {F : Nat → Prop} {w0 w : World} {bp : Nat} {cs : Array Value} (h : Pst F w0 w bp cs) : bp < w.heap.size := (Array.getElem?_eq_some_iff.1 h.blk).1
theorem Pst.cast {F : Nat → Prop} {w0 w : World} {bp : Nat} {cs cs' : Array Value} (h : Pst F w0 w bp cs) (e : cs = cs') : Pst F w0 w bp cs' := e ▸ h
theorem Pst.drew {F : Nat → Prop} {w0 w : World} {bp : Nat} {cs : Array Value} (h : Pst F w0 w bp cs) : Pst F w0 w.drew bp cs := ⟨h.keep.drew, h.blk⟩
theorem Pst.drewN {F : Nat → Prop} {w0 w : World} {bp : Nat} {cs : Array Value} (h : Pst F w0 w bp cs) (n : Nat) : Pst F w0 (w.drewN n) bp cs := ⟨h.keep.drewN n, h.blk⟩
theorem Pst.alloc {F : Nat → Prop} {w0 w : World} {bp : Nat} {cs : Array Value} (h : Pst F w0 w bp cs) (o : Obj) : Pst F w0 (w.alloc o) bp cs := ⟨h.keep.alloc o, (Below.heap_alloc _ _ _ h.lt).trans h.blk⟩
theorem Pst.setCell {F : Nat → Prop} {w0 w : World} {bp i : Nat} {v : Value} {cs : Array Value} (h : Pst F w0 w bp cs) (hF : F bp) : Pst F w0 (w.setCell ⟨bp, i, none⟩ v) bp (cs.setIfInBounds i v) :=
  ⟨h.keep.setCell _ _ (fun _ => hF), heap_setCell_same w bp i _ _ _ h.blk⟩
theorem Pst.grown {F : Nat → Prop} {w0 w w' : World} {bp : Nat} {cs : Array Value} {row : Option Nat} (h : Pst F w0 w bp cs) (hg : w.grownBy w' row) (hr : ∀ k, row = some k → F k) (hne : row ≠ some bp) : Pst F w0 w' bp cs :=
  ⟨h.keep.grown hg (fun k e _ => hr k e), (hg.block bp h.lt (fun e => hne e.symm)).trans h.blk⟩
theorem Pst.below {F : Nat → Prop} {w0 w w' : World} {bp : Nat} {cs : Array Value} (h : Pst F w0 w bp cs) (hb : Below w.heap.size w w') : Pst F w0 w' bp cs :=
  ⟨h.keep.trans (Keeps.of_below (F := F) hb (fun _ hk _ => hk)) (fun _ _ h => h), (hb.block bp h.lt).trans h.blk⟩
/-- What a call leaves of a pair. -/
def PairTo (w : World) (base bp : Nat) (va vb : Value) (p' : Pr) (w' : World) : Prop :=
  ∃ va' vb', PairAt w' base bp va' vb' p' ∧ (∀ g, Foot bp va' vb' g → Foot bp va vb g ∨ w.heap.size ≤ g) ∧ Keeps (Foot bp va vb) w w'
theorem PairTo.same {w w' : World} {base bp : Nat} {va vb : Value} {p : Pr} (h : PairAt w base bp va vb p) (hb : Below w.heap.size w w') : PairTo w base bp va vb p w' :=
  ⟨va, vb, h.below hb, fun _ hg => .inl hg, Keeps.of_below hb (fun _ hk _ => hk)⟩
/-- .. where only its own numbers turned. -/
theorem PairTo.of_pst {w w' : World} {base bp : Nat} {va vb : Value} {p p' : Pr} (h : PairAt w base bp va vb p) (hp : Pst (fun k => k = bp) w w' bp (p'.cells va vb)) (ha : p'.a.log = p.a.log) (hb : p'.b.log = p.b.log) : PairTo w base bp va vb p' w' :=
  ⟨va, vb, ⟨hp.blk, by rw [ha]; exact ownsRow_keeps h.ra hp.keep (fun k e e' => h.na (by rw [e, e'])), by rw [hb]; exact ownsRow_keeps h.rb hp.keep (fun k e e' => h.nb (by rw [e, e'])), h.low, h.na, h.nb, h.ap⟩,
    fun _ hg => .inl hg, hp.keep.mono (fun _ _ e => .inl e)⟩
/-- .. where side 0's log is a new row. -/
theorem PairTo.of_a {w w1 w' : World} {base bp g n c : Nat} {va vb : Value} {p p' : Pr} (h : PairAt w base bp va vb p) (hp : Pst (fun k => k = bp ∨ va.ownBlock = some k) w w' bp (p'.cells (.slice (some ⟨g, 0, none⟩) n c) vb))
    (hr : w1.ownsRow base 32 8 (.slice (some ⟨g, 0, none⟩) n c) p'.a.log.length (p'.a.log.flatMap Cmd.row)) (hk : Keeps (fun k => k = bp) w1 w') (hat : va.ownBlock = some g ∨ w.heap.size ≤ g) (hb : p'.b.log = p.b.log) : PairTo w base bp va vb p' w' := by
  have hlt := h.lt
  have hgb : g ≠ bp := by
    rcases hat with e | e
    · intro e'; exact h.na (by rw [e, e'])
    · omega
  refine ⟨.slice (some ⟨g, 0, none⟩) n c, vb, ⟨hp.blk, ownsRow_keeps hr hk (fun k e e' => hgb ?_), ?_, h.low, fun e => hgb (by simpa [Value.ownBlock] using e), h.nb, fun k e e' => ?_⟩, ?_, hp.keep.mono (fun k _ e => by rcases e with e | e; exact .inl e; exact .inr (.inl e))⟩
  · have : g = k := by simpa [Value.ownBlock] using e
    omega
  · rw [hb]
    refine ownsRow_keeps h.rb hp.keep (fun k e e' => ?_)
    rcases e' with e' | e'
    · exact h.nb (by rw [e, e'])
    · exact h.ap k e' e
  · have e2 : g = k := by simpa [Value.ownBlock] using e
    subst e2
    rcases hat with e3 | e3
    · exact h.ap g e3 e'
    · have := (h.rb.lt g e').2; omega
  · intro k hk
    rcases hk with e | e | e
    · exact .inl (.inl e)
    · have e2 : g = k := by simpa [Value.ownBlock] using e
      subst e2
      rcases hat with e3 | e3
      · exact .inl (.inr (.inl e3))
      · exact .inr e3
    · exact .inl (.inr (.inr e))
theorem PairTo.of_b {w w1 w' : World} {base bp g n c : Nat} {va vb : Value} {p p' : Pr} (h : PairAt w base bp va vb p) (hp : Pst (fun k => k = bp ∨ vb.ownBlock = some k) w w' bp (p'.cells va (.slice (some ⟨g, 0, none⟩) n c)))
    (hr : w1.ownsRow base 32 8 (.slice (some ⟨g, 0, none⟩) n c) p'.b.log.length (p'.b.log.flatMap Cmd.row)) (hk : Keeps (fun k => k = bp) w1 w') (hat : vb.ownBlock = some g ∨ w.heap.size ≤ g) (hb : p'.a.log = p.a.log) : PairTo w base bp va vb p' w' := by
  have hlt := h.lt
  have hgb : g ≠ bp := by
    rcases hat with e | e
    · intro e'; exact h.nb (by rw [e, e'])
    · omega
  refine ⟨va, .slice (some ⟨g, 0, none⟩) n c, ⟨hp.blk, ?_, ownsRow_keeps hr hk (fun k e e' => hgb ?_), h.low, h.na, fun e => hgb (by simpa [Value.ownBlock] using e), fun k e e' => ?_⟩, ?_, hp.keep.mono (fun k _ e => by rcases e with e | e; exact .inl e; exact .inr (.inr e))⟩
  · rw [hb]
    refine ownsRow_keeps h.ra hp.keep (fun k e e' => ?_)
    rcases e' with e' | e'
    · exact h.na (by rw [e, e'])
    · exact h.ap k e e'
  · have : g = k := by simpa [Value.ownBlock] using e
    omega
  · have e2 : g = k := by simpa [Value.ownBlock] using e'
    subst e2
    rcases hat with e3 | e3
    · exact h.ap g e e3
    · have := (h.ra.lt g e).2; omega
  · intro k hk
    rcases hk with e | e | e
    · exact .inl (.inl e)
    · exact .inl (.inr (.inl e))
    · have e2 : g = k := by simpa [Value.ownBlock] using e
      subst e2
      rcases hat with e3 | e3
      · exact .inl (.inr (.inr e3))
      · exact .inr e3
theorem PairTo.trans {w w1 w2 : World} {base bp : Nat} {va vb : Value} {p1 p2 : Pr} (h : ∃ va1 vb1, PairAt w1 base bp va1 vb1 p1 ∧ (∀ g, Foot bp va1 vb1 g → Foot bp va vb g ∨ w.heap.size ≤ g) ∧ Keeps (Foot bp va vb) w w1 ∧ PairTo w1 base bp va1 vb1 p2 w2) : PairTo w base bp va vb p2 w2 := by
  obtain ⟨va1, vb1, _, h2, h3, va2, vb2, k1, k2, k3⟩ := h
  refine ⟨va2, vb2, k1, fun g hg => ?_, h3.trans k3 (fun i hi hf => ?_)⟩
  · rcases k2 g hg with h | h
    · exact h2 g h
    · exact .inr (Nat.le_trans h3.size h)
  · rcases h2 i hf with h | h
    · exact h
    · omega
set_option maxRecDepth 100000 in
set_option maxHeartbeats 1000000 in
theorem leader_0 (bp : Nat) (w : World) (k4 : w.cell? ⟨bp, 4, none⟩ = some (.int .i64 0)) :
    Calls Try.prog 61 #[.pointer (some ⟨bp, 0, none⟩)] w fun e w' => e = .returned (.pointer (some ⟨bp, 0, none⟩)) ∧ w.drew = w' := by
  have hw1 : IntKind.i64.wrap 1 = 1 := IntWalk.i64_in _ (by omega)
  have hw0 : IntKind.i64.wrap 0 = 0 := IntWalk.i64_in _ (by omega)
  go_enter Try.func61, Try.ntmps61
  go_wp2_with fail
  refine wp_region_now0 [4] [(0, 0), (1, 0), (2, 0), (3, 0), (4, 2), (5, 0), (6, 0), (7, 0), (8, 0)] (by kernel_rfl) (by kernel_rfl) rfl (by kernel_rfl) ?_
  refine stepE0 rfl rfl (fun K hK => ?_)
  go_simp
  refine hK _ ?_
  clear hK K
  refine stepE0 rfl rfl (fun K hK => ?_)
  go_simp
  refine hK _ ?_
  clear hK K
  refine stepE0 rfl rfl (fun K hK => ?_)
  go_simp
  refine hK _ ?_
  clear hK K
  refine stepE0 rfl rfl (fun K hK => ?_)
  go_simp
  refine hK _ ?_
  clear hK K
  refine stepE2 rfl rfl ?_ (fun w1 hS => ?_) (fun K hK => ?_)
  rotate_left
  focus (obtain rfl : w1 = _ := hS; go_simp; rfl)
  go_simp
  refine hK _ ?_
  clear hK K
  refine stepE0 rfl rfl (fun K hK => ?_)
  go_simp
  refine hK _ ?_
  clear hK K
  refine stepE0 rfl rfl (fun K hK => ?_)
  go_simp
  refine hK _ ?_
  clear hK K
  refine stepE0 rfl rfl (fun K hK => ?_)
  go_simp
  refine hK _ ?_
  clear hK K
  refine stepE0 rfl rfl (fun K hK => ?_)
  go_simp
  refine hK _ ?_
  clear hK K
  try refine stepEnil0 ?_
  go_wp2_with fail
  go_ret
  exact ⟨rfl, rfl⟩
set_option maxRecDepth 100000 in
set_option maxHeartbeats 1000000 in
theorem leader_1 (bp : Nat) (w : World) (k4 : w.cell? ⟨bp, 4, none⟩ = some (.int .i64 1)) :
    Calls Try.prog 61 #[.pointer (some ⟨bp, 0, none⟩)] w fun e w' => e = .returned (.pointer (some ⟨bp, 2, none⟩)) ∧ w.drew = w' := by
  have hw1 : IntKind.i64.wrap 1 = 1 := IntWalk.i64_in _ (by omega)
  have hw0 : IntKind.i64.wrap 0 = 0 := IntWalk.i64_in _ (by omega)
  go_enter Try.func61, Try.ntmps61
  go_wp2_with fail
  refine wp_region_now0 [4] [(0, 0), (1, 0), (2, 0), (3, 0), (4, 2), (5, 0), (6, 0), (7, 0), (8, 0)] (by kernel_rfl) (by kernel_rfl) rfl (by kernel_rfl) ?_
  refine stepE0 rfl rfl (fun K hK => ?_)
  go_simp
  refine hK _ ?_
  clear hK K
  refine stepE0 rfl rfl (fun K hK => ?_)
  go_simp
  refine hK _ ?_
  clear hK K
  refine stepE0 rfl rfl (fun K hK => ?_)
  go_simp
  refine hK _ ?_
  clear hK K
  refine stepE0 rfl rfl (fun K hK => ?_)
  go_simp
  refine hK _ ?_
  clear hK K
  refine stepE2 rfl rfl ?_ (fun w1 hS => ?_) (fun K hK => ?_)
  rotate_left
  focus (obtain rfl : w1 = _ := hS; go_simp; rfl)
  go_simp
  refine hK _ ?_
  clear hK K
  refine stepE0 rfl rfl (fun K hK => ?_)
  go_simp
  refine hK _ ?_
  clear hK K
  refine stepE0 rfl rfl (fun K hK => ?_)
  go_simp
  refine hK _ ?_
  clear hK K
  refine stepE0 rfl rfl (fun K hK => ?_)
  go_simp
  refine hK _ ?_
  clear hK K
  refine stepE0 rfl rfl (fun K hK => ?_)
  go_simp
  refine hK _ ?_
  clear hK K
  try refine stepEnil0 ?_
  go_wp2_with fail
  go_ret
  exact ⟨rfl, rfl⟩
theorem leader_any (base bp : Nat) (va vb : Value) (p : Pr) (w : World) (h : PairAt w base bp va vb p) :
    Calls Try.prog 61 #[.pointer (some ⟨bp, 0, none⟩)] w fun e w' => e = .returned (.pointer (some ⟨bp, if p.lead then 2 else 0, none⟩)) ∧ w.drew = w' := by
  obtain ⟨_, _, _, _, k4, _, _, _⟩ := h.cell
  unfold Pr.ld at k4
  cases hl : p.lead
  · rw [hl] at k4; exact leader_0 bp w k4
  · rw [hl] at k4; exact leader_1 bp w k4
set_option maxRecDepth 100000 in
set_option maxHeartbeats 1000000 in
theorem follower_0 (bp : Nat) (w : World) (k4 : w.cell? ⟨bp, 4, none⟩ = some (.int .i64 0)) :
    Calls Try.prog 62 #[.pointer (some ⟨bp, 0, none⟩)] w fun e w' => e = .returned (.pointer (some ⟨bp, 2, none⟩)) ∧ w.drew = w' := by
  have hw1 : IntKind.i64.wrap 1 = 1 := IntWalk.i64_in _ (by omega)
  have hw0 : IntKind.i64.wrap 0 = 0 := IntWalk.i64_in _ (by omega)
  go_enter Try.func62, Try.ntmps62
  go_wp2_with fail
  refine wp_region_now0 [4] [(0, 0), (1, 0), (2, 0), (3, 0), (4, 2), (5, 0), (6, 0), (7, 0), (8, 0), (9, 0)] (by kernel_rfl) (by kernel_rfl) rfl (by kernel_rfl) ?_
  refine stepE0 rfl rfl (fun K hK => ?_)
  go_simp
  refine hK _ ?_
  clear hK K
  refine stepE0 rfl rfl (fun K hK => ?_)
  go_simp
  refine hK _ ?_
  clear hK K
  refine stepE0 rfl rfl (fun K hK => ?_)
  go_simp
  refine hK _ ?_
  clear hK K
  refine stepE0 rfl rfl (fun K hK => ?_)
  go_simp
  refine hK _ ?_
  clear hK K
  refine stepE2 rfl rfl ?_ (fun w1 hS => ?_) (fun K hK => ?_)
  rotate_left
  focus (obtain rfl : w1 = _ := hS; go_simp; rfl)
  go_simp
  refine hK _ ?_
  clear hK K
  refine stepE0 rfl rfl (fun K hK => ?_)
  go_simp
  refine hK _ ?_
  clear hK K
  refine stepE0 rfl rfl (fun K hK => ?_)
  go_simp
  refine hK _ ?_
  clear hK K
  refine stepE0 rfl rfl (fun K hK => ?_)
  go_simp
  refine hK _ ?_
  clear hK K
  refine stepE0 rfl rfl (fun K hK => ?_)
  go_simp
  refine hK _ ?_
  clear hK K
  refine stepE0 rfl rfl (fun K hK => ?_)
  go_simp
  refine hK _ ?_
  clear hK K
  try refine stepEnil0 ?_
  go_wp2_with fail
  go_ret
  exact ⟨rfl, rfl⟩
set_option maxRecDepth 100000 in
set_option maxHeartbeats 1000000 in
theorem follower_1 (bp : Nat) (w : World) (k4 : w.cell? ⟨bp, 4, none⟩ = some (.int .i64 1)) :
    Calls Try.prog 62 #[.pointer (some ⟨bp, 0, none⟩)] w fun e w' => e = .returned (.pointer (some ⟨bp, 0, none⟩)) ∧ w.drew = w' := by
  have hw1 : IntKind.i64.wrap 1 = 1 := IntWalk.i64_in _ (by omega)
  have hw0 : IntKind.i64.wrap 0 = 0 := IntWalk.i64_in _ (by omega)
  go_enter Try.func62, Try.ntmps62
  go_wp2_with fail
  refine wp_region_now0 [4] [(0, 0), (1, 0), (2, 0), (3, 0), (4, 2), (5, 0), (6, 0), (7, 0), (8, 0), (9, 0)] (by kernel_rfl) (by kernel_rfl) rfl (by kernel_rfl) ?_
  refine stepE0 rfl rfl (fun K hK => ?_)
  go_simp
  refine hK _ ?_
  clear hK K
  refine stepE0 rfl rfl (fun K hK => ?_)
  go_simp
  refine hK _ ?_
  clear hK K
  refine stepE0 rfl rfl (fun K hK => ?_)
  go_simp
  refine hK _ ?_
  clear hK K
  refine stepE0 rfl rfl (fun K hK => ?_)
  go_simp
  refine hK _ ?_
  clear hK K
  refine stepE2 rfl rfl ?_ (fun w1 hS => ?_) (fun K hK => ?_)
  rotate_left
  focus (obtain rfl : w1 = _ := hS; go_simp; rfl)
  go_simp
  refine hK _ ?_
  clear hK K
  refine stepE0 rfl rfl (fun K hK => ?_)
  go_simp
  refine hK _ ?_
  clear hK K
  refine stepE0 rfl rfl (fun K hK => ?_)
  go_simp
  refine hK _ ?_
  clear hK K
  refine stepE0 rfl rfl (fun K hK => ?_)
  go_simp
  refine hK _ ?_
  clear hK K
  refine stepE0 rfl rfl (fun K hK => ?_)
  go_simp
  refine hK _ ?_
  clear hK K
  refine stepE0 rfl rfl (fun K hK => ?_)
  go_simp
  refine hK _ ?_
  clear hK K
  try refine stepEnil0 ?_
  go_wp2_with fail
  go_ret
  exact ⟨rfl, rfl⟩
theorem follower_any (base bp : Nat) (va vb : Value) (p : Pr) (w : World) (h : PairAt w base bp va vb p) :
    Calls Try.prog 62 #[.pointer (some ⟨bp, 0, none⟩)] w fun e w' => e = .returned (.pointer (some ⟨bp, if p.lead then 0 else 2, none⟩)) ∧ w.drew = w' := by
  obtain ⟨_, _, _, _, k4, _, _, _⟩ := h.cell
  unfold Pr.ld at k4
  cases hl : p.lead
  · rw [hl] at k4; exact follower_0 bp w k4
  · rw [hl] at k4; exact follower_1 bp w k4
set_option maxRecDepth 100000 in
set_option maxHeartbeats 1000000 in
theorem settle_any (bp : Nat) (s n : Int) (w : World) (h : w.cell? ⟨bp, 6, none⟩ = some (.int .i64 s)) (hf : w.frozen? ⟨bp, 6, none⟩ = false) :
    Calls Try.prog 63 #[.pointer (some ⟨bp, 0, none⟩), .int .i64 n] w fun e w' => e = .returned (.tuple #[]) ∧ w.setCell ⟨bp, 6, none⟩ (.int .i64 (max s n)) = w' := by
  go_enter Try.func63, Try.ntmps63
  go_wp2
  · go_end0
    exact ⟨rfl, by rw [Int.max_eq_right (by omega)]⟩
  · go_end0
    exact ⟨rfl, by rw [Int.max_eq_left (by omega)]⟩
end Go.Proofs.Ytigkcbnlbdiimaa

/- Package twin: what is read off a pair; no pair. -/
namespace Go.Proofs.Ytigkcbnlbdiimaa
open Go.RowKit
def Pr.new : Pr := ⟨⟨true, []⟩, ⟨true, []⟩, false, 1, 0⟩
set_option maxRecDepth 100000 in
set_option maxHeartbeats 1000000 in
theorem twin_new (w : World) : Calls Try.prog 25 #[] w fun e w' => e = .returned (.pointer (some ⟨w.heap.size, 0, none⟩)) ∧ PairAt w' w.heap.size w.heap.size (.slice none 0 0) (.slice none 0 0) Pr.new ∧ Below w.heap.size w w' := by
  go_enter Try.func25, Try.ntmps25
  go_wp2
  go_ret
  exact ⟨rfl, ⟨heap_alloc_new _ _, World.ownsRow_nil _ _ _ _, World.ownsRow_nil _ _ _ _, Nat.le_refl _, by simp [Value.ownBlock], by simp [Value.ownBlock], by simp [Value.ownBlock]⟩, (by repeat (first | (with_reducible exact Below.refl _ _) | (with_reducible refine Below.setCell ?_ ?_ _) | (with_reducible refine Below.alloc ?_ ?_ _) | (with_reducible refine Below.drewN ?_ _) | (with_reducible refine Below.drew ?_) | (with_reducible exact Nat.le_refl _) | (focus (simp only [World.size_alloc, World.size_setCell, World.size_drew, World.size_drewN]; omega)) | omega | exact Nat.le_refl _ | (focus (simp; done)) | (focus (simp; omega))))⟩
set_option maxRecDepth 100000 in
set_option maxHeartbeats 1000000 in
theorem lead_any (base bp : Nat) (va vb : Value) (p : Pr) (w : World) (h : PairAt w base bp va vb p) :
    Calls Try.prog 26 #[.pointer (some ⟨bp, 0, none⟩)] w fun e w' => e = .returned (.tuple #[.int .i64 p.ld, .int .i64 p.term]) ∧ w.drew = w' := by
  obtain ⟨_, _, _, _, k4, k5, _, _⟩ := h.cell
  clear h
  generalize p.ld = ld at *
  generalize p.term = tm at *
  go_enter Try.func26, Try.ntmps26
  go_wp2_with fail
  refine wp_region_now0 [3, 7] [(0, 0), (1, 0), (2, 0), (3, 2), (4, 0), (5, 0), (6, 0), (7, 2), (8, 0), (9, 0)] (by kernel_rfl) (by kernel_rfl) rfl (by kernel_rfl) ?_
  refine stepE0 rfl rfl (fun K hK => ?_)
  go_simp
  refine hK _ ?_
  clear hK K
  refine stepE0 rfl rfl (fun K hK => ?_)
  go_simp
  refine hK _ ?_
  clear hK K
  refine stepE0 rfl rfl (fun K hK => ?_)
  go_simp
  refine hK _ ?_
  clear hK K
  refine stepE2 rfl rfl ?_ (fun w1 hS => ?_) (fun K hK => ?_)
  rotate_left
  focus (obtain rfl : w1 = _ := hS; go_simp; rfl)
  go_simp
  refine hK _ ?_
  clear hK K
  refine stepE0 rfl rfl (fun K hK => ?_)
  go_simp
  refine hK _ ?_
  clear hK K
  refine stepE0 rfl rfl (fun K hK => ?_)
  go_simp
  refine hK _ ?_
  clear hK K
  refine stepE0 rfl rfl (fun K hK => ?_)
  go_simp
  refine hK _ ?_
  clear hK K
  refine stepE2 rfl rfl ?_ (fun w1 hS => ?_) (fun K hK => ?_)
  rotate_left
  focus (obtain rfl : w1 = _ := hS; go_simp; rfl)
  go_simp
  refine hK _ ?_
  clear hK K
  refine stepE0 rfl rfl (fun K hK => ?_)
  go_simp
  refine hK _ ?_
  clear hK K
  refine stepE0 rfl rfl (fun K hK => ?_)
  go_simp
  refine hK _ ?_
  clear hK K
  try refine stepEnil0 ?_
  go_wp2_with fail
  go_ret2
  exact ⟨rfl, rfl⟩
set_option maxRecDepth 100000 in
set_option maxHeartbeats 1000000 in
theorem settled_any (base bp : Nat) (va vb : Value) (p : Pr) (w : World) (h : PairAt w base bp va vb p) :
    Calls Try.prog 28 #[.pointer (some ⟨bp, 0, none⟩)] w fun e w' => e = .returned (.int .i64 p.settled) ∧ w = w' := by
  obtain ⟨_, _, _, _, k4, k5, k6, _⟩ := h.cell
  clear h
  generalize p.settled = tm at *
  go_enter Try.func28, Try.ntmps28
  go_wp2
  go_ret
  exact ⟨rfl, rfl⟩
set_option maxRecDepth 100000 in
set_option maxHeartbeats 1000000 in
theorem logs_any (base bp : Nat) (va vb : Value) (p : Pr) (w : World) (h : PairAt w base bp va vb p) :
    Calls Try.prog 31 #[.pointer (some ⟨bp, 0, none⟩)] w fun e w' => e = .returned (.tuple #[.int .i64 p.a.log.length, .int .i64 p.b.log.length]) ∧ w.drew = w' := by
  obtain ⟨_, k1, _, k3, _, _, _, _⟩ := h.cell
  obtain ⟨aa, ca, rfl⟩ := ownsRow_len h.ra
  obtain ⟨ab, cb, rfl⟩ := ownsRow_len h.rb
  clear h
  generalize p.a.log.length = n at *
  generalize p.b.log.length = m at *
  go_enter Try.func31, Try.ntmps31
  go_wp2_with fail
  refine wp_region_now0 [5, 12] [(0, 0), (1, 0), (2, 0), (3, 0), (4, 0), (5, 2), (6, 0), (7, 0), (8, 0), (9, 0), (10, 0), (11, 0), (12, 2), (13, 0), (14, 0), (15, 0)] (by kernel_rfl) (by kernel_rfl) rfl (by kernel_rfl) ?_
  refine stepE0 rfl rfl (fun K hK => ?_)
  go_simp
  refine hK _ ?_
  clear hK K
  refine stepE0 rfl rfl (fun K hK => ?_)
  go_simp
  refine hK _ ?_
  clear hK K
  refine stepE0 rfl rfl (fun K hK => ?_)
  go_simp
  refine hK _ ?_
  clear hK K
  refine stepE0 rfl rfl (fun K hK => ?_)
  go_simp
  refine hK _ ?_
  clear hK K
  refine stepE0 rfl rfl (fun K hK => ?_)
  go_simp
  refine hK _ ?_
  clear hK K
  refine stepE2 rfl rfl ?_ (fun w1 hS => ?_) (fun K hK => ?_)
  rotate_left
  focus (obtain rfl : w1 = _ := hS; go_simp; rfl)
  go_simp
  refine hK _ ?_
  clear hK K
  refine stepE0 rfl rfl (fun K hK => ?_)
  go_simp
  refine hK _ ?_
  clear hK K
  refine stepE0 rfl rfl (fun K hK => ?_)
  go_simp
  refine hK _ ?_
  clear hK K
  refine stepE0 rfl rfl (fun K hK => ?_)
  go_simp
  refine hK _ ?_
  clear hK K
  refine stepE0 rfl rfl (fun K hK => ?_)
  go_simp
  refine hK _ ?_
  clear hK K
  refine stepE0 rfl rfl (fun K hK => ?_)
  go_simp
  refine hK _ ?_
  clear hK K
  refine stepE0 rfl rfl (fun K hK => ?_)
  go_simp
  refine hK _ ?_
  clear hK K
  refine stepE2 rfl rfl ?_ (fun w1 hS => ?_) (fun K hK => ?_)
  rotate_left
  focus (obtain rfl : w1 = _ := hS; go_simp; rfl)
  go_simp
  refine hK _ ?_
  clear hK K
  refine stepE0 rfl rfl (fun K hK => ?_)
  go_simp
  refine hK _ ?_
  clear hK K
  refine stepE0 rfl rfl (fun K hK => ?_)
  go_simp
  refine hK _ ?_
  clear hK K
  refine stepE0 rfl rfl (fun K hK => ?_)
  go_simp
  refine hK _ ?_
  clear hK K
  try refine stepEnil0 ?_
  go_wp2_with fail
  go_ret2
  exact ⟨rfl, rfl⟩
def sideI (s : Bool) : Int := if s then 1 else 0
set_option maxHeartbeats 400000 in
theorem right_ok (bp : Nat) (s : Bool) (w : World) : Calls Try.prog 64 #[.pointer (some ⟨bp, 0, none⟩), .int .i64 (sideI s)] w fun e w' => e = .returned .nilIface ∧ w = w' := by
  cases s
  all_goals
    simp only [sideI, if_true, if_false, Bool.false_eq_true]
    go_enter Try.func64, Try.ntmps64
    go_wp2
    go_ret
    exact ⟨rfl, rfl⟩
set_option maxHeartbeats 400000 in
theorem right_bad (bp : Nat) (n : Int) (h : n < 0 ∨ 2 ≤ n) (w : World) : Calls Try.prog 64 #[.pointer (some ⟨bp, 0, none⟩), .int .i64 n] w fun e w' => e = .returned (.iface 106 (.int .i64 1)) ∧ w = w' := by
  by_cases h0 : n < 0
  · clear h
    go_enter Try.func64, Try.ntmps64
    go_wp2
    go_ret
    exact ⟨rfl, rfl⟩
  · have h2 : 2 ≤ n := by omega
    have h3 : 0 ≤ n := by omega
    clear h
    go_enter Try.func64, Try.ntmps64
    go_wp2
    go_ret
    exact ⟨rfl, rfl⟩
set_option maxHeartbeats 400000 in
theorem right_nil (n : Int) (w : World) : Calls Try.prog 64 #[.pointer none, .int .i64 n] w fun e w' => e = .returned (.iface 106 (.int .i64 15)) ∧ w = w' := by
  go_enter Try.func64, Try.ntmps64
  go_wp2
  go_ret
  exact ⟨rfl, rfl⟩
set_option maxHeartbeats 400000 in
theorem ask_nil (t : Int) (c : Cmd) (w : World) : Calls Try.prog 30 #[.pointer none, .int .i64 t, .agg #[.int .i64 c.kind, .int .i64 c.vol, .int .i64 c.epoch, .int .i64 c.spot, .int .i64 c.node, .int .i64 c.n0, .int .i64 c.n1, .int .i64 c.n2]] w
    fun e w' => e = .returned (.tuple #[.int .i64 0, errV 15]) ∧ Below w.heap.size w w' := by
  obtain ⟨ck, cv, ce, cs, cn, c0, c1, c2⟩ := c
  go_enter Try.func30, Try.ntmps30
  go_wp2
  go_ret2
  exact ⟨by rw [errV_ne (by omega)]; rfl, (by repeat (first | (with_reducible exact Below.refl _ _) | (with_reducible refine Below.setCell ?_ ?_ _) | (with_reducible refine Below.alloc ?_ ?_ _) | (with_reducible refine Below.drewN ?_ _) | (with_reducible refine Below.drew ?_) | (with_reducible exact Nat.le_refl _) | (focus (simp only [World.size_alloc, World.size_setCell, World.size_drew, World.size_drewN]; omega)) | omega | exact Nat.le_refl _ | (focus (simp; done)) | (focus (simp; omega))))⟩
set_option maxHeartbeats 400000 in
theorem ship_nil (t : Int) (w : World) : Calls Try.prog 32 #[.pointer none, .int .i64 t] w fun e w' => e = .returned (errV 15) ∧ w = w' := by
  go_enter Try.func32, Try.ntmps32
  go_wp2
  go_ret
  exact ⟨by rw [errV_ne (by omega)]; rfl, rfl⟩
set_option maxHeartbeats 400000 in
theorem fall_nil (t : Int) (w : World) : Calls Try.prog 33 #[.pointer none, .int .i64 t] w fun e w' => e = .returned (errV 15) ∧ w = w' := by
  go_enter Try.func33, Try.ntmps33
  go_wp2_with (go_at_call 64; refine (right_nil _ _).mono ?_; rintro e w' ⟨rfl, rfl⟩)
  go_ret
  exact ⟨by rw [errV_ne (by omega)]; rfl, rfl⟩
set_option maxHeartbeats 400000 in
theorem rise_nil (t : Int) (w : World) : Calls Try.prog 34 #[.pointer none, .int .i64 t] w fun e w' => e = .returned (errV 15) ∧ w = w' := by
  go_enter Try.func34, Try.ntmps34
  go_wp2_with (go_at_call 64; refine (right_nil _ _).mono ?_; rintro e w' ⟨rfl, rfl⟩)
  go_ret
  exact ⟨by rw [errV_ne (by omega)]; rfl, rfl⟩
set_option maxHeartbeats 400000 in
theorem map_nil (t : Int) (w : World) : Calls Try.prog 35 #[.pointer none, .int .i64 t] w fun e w' => e = .returned (.pointer none) ∧ w = w' := by
  go_enter Try.func35, Try.ntmps35
  go_wp2_with (go_at_call 64; refine (right_nil _ _).mono ?_; rintro e w' ⟨rfl, rfl⟩)
  go_ret
  exact ⟨rfl, rfl⟩
set_option maxHeartbeats 400000 in
theorem answer_nil (t : Int) (w : World) : Calls Try.prog 29 #[.pointer none, .int .i64 t] w fun e w' => e = .returned (.tuple #[.int .i64 0, errV 15]) ∧ w = w' := by
  go_enter Try.func29, Try.ntmps29
  go_wp2
  go_ret2
  exact ⟨by rw [errV_ne (by omega)]; rfl, rfl⟩
set_option maxHeartbeats 400000 in
theorem lead_nil (w : World) : Calls Try.prog 26 #[.pointer none] w fun e w' => e = .returned (.tuple #[.int .i64 0, .int .i64 0]) ∧ w = w' := by
  go_enter Try.func26, Try.ntmps26
  go_wp2
  go_ret2
  exact ⟨rfl, rfl⟩
set_option maxHeartbeats 400000 in
theorem logs_nil (w : World) : Calls Try.prog 31 #[.pointer none] w fun e w' => e = .returned (.tuple #[.int .i64 0, .int .i64 0]) ∧ w = w' := by
  go_enter Try.func31, Try.ntmps31
  go_wp2
  go_ret2
  exact ⟨rfl, rfl⟩
set_option maxHeartbeats 400000 in
theorem settled_nil (w : World) : Calls Try.prog 28 #[.pointer none] w fun e w' => e = .returned (.int .i64 0) ∧ w = w' := by
  go_enter Try.func28, Try.ntmps28
  go_wp2
  go_ret
  exact ⟨rfl, rfl⟩
end Go.Proofs.Ytigkcbnlbdiimaa
