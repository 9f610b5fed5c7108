/- Package index, plain: positions by keys. No program in sight. -/
namespace Go.Proofs.YtfpjfoajonbndaaGreatDoor
structure Ps where
  key : Nat
  off : Nat
  len : Nat
  cookie : Nat
  gone : Bool
deriving DecidableEq
def IxS (l : List Ps) : Prop := l.Pairwise fun a b => a.key < b.key
/-- A key's place. -/
def ixAt : List Ps → Nat → Nat
  | [], _ => 0
  | q :: r, k => if q.key < k then ixAt r k + 1 else 0
def ixFind : List Ps → Nat → Option Ps
  | [], _ => none
  | q :: r, k => if q.key = k then some q else ixFind r k
def ixPut : List Ps → Ps → List Ps
  | [], p => [p]
  | q :: r, p => if q.key < p.key then q :: ixPut r p else if q.key = p.key then p :: r else p :: q :: r
theorem ixAt_le : ∀ (l : List Ps) (k : Nat), ixAt l k ≤ l.length
  | [], _ => Nat.le_refl _
  | q :: r, k => by
    have := ixAt_le r k
    unfold ixAt
    split <;> simp <;> omega
theorem ixAt_below : ∀ {l : List Ps} {k i : Nat} {q : Ps}, i < ixAt l k → l[i]? = some q → q.key < k
  | [], _, _, _, h, _ => by simp [ixAt] at h
  | a :: r, k, i, q, h, hq => by
    unfold ixAt at h
    split at h
    · rename_i ha
      cases i with
      | zero => simp at hq; subst hq; exact ha
      | succ i => exact ixAt_below (l := r) (i := i) (by omega) (by simpa using hq)
    · omega
theorem ixAt_above : ∀ {l : List Ps} {k i : Nat} {q : Ps}, IxS l → ixAt l k ≤ i → l[i]? = some q → k ≤ q.key
  | [], _, _, _, _, _, hq => by simp at hq
  | a :: r, k, i, q, hs, h, hq => by
    have hp := List.pairwise_cons.1 hs
    unfold ixAt at h
    split at h
    · cases i with
      | zero => omega
      | succ i => exact ixAt_above (i := i) hp.2 (by omega) (by simpa using hq)
    · rename_i ha
      cases i with
      | zero => simp at hq; subst hq; omega
      | succ i =>
        have := hp.1 q (List.mem_of_getElem? (by simpa using hq))
        omega
/-- A place with smaller keys ahead and none behind is the key's. -/
theorem ixAt_eq {l : List Ps} {k i : Nat} (hi : i ≤ l.length) (h1 : ∀ j q, j < i → l[j]? = some q → q.key < k) (h2 : ∀ q, l[i]? = some q → k ≤ q.key) : ixAt l k = i := by
  induction l generalizing i with
  | nil => simp at hi; subst hi; rfl
  | cons a r ih =>
    unfold ixAt
    cases i with
    | zero =>
      have := h2 a rfl
      rw [if_neg (by omega)]
    | succ i =>
      rw [if_pos (h1 0 a (by omega) rfl), ih (by simpa using hi) (fun j q hj hq => h1 (j + 1) q (by omega) (by simpa using hq)) (fun q hq => h2 q (by simpa using hq))]
theorem ixFind_at : ∀ {l : List Ps} {k : Nat}, IxS l → ixFind l k = (match l[ixAt l k]? with | some q => if q.key = k then some q else none | none => none)
  | [], _, _ => rfl
  | a :: r, k, hs => by
    have hp := List.pairwise_cons.1 hs
    unfold ixFind ixAt
    by_cases h1 : a.key < k
    · rw [if_neg (by omega), if_pos h1, List.getElem?_cons_succ]
      exact ixFind_at hp.2
    · rw [if_neg h1]
      by_cases h2 : a.key = k
      · simp [h2]
      · rw [if_neg h2]
        simp only [List.getElem?_cons_zero, if_neg h2]
        have key : ∀ l' : List Ps, (∀ x ∈ l', a.key < x.key) → ixFind l' k = none := by
          intro l'
          induction l' with
          | nil => intro _; rfl
          | cons b t ih =>
            intro hb
            unfold ixFind
            have := hb b List.mem_cons_self
            rw [if_neg (by omega)]
            exact ih fun x hx => hb x (List.mem_cons_of_mem _ hx)
        exact key r hp.1
theorem ixPut_set : ∀ {l : List Ps} {p q : Ps}, IxS l → l[ixAt l p.key]? = some q → q.key = p.key → ixPut l p = l.set (ixAt l p.key) p
  | [], _, _, _, h, _ => by simp at h
  | a :: r, p, q, hs, h, hq => by
    unfold ixPut
    by_cases h1 : a.key < p.key
    · have e : ixAt (a :: r) p.key = ixAt r p.key + 1 := if_pos h1
      rw [e] at h ⊢
      rw [if_pos h1, ixPut_set (List.pairwise_cons.1 hs).2 (by simpa using h) hq, List.set_cons_succ]
    · have e : ixAt (a :: r) p.key = 0 := if_neg h1
      rw [e] at h ⊢
      simp at h
      subst h
      rw [if_neg h1, if_pos hq]
      rfl
theorem ixPut_insert : ∀ {l : List Ps} {p : Ps}, IxS l → (∀ q, l[ixAt l p.key]? = some q → q.key ≠ p.key) → ixPut l p = l.take (ixAt l p.key) ++ p :: l.drop (ixAt l p.key)
  | [], _, _, _ => rfl
  | a :: r, p, hs, h => by
    unfold ixPut
    by_cases h1 : a.key < p.key
    · have e : ixAt (a :: r) p.key = ixAt r p.key + 1 := if_pos h1
      rw [e] at h ⊢
      rw [if_pos h1, ixPut_insert (List.pairwise_cons.1 hs).2 (fun q hq => h q (by simpa using hq))]
      rfl
    · have e : ixAt (a :: r) p.key = 0 := if_neg h1
      rw [e] at h ⊢
      rw [if_neg h1, if_neg (h a rfl)]
      rfl
theorem mem_ixPut : ∀ {l : List Ps} {p x : Ps}, x ∈ ixPut l p → x = p ∨ x ∈ l
  | [], p, x, h => by simpa [ixPut] using h
  | a :: r, p, x, h => by
    unfold ixPut at h
    split at h
    · rcases List.mem_cons.1 h with h | h
      · exact .inr (by rw [h]; exact List.mem_cons_self)
      · exact (mem_ixPut h).imp id fun h => List.mem_cons_of_mem _ h
    split at h
    · rcases List.mem_cons.1 h with h | h
      · exact .inl h
      · exact .inr (List.mem_cons_of_mem _ h)
    · rcases List.mem_cons.1 h with h | h
      · exact .inl h
      · exact .inr h
theorem IxS.put : ∀ {l : List Ps} {p : Ps}, IxS l → IxS (ixPut l p)
  | [], _, _ => List.pairwise_singleton _ _
  | a :: r, p, hs => by
    have hp := List.pairwise_cons.1 hs
    unfold ixPut
    split
    · rename_i h1
      refine List.pairwise_cons.2 ⟨fun x hx => ?_, IxS.put hp.2⟩
      rcases mem_ixPut hx with rfl | hx
      · exact h1
      · exact hp.1 x hx
    split
    · rename_i h1 h2
      exact List.pairwise_cons.2 ⟨fun x hx => by have := hp.1 x hx; omega, hp.2⟩
    · rename_i h1 h2
      refine List.pairwise_cons.2 ⟨fun x hx => ?_, hs⟩
      rcases List.mem_cons.1 hx with rfl | hx
      · omega
      · have := hp.1 x hx; omega
theorem ixFind_put : ∀ (l : List Ps) (p : Ps) (k : Nat), IxS l → ixFind (ixPut l p) k = if p.key = k then some p else ixFind l k
  | [], p, k, _ => by unfold ixPut ixFind; rfl
  | a :: r, p, k, hs => by
    have hp := List.pairwise_cons.1 hs
    unfold ixPut
    split
    · rename_i h1
      show (if a.key = k then some a else ixFind (ixPut r p) k) = _
      rw [ixFind_put r p k hp.2]
      show _ = if p.key = k then some p else if a.key = k then some a else ixFind r k
      by_cases h2 : a.key = k
      · rw [if_pos h2, if_neg (by omega), if_pos h2]
      · rw [if_neg h2, if_neg h2]
    split
    · rename_i h1 h2
      show (if p.key = k then some p else ixFind r k) = if p.key = k then some p else if a.key = k then some a else ixFind r k
      by_cases h3 : p.key = k
      · rw [if_pos h3, if_pos h3]
      · rw [if_neg h3, if_neg h3, if_neg (by omega)]
    · rfl
theorem ixPut_len : ∀ {l : List Ps} {p : Ps}, IxS l → (ixPut l p).length = if (ixFind l p.key).isSome then l.length else l.length + 1 := fun {l p} hs => by
  rw [ixFind_at hs]
  cases e : l[ixAt l p.key]? with
  | none =>
    rw [ixPut_insert hs (fun q hq => by rw [e] at hq; cases hq)]
    have := ixAt_le l p.key
    simp [List.length_append, List.length_take, List.length_drop]
    omega
  | some q =>
    by_cases hq : q.key = p.key
    · rw [ixPut_set hs e hq]
      simp [hq]
    · rw [ixPut_insert hs (fun q' hq' => by rw [e] at hq'; cases hq'; exact hq)]
      have := ixAt_le l p.key
      simp [List.length_append, List.length_take, List.length_drop, hq]
      omega
theorem mem_of_ixFind : ∀ {l : List Ps} {k : Nat} {q : Ps}, ixFind l k = some q → q ∈ l ∧ q.key = k
  | [], _, _, h => by cases h
  | a :: r, k, q, h => by
    unfold ixFind at h
    split at h
    · rename_i ha
      cases h
      exact ⟨List.mem_cons_self, ha⟩
    · have := mem_of_ixFind h
      exact ⟨List.mem_cons_of_mem _ this.1, this.2⟩
theorem ixFind_mem : ∀ {l : List Ps} {q : Ps}, IxS l → q ∈ l → ixFind l q.key = some q
  | [], _, _, h => absurd h List.not_mem_nil
  | a :: r, q, hs, h => by
    have hp := List.pairwise_cons.1 hs
    unfold ixFind
    rcases List.mem_cons.1 h with rfl | h
    · rw [if_pos rfl]
    · have := hp.1 q h
      rw [if_neg (by omega)]
      exact ixFind_mem hp.2 h
end Go.Proofs.YtfpjfoajonbndaaGreatDoor
