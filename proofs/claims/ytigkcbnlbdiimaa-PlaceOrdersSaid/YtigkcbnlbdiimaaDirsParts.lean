/- DirsParts: what its counts come to, in plain words. No program. -/
import Derived.Test.YtigkcbnlbdiimaaDirs7
namespace Go.Proofs.Ytigkcbnlbdiimaa
open Go.RowKit
/-- The nodes of a volume are no two alike, and from 0 to 255. -/
def Sound (es : List Ent) : Prop := ∀ (i : Nat) (x : Ent), es[i]? = some x → x.n0 ≠ x.n1 ∧ x.n1 ≠ x.n2 ∧ x.n0 ≠ x.n2 ∧ 0 ≤ x.n0 ∧ x.n0 ≤ 255 ∧ 0 ≤ x.n1 ∧ x.n1 ≤ 255 ∧ 0 ≤ x.n2 ∧ x.n2 ≤ 255
theorem placeB_iff (n : Int) : placeB n = true ↔ 0 ≤ n ∧ n ≤ 255 := by simp [placeB]
theorem sound_turn (x : Ent) (c : Cmd) (h : x.n0 ≠ x.n1 ∧ x.n1 ≠ x.n2 ∧ x.n0 ≠ x.n2 ∧ 0 ≤ x.n0 ∧ x.n0 ≤ 255 ∧ 0 ≤ x.n1 ∧ x.n1 ≤ 255 ∧ 0 ≤ x.n2 ∧ x.n2 ≤ 255) (ht : turnE x c = 0) (hk : c.kind = 2 ∨ c.kind = 3 ∨ c.kind = 4) :
    (turnX x c).n0 ≠ (turnX x c).n1 ∧ (turnX x c).n1 ≠ (turnX x c).n2 ∧ (turnX x c).n0 ≠ (turnX x c).n2 ∧ 0 ≤ (turnX x c).n0 ∧ (turnX x c).n0 ≤ 255 ∧ 0 ≤ (turnX x c).n1 ∧ (turnX x c).n1 ≤ 255 ∧ 0 ≤ (turnX x c).n2 ∧ (turnX x c).n2 ≤ 255 := by
  rcases hk with h2 | h3 | h4
  · simp only [turnX, h2, if_true]; exact h
  · have : ¬ (3 : Int) = 2 := by omega
    simp only [turnX, h3, if_true, this, if_false]; exact h
  · have n2 : ¬ (4 : Int) = 2 := by omega
    have n3 : ¬ (4 : Int) = 3 := by omega
    simp only [turnE, h4, n2, n3, if_true, if_false, errNode] at ht
    split at ht
    · cases ht
    · split at ht
      · cases ht
      · rename_i hs hc
        simp only [turnX, h4, n2, n3, if_true, if_false]
        have hp : 0 ≤ c.node ∧ c.node ≤ 255 := by
          cases hp : placeB c.node
          · exact absurd (.inr (.inr hp)) hs
          · exact (placeB_iff _).1 hp
        have c0 : ¬ x.n0 = c.node := fun h => hc (.inl h)
        have c1 : ¬ x.n1 = c.node := fun h => hc (.inr (.inl h))
        have c2 : ¬ x.n2 = c.node := fun h => hc (.inr (.inr h))
        have hs1 : ¬ c.spot < 0 := fun h => hs (.inl h)
        have hs2 : ¬ 3 ≤ c.spot := fun h => hs (.inr (.inl h))
        have hs0 : c.spot = 0 ∨ c.spot = 1 ∨ c.spot = 2 := by omega
        rcases hs0 with h | h | h
        all_goals
          simp only [h]
          refine ⟨?_, ?_, ?_, ?_, ?_, ?_, ?_, ?_, ?_⟩ <;> simp <;> omega
theorem sound_do (es : List Ent) (c : Cmd) (h : Sound es) : Sound (doEs es c) := by
  rcases do_ways es c with ⟨_, e, _⟩ | ⟨_, _, _, ht, e, _⟩ | ⟨_, j, x, hx, _, _, ht, hk, e, _⟩
  · rw [e]; exact h
  · rw [e]
    intro i y hy
    rw [List.getElem?_append] at hy
    split at hy
    · exact h i y hy
    · have hy' : y = ⟨(es.length : Int) + 1, 1, c.n0, c.n1, c.n2, false⟩ := by
        rcases Nat.lt_or_ge (i - es.length) 1 with h' | h'
        · have : i - es.length = 0 := by omega
          rw [this] at hy
          simpa using hy.symm
        · rw [List.getElem?_eq_none (by simpa using h')] at hy; cases hy
      subst hy'
      simp [threeB, placeB] at ht
      simp only [ne_eq]
      omega
  · rw [e]
    intro i y hy
    rw [List.getElem?_set] at hy
    split at hy
    · split at hy
      · cases hy
        exact sound_turn x c (h j x hx) ht hk
      · cases hy
    · exact h i y hy
theorem sound_all (cs : List Cmd) : ∀ (es : List Ent), Sound es → Sound (doAll es cs) := by
  induction cs with
  | nil => intro es h; exact h
  | cons c cs ih => intro es h; exact ih _ (sound_do es c h)
/-- How many volumes have a node, all nodes below m together. -/
def cntOn (es : List Ent) : Nat → Nat
  | 0 => 0
  | m + 1 => cntOn es m + (onVols (m : Int) es).length
def has1 (n : Int) (m : Nat) : Nat := if 0 ≤ n ∧ n < (m : Int) then 1 else 0
def hit (m : Nat) (x : Ent) : Nat := has1 x.n0 m + has1 x.n1 m + has1 x.n2 m
theorem onB_iff (node : Int) (x : Ent) : onB node x = true ↔ node = x.n0 ∨ node = x.n1 ∨ node = x.n2 := by
  simp [onB]
theorem hit_succ (m : Nat) (x : Ent) (h : x.n0 ≠ x.n1 ∧ x.n1 ≠ x.n2 ∧ x.n0 ≠ x.n2) : hit (m + 1) x = hit m x + if onB (m : Int) x = true then 1 else 0 := by
  have hs : ∀ n : Int, has1 n (m + 1) = has1 n m + if n = (m : Int) then 1 else 0 := by
    intro n
    unfold has1
    split <;> split <;> split <;> omega
  have e : (if onB (m : Int) x = true then 1 else 0) = (if x.n0 = (m : Int) then 1 else 0) + (if x.n1 = (m : Int) then 1 else 0) + (if x.n2 = (m : Int) then 1 else 0) := by
    obtain ⟨h1, h2, h3⟩ := h
    by_cases hb : onB (m : Int) x = true
    · rw [if_pos hb]
      rw [onB_iff] at hb
      split <;> split <;> split <;> omega
    · rw [if_neg hb]
      rw [onB_iff] at hb
      split <;> split <;> split <;> omega
  rw [e]
  simp only [hit, hs]
  omega
theorem cntOn_sum (es : List Ent) (h : Sound es) (m : Nat) : cntOn es m = (es.map (hit m)).sum := by
  induction m with
  | zero =>
    have : ∀ x, hit 0 x = 0 := fun x => by simp only [hit, has1]; repeat (first | omega | split)
    rw [show hit 0 = fun _ => 0 from funext this]
    have hz : ∀ l : List Ent, 0 = (l.map fun _ => 0).sum := fun l => by
      induction l with
      | nil => rfl
      | cons x l ih => simpa using ih
    rw [cntOn]
    exact hz es
  | succ m ih =>
    rw [cntOn, ih]
    clear ih
    induction es with
    | nil => simp [onVols]
    | cons x es ih =>
      have h0 := h 0 x rfl
      have h' : Sound es := fun i y hy => h (i + 1) y hy
      have := ih h'
      rw [List.map_cons, List.sum_cons, List.map_cons, List.sum_cons, hit_succ m x ⟨h0.1, h0.2.1, h0.2.2.1⟩, ← this]
      simp only [onVols, List.filter_cons]
      split <;> simp <;> omega
theorem cntOn_all (es : List Ent) (h : Sound es) : cntOn es 256 = 3 * es.length := by
  rw [cntOn_sum es h]
  induction es with
  | nil => rfl
  | cons x es ih =>
    obtain ⟨_, _, _, a1, a2, b1, b2, c1, c2⟩ := h 0 x rfl
    have h' : Sound es := fun i y hy => h (i + 1) y hy
    rw [List.map_cons, List.sum_cons, ih h', List.length_cons]
    have : hit 256 x = 3 := by
      unfold hit has1
      rw [if_pos (by omega), if_pos (by omega), if_pos (by omega)]
    omega
theorem cntOn_le (es : List Ent) (m : Nat) : cntOn es m ≤ m * es.length := by
  induction m with
  | zero => simp [cntOn]
  | succ m ih =>
    have := onVols_len (m : Int) es
    rw [cntOn, Nat.succ_mul]
    omega
/-- A volume that On tells is there, and has the node. -/
theorem onVols_at (E : Int) (node : Int) (es : List Ent) (hg : Good E es) (j : Nat) (vol : Int) (h : (onVols node es)[j]? = some vol) : ∃ (k : Nat) (x : Ent), vol = (k : Int) + 1 ∧ es[k]? = some x ∧ onB node x = true := by
  have hm := List.mem_of_getElem? h
  simp only [onVols, List.mem_map, List.mem_filter] at hm
  obtain ⟨x, ⟨hx, hb⟩, rfl⟩ := hm
  obtain ⟨k, hk, rfl⟩ := List.mem_iff_getElem.1 hx
  have hk' : es[k]? = some es[k] := List.getElem?_eq_getElem hk
  exact ⟨k, es[k], (hg k _ hk').1, hk', hb⟩
end Go.Proofs.Ytigkcbnlbdiimaa
