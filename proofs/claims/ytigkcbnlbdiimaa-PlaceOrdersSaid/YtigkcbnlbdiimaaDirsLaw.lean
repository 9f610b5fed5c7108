/- What a command does to the entries, in plain words. No program. -/
import Derived.Test.YtigkcbnlbdiimaaDirs3
namespace Go.Proofs.Ytigkcbnlbdiimaa
open Go.RowKit
/-- Volumes are numbered by their places, epochs are from 1 to E. -/
def Good (E : Int) (es : List Ent) : Prop := ∀ (i : Nat) (x : Ent), es[i]? = some x → x.vol = (i : Int) + 1 ∧ 1 ≤ x.epoch ∧ x.epoch ≤ E
theorem Good.mono {E E' : Int} {es : List Ent} (h : Good E es) (he : E ≤ E') : Good E' es := fun i x hx => by
  obtain ⟨a, b, c⟩ := h i x hx
  exact ⟨a, b, by omega⟩
theorem turnX_vol (x : Ent) (c : Cmd) : (turnX x c).vol = x.vol := by unfold turnX; repeat (first | rfl | split)
theorem turnX_epoch (x : Ent) (c : Cmd) : (turnX x c).epoch = wrapI (x.epoch + 1) := by unfold turnX; repeat (first | rfl | split)
/-- The three ways of a command. -/
theorem do_ways (es : List Ent) (c : Cmd) :
    (doK es c ≠ 0 ∧ doEs es c = es ∧ doN es c = 0) ∨ (doK es c = 0 ∧ c.kind = 1 ∧ es.length < 4096 ∧ threeB c.n0 c.n1 c.n2 = true ∧ doEs es c = es ++ [⟨(es.length : Int) + 1, 1, c.n0, c.n1, c.n2, false⟩] ∧ doN es c = (es.length : Int) + 1) ∨
    (doK es c = 0 ∧ ∃ (j : Nat) (x : Ent), es[j]? = some x ∧ c.vol = (j : Int) + 1 ∧ x.epoch = c.epoch ∧ turnE x c = 0 ∧ (c.kind = 2 ∨ c.kind = 3 ∨ c.kind = 4) ∧ doEs es c = es.set j (turnX x c) ∧ doN es c = (turnX x c).epoch) := by
  by_cases h1 : c.kind = 1
  · cases h2 : threeB c.n0 c.n1 c.n2
    · exact .inl ⟨by simp [doK, h1, h2], by simp [doEs, h1, h2], by simp [doN, h1, h2]⟩
    · by_cases h3 : es.length < 4096
      · exact .inr (.inl ⟨by simp [doK, h1, h2, h3], h1, h3, rfl, by simp [doEs, h1, h2, h3], by simp [doN, h1, h2, h3]⟩)
      · exact .inl ⟨by simp [doK, h1, h2, h3], by simp [doEs, h1, h2, h3], by simp [doN, h1, h2, h3]⟩
  · by_cases hk : c.kind = 2 ∨ c.kind = 3 ∨ c.kind = 4
    · by_cases hv : 1 ≤ c.vol ∧ c.vol ≤ es.length
      · obtain ⟨j, hj⟩ : ∃ j : Nat, c.vol = (j : Int) + 1 := ⟨(c.vol - 1).toNat, by omega⟩
        have hjl : j < es.length := by omega
        have hx : es[j]? = some es[j] := List.getElem?_eq_getElem hjl
        have hvj : (c.vol - 1).toNat = j := by omega
        generalize es[j] = x at hx
        have e1 : doEs es c = if x.epoch = c.epoch ∧ turnE x c = 0 then es.set j (turnX x c) else es := by rw [doEs, if_neg h1, if_pos hk, if_pos hv, hvj, hx]
        have e2 : doN es c = if x.epoch = c.epoch ∧ turnE x c = 0 then (turnX x c).epoch else 0 := by rw [doN, if_neg h1, if_pos hk, if_pos hv, hvj, hx]
        have e3 : doK es c = if x.epoch = c.epoch then turnE x c else 13 := by rw [doK, if_neg h1, if_pos hk, if_pos hv, hvj, hx]
        by_cases he : x.epoch = c.epoch
        · by_cases ht : turnE x c = 0
          · exact .inr (.inr ⟨by rw [e3, if_pos he, ht], j, x, hx, hj, he, ht, hk, by rw [e1, if_pos ⟨he, ht⟩], by rw [e2, if_pos ⟨he, ht⟩]⟩)
          · exact .inl ⟨by rw [e3, if_pos he]; exact ht, by rw [e1, if_neg (fun h => ht h.2)], by rw [e2, if_neg (fun h => ht h.2)]⟩
        · exact .inl ⟨by rw [e3, if_neg he]; simp, by rw [e1, if_neg (fun h => he h.1)], by rw [e2, if_neg (fun h => he h.1)]⟩
      · exact .inl ⟨by rw [doK, if_neg h1, if_pos hk, if_neg hv]; simp, by rw [doEs, if_neg h1, if_pos hk, if_neg hv], by rw [doN, if_neg h1, if_pos hk, if_neg hv]⟩
    · exact .inl ⟨by rw [doK, if_neg h1, if_neg hk]; simp, by rw [doEs, if_neg h1, if_neg hk], by rw [doN, if_neg h1, if_neg hk]⟩
theorem turnE_le (x : Ent) (c : Cmd) : turnE x c ≤ 17 := by
  unfold turnE errNode
  repeat (first | omega | split)
theorem doK_le (es : List Ent) (c : Cmd) : doK es c ≤ 17 := by
  unfold doK
  repeat (first | omega | exact turnE_le _ _ | split)
theorem good_do (E : Int) (es : List Ent) (c : Cmd) (h : Good E es) (h1 : 1 ≤ E) (hE : E ≤ 1000000) : Good (E + 1) (doEs es c) := by
  rcases do_ways es c with ⟨_, e, _⟩ | ⟨_, _, _, _, e, _⟩ | ⟨_, j, x, hx, _, _, _, _, e, _⟩
  · rw [e]; exact h.mono (by omega)
  · rw [e]
    intro i y hy
    rw [List.getElem?_append] at hy
    split at hy
    · obtain ⟨a, b, d⟩ := h i y hy
      exact ⟨a, b, by omega⟩
    · rename_i hi
      have hi2 : i = es.length := by
        rcases Nat.lt_or_ge (i - es.length) 1 with h | h
        · omega
        · rw [List.getElem?_eq_none (by simpa using h)] at hy; cases hy
      subst hi2
      simp at hy
      subst hy
      exact ⟨rfl, by simp, by simp; omega⟩
  · rw [e]
    intro i y hy
    rw [List.getElem?_set] at hy
    split at hy
    · rename_i hji
      subst hji
      split at hy
      · cases hy
        obtain ⟨a, b, d⟩ := h j x hx
        rw [turnX_vol, turnX_epoch, wrapI_id _ (by omega) (by omega)]
        exact ⟨a, by omega, by omega⟩
      · cases hy
    · obtain ⟨a, b, d⟩ := h i y hy
      exact ⟨a, b, by omega⟩
theorem doEs_len (es : List Ent) (c : Cmd) : es.length ≤ (doEs es c).length ∧ (doEs es c).length ≤ es.length + 1 := by
  rcases do_ways es c with ⟨_, e, _⟩ | ⟨_, _, _, _, e, _⟩ | ⟨_, j, x, hx, _, _, _, _, e, _⟩ <;> rw [e] <;> simp
/-- How many of the first k entries differ (by their epochs). -/
def cnt (es es2 : List Ent) : Nat → Nat
  | 0 => 0
  | k + 1 => cnt es es2 k + (match es[k]?, es2[k]? with | some x, some y => if x.epoch = y.epoch then 0 else 1 | _, _ => 0)
/-- An entry behind a command is what it was, or its command's own, one epoch on. -/
theorem ent_ways (E : Int) (es : List Ent) (c : Cmd) (hg : Good E es) (hE : E ≤ 1000000) (k : Nat) (x : Ent) (hx : es[k]? = some x) : ∃ y, (doEs es c)[k]? = some y ∧
    (y = x ∨ (c.vol = (k : Int) + 1 ∧ y.vol = x.vol ∧ y.epoch = x.epoch + 1)) := by
  have hk : k < es.length := (List.getElem?_eq_some_iff.1 hx).1
  rcases do_ways es c with ⟨_, e, _⟩ | ⟨_, _, _, _, e, _⟩ | ⟨_, j, x', hx', hv, _, _, _, e, _⟩
  · exact ⟨x, by rw [e]; exact hx, .inl rfl⟩
  · exact ⟨x, by rw [e, List.getElem?_append_left hk]; exact hx, .inl rfl⟩
  · by_cases hjk : j = k
    · subst hjk
      rw [hx] at hx'
      cases hx'
      obtain ⟨_, _, h3⟩ := hg j x hx
      refine ⟨turnX x c, by rw [e, List.getElem?_set_self hk], .inr ⟨hv, turnX_vol _ _, ?_⟩⟩
      rw [turnX_epoch, wrapI_id _ (by omega) (by omega)]
    · exact ⟨x, by rw [e, List.getElem?_set_ne hjk]; exact hx, .inl rfl⟩
/-- What the count comes to. -/
theorem cnt_same (es es2 : List Ent) (h : ∀ (k : Nat) (x y : Ent), es[k]? = some x → es2[k]? = some y → y = x) (k : Nat) : cnt es es2 k = 0 := by
  induction k with
  | zero => rfl
  | succ k ih =>
    simp only [cnt, ih]
    cases hx : es[k]? with
    | none => rfl
    | some x =>
      cases hy : es2[k]? with
      | none => rfl
      | some y => simp [h k x y hx hy]
theorem cnt_set (es : List Ent) (j : Nat) (x y : Ent) (hx : es[j]? = some x) (he : x.epoch ≠ y.epoch) (k : Nat) : cnt es (es.set j y) k = if j < k then 1 else 0 := by
  induction k with
  | zero => rfl
  | succ k ih =>
    simp only [cnt, ih]
    by_cases hjk : j = k
    · subst hjk
      rw [hx, List.getElem?_set_self (List.getElem?_eq_some_iff.1 hx).1]
      simp [he]
    · rw [List.getElem?_set_ne hjk]
      have : (match es[k]?, es[k]? with | some x, some y => if x.epoch = y.epoch then 0 else 1 | _, _ => 0) = 0 := by
        cases es[k]? <;> simp
      rw [this]
      by_cases h1 : j < k
      · rw [if_pos h1, if_pos (by omega)]
      · rw [if_neg h1, if_neg (by omega)]
/-- What the law's last test asks. -/
theorem cnt_law (E : Int) (es : List Ent) (c : Cmd) (hg : Good E es) (hE : E ≤ 1000000) :
    (doK es c ≠ 0 ∧ cnt es (doEs es c) es.length = 0 ∧ (doEs es c).length = es.length) ∨
    (doK es c = 0 ∧ cnt es (doEs es c) es.length = 0 ∧ (doEs es c).length = es.length + 1) ∨
    (doK es c = 0 ∧ cnt es (doEs es c) es.length = 1 ∧ (doEs es c).length = es.length) := by
  rcases do_ways es c with ⟨h0, e, _⟩ | ⟨h0, _, _, _, e, _⟩ | ⟨h0, j, x, hx, hv, _, _, _, e, _⟩
  · refine .inl ⟨h0, ?_, by rw [e]⟩
    rw [e]
    exact cnt_same _ _ (fun k x y hx hy => by rw [hx] at hy; cases hy; rfl) _
  · refine .inr (.inl ⟨h0, ?_, by rw [e]; simp⟩)
    rw [e]
    refine cnt_same _ _ (fun k x y hx hy => ?_) _
    rw [List.getElem?_append_left (List.getElem?_eq_some_iff.1 hx).1, hx] at hy
    cases hy; rfl
  · refine .inr (.inr ⟨h0, ?_, by rw [e]; simp⟩)
    obtain ⟨_, _, h3⟩ := hg j x hx
    rw [e, cnt_set es j x _ hx (by rw [turnX_epoch, wrapI_id _ (by omega) (by omega)]; omega), if_pos (List.getElem?_eq_some_iff.1 hx).1]
theorem cnt_le (es es2 : List Ent) (k : Nat) : cnt es es2 k ≤ k := by
  induction k with
  | zero => exact Nat.le_refl _
  | succ k ih =>
    simp only [cnt]
    split
    · split <;> omega
    · omega
end Go.Proofs.Ytigkcbnlbdiimaa
