/- Package disk: Crash. -/
import Derived.Test.YtcicnjlkcbimgaaDisk13
namespace Go.Proofs.Ytcicnjlkcbimgaa
open Go.RowKit Go.Maps
def DPick.row (p : DPick) : List Value := [.int .i64 p.keep, .int .u8 p.turn.toNat]
theorem DPick.row_len (p : DPick) : p.row.length = 2 := rfl
theorem run_prefixT (T e : TypeId) (hT : Try.prog.underlying T = some (.slice e)) (hs : ∀ W, (sizeOf e).run Try.prog W = .ok 1 W) (a : Option Addr) (len c n : Nat) (ha : (a = none ∧ c = 0) ∨ ∃ g, a = some ⟨g, 0, none⟩) (hn : n ≤ c) (W : World) : (Instr.slice T (.slice a len c) none (some (.int .i64 n)) none).run Try.prog W = .ok (.slice a n c) W := by
  have e : (if c = 0 then a else a.map (·.add (0 * 1))) = a := by
    rcases ha with ⟨rfl, _⟩ | ⟨g, rfl⟩
    · simp
    · simp [add_zero_off]
  simp [Instr.slice, run_underlying hT, Instr.sliceBounds, run_sliceBound, hs, Result.andThen, (by omega : (0 : Int) ≤ (n : Int)), (by omega : (n : Int) ≤ (c : Int))]
  simpa using e
theorem sameKey_str (a b : Nm) : (Lit.string a).sameKey (.string b) = (a == b) := rfl
theorem get_of_mem : ∀ {l : Dir} {x : Nm} {j : Nat}, l.Pairwise (fun p q => p.1 ≠ q.1) → (x, j) ∈ l → dirGet l x = some j
  | [], _, _, _, h => absurd h List.not_mem_nil
  | p :: r, x, j, hp, h => by
    obtain ⟨h1, h2⟩ := List.pairwise_cons.1 hp
    unfold dirGet
    rw [List.find?_cons]
    rcases List.mem_cons.1 h with rfl | h
    · simp
    · have : (p.1 == x) = false := beq_eq_false_iff_ne.2 (h1 _ h)
      rw [this]
      exact get_of_mem h2 h
/-- Files of which those whose names have come are settled. -/
def settleS (l : Dir) (p : DPicks) (left : Lit → Bool) (fs : List DFile) : List DFile := fs.mapIdx fun i f => if l.any (fun x => x.2 == i && !left (.string x.1)) then f.settle (p.at i) else f
theorem settleS_len (l : Dir) (p : DPicks) (left : Lit → Bool) (fs : List DFile) : (settleS l p left fs).length = fs.length := by simp [settleS]
theorem settleS_start (l : Dir) (p : DPicks) (g : Nat → Nat) (fs : List DFile) : settleS l p (Maps.has (dirD g l)) fs = fs := by
  unfold settleS
  refine List.ext_getElem? fun i => ?_
  rw [List.getElem?_mapIdx]
  cases h : fs[i]? with
  | none => rfl
  | some f =>
    have e : (l.any fun x => x.2 == i && !Maps.has (dirD g l) (.string x.1)) = false := by
      rw [List.any_eq_false]
      intro x hx
      rw [dirD_has, get_has hx]
      simp
    simp [e]
theorem settleS_end (l : Dir) (p : DPicks) (left : Lit → Bool) (fs : List DFile) (h : ∀ kl, left kl = false) : settleS l p left fs = settleAll l p fs := by
  unfold settleS settleAll
  have e : ∀ i : Nat, (l.any fun x => x.2 == i && !left (.string x.1)) = l.any fun x => x.2 == i := fun i => by
    congr 1
    funext x
    rw [h]
    simp
  simp only [e]
theorem settleS_get (l : Dir) (p : DPicks) (left : Lit → Bool) (fs : List DFile) (i : Nat) (f : DFile) (h : fs[i]? = some f) : ∃ g, (settleS l p left fs)[i]? = some g ∧ (g = f ∨ g = f.settle (p.at i)) := by
  unfold settleS
  rw [List.getElem?_mapIdx, h]
  simp only [Option.map_some, Option.some.injEq, exists_eq_left']
  split
  · exact .inr rfl
  · exact .inl rfl
theorem settleS_step (l : Dir) (p : DPicks) (left : Lit → Bool) (fs : List DFile) (x : Nm) (i : Nat) (f : DFile) (hd : l.Pairwise (fun p q => p.1 ≠ q.1)) (hx : dirGet l x = some i) (hf : (settleS l p left fs)[i]? = some f) :
    settleS l p (fun z => left z && !z.sameKey (.string x)) fs = (settleS l p left fs).set i (f.settle (p.at i)) := by
  have hm := get_mem hx
  refine List.ext_getElem? fun j => ?_
  by_cases hj : j = i
  · subst hj
    have hl : j < (settleS l p left fs).length := (List.getElem?_eq_some_iff.1 hf).1
    rw [List.getElem?_set_self hl]
    rw [settleS_len] at hl
    have h0 := List.getElem?_eq_getElem hl
    unfold settleS at hf ⊢
    rw [List.getElem?_mapIdx, h0] at hf ⊢
    simp only [Option.map_some, Option.some.injEq] at hf ⊢
    have ha : (l.any fun y => y.2 == j && !(left (.string y.1) && !(Lit.string y.1).sameKey (.string x))) = true := by
      rw [List.any_eq_true]
      exact ⟨(x, j), hm, by dsimp only; rw [sameKey_str]; simp⟩
    rw [ha, if_pos rfl]
    subst hf
    split
    · rw [settle_twice]
    · rfl
  · rw [List.getElem?_set_ne (Ne.symm hj)]
    unfold settleS
    rw [List.getElem?_mapIdx, List.getElem?_mapIdx]
    cases h : fs[j]? with
    | none => rfl
    | some y =>
      simp only [Option.map_some, Option.some.injEq]
      have hap : (l.any fun y => y.2 == j && !(left (.string y.1) && !(Lit.string y.1).sameKey (.string x))) = l.any fun y => y.2 == j && !left (.string y.1) := by
        rw [Bool.eq_iff_iff, List.any_eq_true, List.any_eq_true]
        have hk : ∀ y ∈ l, (y.2 == j && !(left (.string y.1) && !(Lit.string y.1).sameKey (.string x))) = (y.2 == j && !left (.string y.1)) := fun y hy => by
          by_cases e : y.2 = j
          · have hne : y.1 ≠ x := fun e2 => hj (by
              have := get_of_mem hd (show (y.1, y.2) ∈ l from hy)
              rw [e2, hx] at this
              simp at this
              omega)
            have : (Lit.string y.1).sameKey (.string x) = false := beq_eq_false_iff_ne.2 hne
            rw [this]
            simp
          · have : (y.2 == j) = false := beq_eq_false_iff_ne.2 e
            rw [this]
            rfl
        constructor
        · rintro ⟨y, hy, h1⟩
          exact ⟨y, hy, by rw [← hk y hy]; exact h1⟩
        · rintro ⟨y, hy, h1⟩
          exact ⟨y, hy, by rw [hk y hy]; exact h1⟩
      rw [hap]
end Go.Proofs.Ytcicnjlkcbimgaa
