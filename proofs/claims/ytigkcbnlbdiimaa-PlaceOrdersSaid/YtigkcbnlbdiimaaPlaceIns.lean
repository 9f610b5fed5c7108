/- The document's order (by insertion) is the sorted one. No program. -/
import Derived.Test.YtigkcbnlbdiimaaPlaceOrd
namespace Go.Proofs.Ytigkcbnlbdiimaa
open Go.RowKit
def goOn (f : Int → Int) (x y : Int) : Bool := !ltP f x y
def insL (f : Int → Int) (out : List Int) (x : Int) : List Int := out.takeWhile (goOn f x) ++ x :: out.dropWhile (goOn f x)
def refOrd (f : Int → Int) (ns : List Int) : List Int := ns.foldl (insL f) []
theorem refOrd_snoc (f : Int → Int) (ns : List Int) (x : Int) : refOrd f (ns ++ [x]) = insL f (refOrd f ns) x := by simp [refOrd]
theorem insL_perm (f : Int → Int) (out : List Int) (x : Int) : (insL f out x).Perm (x :: out) := by
  unfold insL
  refine List.perm_middle.trans ?_
  rw [List.takeWhile_append_dropWhile]
theorem refOrd_perm (f : Int → Int) : ∀ (ns acc : List Int), (ns.foldl (insL f) acc).Perm (acc ++ ns)
  | [], acc => by simp
  | x :: ns, acc => by
    refine (refOrd_perm f ns (insL f acc x)).trans ?_
    refine ((insL_perm f acc x).append_right ns).trans ?_
    exact List.perm_middle.symm
def leP (f : Int → Int) (x y : Int) : Prop := ltP f y x = false
theorem leP_trans {f : Int → Int} {x y z : Int} (h1 : leP f x y) (h2 : leP f y z) : leP f x z := by
  unfold leP ltP at *
  simp at *
  omega
theorem leP_anti {f : Int → Int} {x y : Int} (h1 : leP f x y) (h2 : leP f y x) : x = y := by
  unfold leP ltP at *
  simp at *
  omega
theorem leP_of_lt {f : Int → Int} {x y : Int} (h : ltP f x y = true) : leP f x y := by
  unfold leP ltP at *
  simp at *
  omega
theorem sorted_dropWhile (f : Int → Int) (x : Int) : ∀ (l : List Int), l.Pairwise (leP f) → ∀ y ∈ l.dropWhile (goOn f x), leP f x y
  | [], _, y, hy => by simp at hy
  | a :: l, h, y, hy => by
    rw [List.dropWhile_cons] at hy
    split at hy
    · exact sorted_dropWhile f x l (List.pairwise_cons.1 h).2 y hy
    · rename_i hg
      have hxa : leP f x a := leP_of_lt (by simpa [goOn] using hg)
      rcases List.mem_cons.1 hy with rfl | hy
      · exact hxa
      · exact leP_trans hxa ((List.pairwise_cons.1 h).1 y hy)
theorem mem_takeWhile_go {f : Int → Int} {x y : Int} {l : List Int} (h : y ∈ l.takeWhile (goOn f x)) : leP f y x := by
  have := List.all_takeWhile (p := goOn f x) (l := l)
  rw [List.all_eq_true] at this
  simpa [goOn, leP] using this y h
theorem insL_sorted (f : Int → Int) (out : List Int) (x : Int) (h : out.Pairwise (leP f)) : (insL f out x).Pairwise (leP f) := by
  unfold insL
  rw [← List.takeWhile_append_dropWhile (p := goOn f x) (l := out)] at h
  have hs := List.pairwise_append.1 h
  refine List.pairwise_append.2 ⟨hs.1, List.pairwise_cons.2 ⟨?_, hs.2.1⟩, ?_⟩
  · rw [List.takeWhile_append_dropWhile] at h
    exact sorted_dropWhile f x out h
  · intro a ha b hb
    rcases List.mem_cons.1 hb with rfl | hb
    · exact mem_takeWhile_go ha
    · exact hs.2.2 a ha b hb
theorem refOrd_sorted (f : Int → Int) : ∀ (ns acc : List Int), acc.Pairwise (leP f) → (ns.foldl (insL f) acc).Pairwise (leP f)
  | [], _, h => h
  | x :: ns, acc, h => refOrd_sorted f ns _ (insL_sorted f acc x h)
theorem sorted_eq {f : Int → Int} : ∀ (l m : List Int), l.Pairwise (leP f) → m.Pairwise (leP f) → l.Perm m → l = m
  | [], m, _, _, hp => by simpa using hp.symm.eq_nil
  | a :: l, [], _, _, hp => by simpa using hp.eq_nil
  | a :: l, b :: m, hl, hm, hp => by
    have hab : a = b := by
      have h1 : a ∈ b :: m := hp.mem_iff.1 List.mem_cons_self
      have h2 : b ∈ a :: l := hp.mem_iff.2 List.mem_cons_self
      rcases List.mem_cons.1 h1 with h1 | h1
      · exact h1
      · rcases List.mem_cons.1 h2 with h2 | h2
        · exact h2.symm
        · exact leP_anti ((List.pairwise_cons.1 hl).1 b h2) ((List.pairwise_cons.1 hm).1 a h1)
    subst hab
    rw [sorted_eq l m (List.pairwise_cons.1 hl).2 (List.pairwise_cons.1 hm).2 hp.cons_inv]
theorem sortI_sorted (f : Int → Int) (ns : List Int) : (sortI f ns).Pairwise (leP f) := by
  have h := List.pairwise_mergeSort (le := fun x y => !ltP f y x) (fun a b c h1 h2 => by simp [ltP] at *; omega) (fun a b => by simp [ltP]; omega) ns
  exact h.imp (fun {a b} h => by simpa [leP] using h)
theorem refOrd_eq (f : Int → Int) (ns : List Int) : refOrd f ns = sortI f ns := by
  refine sorted_eq _ _ (refOrd_sorted f ns [] List.Pairwise.nil) (sortI_sorted f ns) ?_
  have h1 : (refOrd f ns).Perm ns := by
    have h := refOrd_perm f ns []
    rw [List.nil_append] at h
    exact h
  have h2 : (sortI f ns).Perm ns := List.mergeSort_perm _ _
  exact h1.trans h2.symm
end Go.Proofs.Ytigkcbnlbdiimaa
