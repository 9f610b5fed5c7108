/- corncriblaw27.alive. -/
import Derived.Test.YtigkcbnlbdiimaaPlace7
import Derived.Test.YtigkcbnlbdiimaaPlace6
import Derived.Test.YtigkcbnlbdiimaaEq3
namespace Go.Proofs.Ytigkcbnlbdiimaa
open Go.RowKit
theorem reads_lit (w : World) (us : List Value) (T n c B : Nat) (hn : us.length = n) (h : n ≤ maxLen) (hB : w.heap.size = B) : Reads (w.alloc (.cells us.toArray T)) 1 (.slice (some ⟨B, 0, none⟩) n c) n us := by
  subst hB
  exact ⟨by simp [hn], .inr ⟨_, _, rfl, h, World.news_of_block (heap_alloc_new w _)⟩⟩
theorem MapAt.made_at (w : World) (base B : Nat) (hB : w.heap.size = B) (hb : base ≤ B) : MapAt (w.alloc (.cells #[.slice none 0 0] 105)) base B (.slice none 0 0) [] := by
  subst hB
  exact MapAt.made w base hb
@[go_sem] theorem eq3_top (a b c x y z : Int) (w : World) :
    (Op.equalIn 10000 30 (.agg #[.int .i64 a, .int .i64 b, .int .i64 c]) (.agg #[.int .i64 x, .int .i64 y, .int .i64 z])).run Try.prog w = .ok (a == x && (b == y && c == z)) w := eq3 9998 a b c x y z w
theorem nodes_nil : NodesOk [] := fun x hx => by simp at hx
theorem sort_alive : sortI (fun k => (loadN [] k : Int)) [5, 3, 9, 4] = [3, 4, 5, 9] := by rw [← refOrd_eq]; decide
set_option maxRecDepth 100000 in
set_option maxHeartbeats 1000000 in
theorem alive27 (w : World) : Calls Try.prog 41 #[] w fun e w' => e = .returned (.bool true) ∧ Below w.heap.size w w' := by
  go_enter Try.func41, Try.ntmps41
  go_wp2_with fail
  refine (new_any _).mono ?_
  rintro e w1 ⟨rfl, rfl⟩
  go_wp2_with fail
  refine (pick_any w.heap.size w.heap.size (.slice none 0 0) _ [] [5, 3, 9, 4] _ ((MapAt.made w _ (Nat.le_refl _)).below (by repeat (first | (with_reducible exact Below.refl _ _) | (with_reducible refine Below.setCell ?_ ?_ _) | (with_reducible refine Below.alloc ?_ ?_ _) | (with_reducible refine Below.drewN ?_ _) | (with_reducible refine Below.drew ?_) | (with_reducible exact Nat.le_refl _) | (focus (simp only [World.size_alloc, World.size_setCell, World.size_drew, World.size_drewN]; omega)) | omega | exact Nat.le_refl _ | (focus (simp; done)) | (focus (simp; omega))))) nodes_nil (reads_lit _ [.int .i64 5, .int .i64 3, .int .i64 9, .int .i64 4] _ 4 4 _ rfl (by unfold maxLen; omega) (by simp)) (fun a n c h => by simp only [Value.slice.injEq] at h; omega) rfl).mono ?_
  rintro e w2 ⟨a, b, c, rfl, habc, hb2⟩
  have hn : ¬ ([5, 3, 9, 4] : List Int).length < 3 := by decide
  rw [if_neg hn] at habc ⊢
  rw [sort_alive] at habc
  simp only [List.take, List.cons.injEq, and_true] at habc
  obtain ⟨rfl, rfl, rfl⟩ := habc
  have HB2 := Lib.hid (show Below w.heap.size w w2 from Below.trans (by repeat (first | (with_reducible exact Below.refl _ _) | (with_reducible refine Below.setCell ?_ ?_ _) | (with_reducible refine Below.alloc ?_ ?_ _) | (with_reducible refine Below.drewN ?_ _) | (with_reducible refine Below.drew ?_) | (with_reducible exact Nat.le_refl _) | (focus (simp only [World.size_alloc, World.size_setCell, World.size_drew, World.size_drewN]; omega)) | omega | exact Nat.le_refl _ | (focus (simp; done)) | (focus (simp; omega)))) (hb2.mono (by simp; omega)))
  have hz2 := HB2.out.size
  clear hb2 hn
  rw [errV_zero]
  go_wp2_with fail
  refine (new_any _).mono ?_
  rintro e w3 ⟨rfl, rfl⟩
  go_wp2_with fail
  refine (pick_any w2.heap.size (w2.heap.size + 1) (.slice none 0 0) _ [] [5, 3] _ ((MapAt.made_at (w2.alloc (.cells #[.int .i64 3, .int .i64 4, .int .i64 5] 30)) _ _ (by exact World.size_alloc _ _) (by omega)).below (by exact Below.alloc (Below.refl _ _) (Nat.le_refl _) _)) nodes_nil (reads_lit _ [.int .i64 5, .int .i64 3] _ 2 2 _ rfl (by unfold maxLen; omega) (by simp)) (fun a n c h => by simp only [Value.slice.injEq] at h; omega) rfl).mono ?_
  rintro e w3 ⟨a, b, c, rfl, habc, hb3⟩
  have hn : ([5, 3] : List Int).length < 3 := by decide
  rw [if_pos hn] at habc ⊢
  obtain ⟨rfl, rfl, rfl⟩ := habc
  have hz23 := hb3.size
  simp only [World.size_alloc] at hz23
  have hbk := hb3.block w2.heap.size (by simp only [World.size_alloc]; omega)
  have hb2' : ((w2.alloc (.cells #[.int .i64 3, .int .i64 4, .int .i64 5] 30)).alloc (.cells #[.slice none 0 0] 105)).alloc (.cells #[.int .i64 5, .int .i64 3] 3) = ((w2.alloc (.cells #[.int .i64 3, .int .i64 4, .int .i64 5] 30)).alloc (.cells #[.slice none 0 0] 105)).alloc (.cells #[.int .i64 5, .int .i64 3] 3) := rfl
  rw [Below.heap_alloc _ _ _ (by simp only [World.size_alloc]; omega), Below.heap_alloc _ _ _ (by simp only [World.size_alloc]; omega), heap_alloc_new] at hbk
  have z0 := cell_of_row w3 w2.heap.size 0 _ _ _ hbk
  have z1 := cell_of_row w3 w2.heap.size 1 _ _ _ hbk
  have z2 := cell_of_row w3 w2.heap.size 2 _ _ _ hbk
  simp at z0 z1 z2
  have HB3 := Lib.hid (show Below w.heap.size w w3 from HB2.out.trans (Below.trans (b := ((w2.alloc (.cells #[.int .i64 3, .int .i64 4, .int .i64 5] 30)).alloc (.cells #[.slice none 0 0] 105)).alloc (.cells #[.int .i64 5, .int .i64 3] 3)) (by repeat (first | (with_reducible exact Below.refl _ _) | (with_reducible refine Below.setCell ?_ ?_ _) | (with_reducible refine Below.alloc ?_ ?_ _) | (with_reducible refine Below.drewN ?_ _) | (with_reducible refine Below.drew ?_) | (with_reducible exact Nat.le_refl _) | (focus (simp only [World.size_alloc, World.size_setCell, World.size_drew, World.size_drewN]; omega)) | omega | exact Nat.le_refl _ | (focus (simp; done)) | (focus (simp; omega)))) (hb3.mono (by simp; omega))))
  have hz3 := HB3.out.size
  have hz24 : w2.heap.size < w3.heap.size := by omega
  clear hb3 hbk hn hb2' hz23
  have HN := Lib.hid (errV_ne (k := 11) (by omega))
  go_wp2_with fail
  refine (code_any 0 (by omega) (by omega) _).mono ?_
  rintro e w4 ⟨rfl, rfl⟩
  go_wp2_with fail
  refine (code_any 11 (by omega) (by omega) _).mono ?_
  rintro e w4 ⟨rfl, rfl⟩
  go_wp2_with fail
  go_ret
  exact ⟨rfl, HB3.out.alloc hz3 _⟩
end Go.Proofs.Ytigkcbnlbdiimaa
