/- DirsApart: the walk. -/
import Derived.Test.YtigkcbnlbdiimaaDirs4
namespace Go.Proofs.Ytigkcbnlbdiimaa
open Go.RowKit
theorem do_at (base bm : Nat) (v : Value) (es es' : List Ent) (c : Cmd) (n k : Int) (w : World) (h : MapAt w base bm v es) (h1 : doEs es c = es') (h2 : doN es c = n) (h3 : (doK es c : Int) = k) :
    Calls Try.prog 16 #[.pointer (some ⟨bm, 0, none⟩), .agg #[.int .i64 c.kind, .int .i64 c.vol, .int .i64 c.epoch, .int .i64 c.spot, .int .i64 c.node, .int .i64 c.n0, .int .i64 c.n1, .int .i64 c.n2]] w
      (DoOut w base bm v es' n k) := by
  subst h1 h2 h3
  exact do_any base bm v es c w h
set_option maxRecDepth 100000 in
set_option maxHeartbeats 1000000 in
theorem alive19 (w : World) : Calls Try.prog 14 #[] w fun e w' => e = .returned (.bool true) ∧ Below w.heap.size w w' := by
  go_enter Try.func14, Try.ntmps14
  go_wp2_with fail
  refine (new_any _).mono ?_
  rintro e w1 ⟨rfl, rfl⟩
  go_wp2_with fail
  refine (do_at w.heap.size w.heap.size _ [] [⟨1, 1, 1, 2, 3, false⟩] ⟨1, 0, 0, 0, 0, 1, 2, 3⟩ 1 0 _ (MapAt.made w _ (Nat.le_refl _)) (by simp [doEs, threeB, placeB]) (by simp [doN, threeB, placeB]) (by simp [doK, threeB, placeB])).mono ?_
  rintro e w2 ⟨rfl, v2, hm2, _, hk2⟩
  have HK2 := Lib.hid (Below.trans (B := w.heap.size) (a := w) (by repeat (first | (with_reducible exact Below.refl _ _) | (with_reducible refine Below.setCell ?_ ?_ _) | (with_reducible refine Below.alloc ?_ ?_ _) | (with_reducible refine Below.drewN ?_ _) | (with_reducible refine Below.drew ?_) | (with_reducible exact Nat.le_refl _) | (focus (simp only [World.size_alloc, World.size_setCell, World.size_drew, World.size_drewN]; omega)) | omega | exact Nat.le_refl _ | (focus (simp; done)) | (focus (simp; omega)))) (hk2.below (B := w.heap.size) (by simp) (by
    rintro k (rfl | h)
    · exact Nat.le_refl _
    · cases h)))
  clear hk2
  go_wp2_with fail
  refine (do_at w.heap.size w.heap.size _ [⟨1, 1, 1, 2, 3, false⟩] [⟨1, 1, 1, 2, 3, false⟩] ⟨1, 0, 0, 0, 0, 1, 2, 2⟩ 0 1 _ hm2 (by simp [doEs, threeB, placeB]) (by simp [doN, threeB, placeB]) (by simp [doK, threeB, placeB])).mono ?_
  rintro e w3 ⟨rfl, v3, hm3, _, hk3⟩
  have HK3 := Lib.hid (HK2.out.trans (hk3.below (B := w.heap.size) HK2.out.size (by
    rintro k (rfl | h)
    · exact Nat.le_refl _
    · exact (hm2.row.lt k h).1)))
  clear hk3 hm2 hm3
  go_wp2_with (go_at_call 18; (with_reducible refine (code_any _ (by omega) (by omega) _).mono ?_); rintro e w' ⟨rfl, rfl⟩)
  go_ret
  exact ⟨rfl, HK3.out⟩
end Go.Proofs.Ytigkcbnlbdiimaa
