/- Law 26: the chapter's example. -/
import Derived.Test.YtnhangmcnciffaaGreatDoorSpStatMade
import Derived.Test.YtnhangmcnciffaaGreatDoorSp21
namespace Go.Proofs.YtnhangmcnciffaaGreatDoor
set_option maxRecDepth 100000
set_option maxHeartbeats 8000000
open Go.RowKit
theorem alive26 (w : World) : Calls Tryz.prog 9 #[] w fun e w' => e = .returned (.bool true) ∧ Below w.heap.size w w' := by
  have HM := Lib.hid (made26_any 3 (.inr (.inr rfl)) none 0 0 [] w rfl (reads_none _ _) (fun x hx => absurd hx List.not_mem_nil) (by omega) (fun x hx => absurd hx List.not_mem_nil))
  go_enter Tryz.func9, Tryz.ntmps9
  go_wp2_with fail
  refine (show Calls Tryz.prog 11 #[.int .i64 3, .slice none 0 0] w (MadeD w 3 []) from HM.out).mono ?_
  rintro e w1 ⟨vp, dp, F, val, d, v, ns, rfl, hvf, -, hvi, hrv, hac, -, -, hb⟩
  obtain ⟨c0, c1, c2, c3, c4, c5a, c5n, c5c, c6a, c6n, c6c, rfl⟩ := RvIn.agg hrv
  have hnum : v.num = 3 := congrArg Rv.num hac
  have hsz : v.size = 16 := congrArg Rv.size hac
  have hidx : v.idx = [] := congrArg Rv.l hac
  have HOV := Lib.hid (show oneV v = .agg #[.int .i64 3, .int .i64 16, .int .i64 16, .int .i64 0, .int .i64 0] by
    unfold oneV
    rw [hnum, hsz, hidx]
    rfl)
  have HB1 := Lib.hid hb
  have HOF := Lib.hid (fun (w0 : World) (h0 : Below w1.heap.size w1 w0) => show Calls Tryz.prog 12 #[(.pointer (some ⟨vp, 0, none⟩))] w0 fun e w' => e = .returned (.tuple #[.agg #[.int .i64 3, .int .i64 16, .int .i64 16, .int .i64 0, .int .i64 0], .nilIface]) ∧ Below w0.heap.size w0 w' by
    obtain ⟨ix, vx, P, g1, g2, g4⟩ := (hvf.keeps (R := fun k => w1.heap.size ≤ k) (Keeps.of_below h0 fun k _ hk => by omega) (fun k hf e => by have := hvf.lt k hf; omega)).at'
    rw [← HOV.out]
    exact stof_any g1 (fun p hp => by rw [hidx] at hp; exact absurd hp List.not_mem_nil) (by omega) (by rw [hidx]; decide))
  clear hvf hvi hrv hac hb hnum hsz hidx
  go_upto_region 2 with fail
  obtain ⟨w2, hw2⟩ : ∃ w2 : World, w2 = w1.alloc (.cells #[.int .i64 c0, .int .i64 c1, .int .i64 c2, .int .i64 c3, .bool c4, .slice c5a c5n c5c, .slice c6a c6n c6c] 30) := ⟨_, rfl⟩
  have HB12 := Lib.hid (show Below w1.heap.size w1 w2 by rw [hw2]; exact (by repeat (first | (with_reducible first | exact .refl _ _ | refine .setCell ?_ ?_ _ | refine .alloc ?_ ?_ _ | refine .drewN ?_ _ | refine .drew ?_ | exact Nat.le_refl _) | (focus (simp only [World.size_alloc, World.size_setCell, World.size_drew, World.size_drewN]; omega)) | omega | exact Nat.le_refl _ | (focus (simp; done)) | (focus (simp; omega)))))
  have HB2 := Lib.hid (HB1.out.trans (HB12.out.mono HB1.out.size))
  rw [← hw2]
  clear hw2
  go_wp2_with fail
  refine (HOF.out w2 HB12.out).mono ?_
  rintro e w3 ⟨rfl, hb⟩
  have HB3 := Lib.hid (HB2.out.trans (hb.mono HB2.out.size))
  clear hb
  go_upto_region 3 with fail
  obtain ⟨w4, hw4⟩ : ∃ w4 : World, w4 = w3.alloc (.cells #[.int .i64 3, .int .i64 16, .int .i64 16, .int .i64 0, .int .i64 0] 34) := ⟨_, rfl⟩
  have HB4 := Lib.hid (show Below w.heap.size w w4 by rw [hw4]; exact HB3.out.alloc HB3.out.size _)
  have KX4 := Lib.hid (show w4.heap[w3.heap.size]? = some (.cells #[.int .i64 3, .int .i64 16, .int .i64 16, .int .i64 0, .int .i64 0] 34 (0, 0)) by rw [hw4]; exact heap_new w3 _)
  rw [← hw4]
  clear hw4
  go_wp2_with fail
  refine (stof_nil w4).mono ?_
  rintro e w5 ⟨rfl, hb⟩
  rw [errV_ne (show (15 : Int) ≠ 0 by decide)]
  have KX5 := Lib.hid (blk_below' KX4.out hb)
  have HB5 := Lib.hid (HB4.out.trans (hb.mono HB4.out.size))
  clear hb
  obtain ⟨x0, x1, x2, x3, x4⟩ := cells5t KX5.out
  have hlx := blk_lt KX5.out
  go_wp2_with fail
  refine (code0 _).mono ?_
  rintro e wx ⟨rfl, rfl⟩
  go_wp2_with fail
  refine (show Calls Tryz.prog 16 #[.iface 115 (.int .i64 15)] _ _ from code_some 15 (by decide) (by decide) _).mono ?_
  rintro e wx ⟨rfl, rfl⟩
  go_wp2_with fail
  go_ret
  exact ⟨rfl, HB5.out.alloc HB5.out.size _⟩
end Go.Proofs.YtnhangmcnciffaaGreatDoor
