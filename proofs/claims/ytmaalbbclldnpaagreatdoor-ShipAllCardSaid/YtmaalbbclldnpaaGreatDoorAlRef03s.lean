/- Reference 03: Same. -/
import Derived.Test.YtmaalbbclldnpaaGreatDoorAl20
import Derived.Test.YtmaalbbclldnpaaGreatDoorAlSame
namespace Go.Proofs.YtmaalbbclldnpaaGreatDoor
set_option maxRecDepth 100000
set_option maxHeartbeats 8000000
open Go.RowKit
theorem rsame03_any (k1 c1 : Nat) (g1 : Bool) (d1 : List UInt8) (a1 : Option Addr) (p1 k2 c2 : Nat) (g2 : Bool) (d2 : List UInt8) (a2 : Option Addr) (p2 : Nat) (w : World) (h1 : Reads w 1 (.slice a1 d1.length p1) d1.length (d1.map bv)) (h2 : Reads w 1 (.slice a2 d2.length p2) d2.length (d2.map bv)) :
    Calls Tryz.prog 15 #[.agg #[.int .u64 k1, .int .u32 c1, .bool g1, .slice a1 d1.length p1], .agg #[.int .u64 k2, .int .u32 c2, .bool g2, .slice a2 d2.length p2]] w fun e w' => e = .returned (.bool (decide ((⟨k1, c1, g1, d1⟩ : Nd) = ⟨k2, c2, g2, d2⟩))) ∧ Below w.heap.size w w' := by
  have HS := Lib.hid (fun (w0 : World) (hb : Below w.heap.size w w0) => same_any (.slice a1 d1.length p1) (.slice a2 d2.length p2) d1 d2 w0 (h1.below hb) (h2.below hb))
  obtain ⟨R, hR⟩ : ∃ R, R = decide ((⟨k1, c1, g1, d1⟩ : Nd) = ⟨k2, c2, g2, d2⟩) := ⟨_, rfl⟩
  have HRE := Lib.hid hR
  rw [← hR]
  clear h1 h2 hR
  obtain ⟨n1, hn1⟩ : ∃ n1, n1 = d1.length := ⟨_, rfl⟩
  obtain ⟨n2, hn2⟩ : ∃ n2, n2 = d2.length := ⟨_, rfl⟩
  rw [← hn1, ← hn2] at HS ⊢
  clear hn1 hn2
  by_cases e1 : k1 = k2
  case neg =>
    have HE := Lib.hid (show R = false by rw [HRE.out]; simp [e1])
    have f1 : ((k1 : Int) == (k2 : Int)) = false := by simp; omega
    have f2 : decide (k1 = k2) = false := by simp [e1]
    clear e1
    go_enter Tryz.func15, Tryz.ntmps15
    go_wp2_with fail
    go_ret
    exact ⟨by rw [HE.out]; rfl, (by repeat (first | (with_reducible first | exact .refl _ _ | refine .setCell ?_ ?_ _ | refine .alloc ?_ ?_ _ | refine .drewN ?_ _ | refine .drew ?_ | exact Nat.le_refl _) | (focus (simp only [World.size_alloc, World.size_setCell, World.size_drew, World.size_drewN]; omega)) | omega | exact Nat.le_refl _ | (focus (simp; done)) | (focus (simp; omega))))⟩
  subst e1
  by_cases e2 : c1 = c2
  case neg =>
    have HE := Lib.hid (show R = false by rw [HRE.out]; simp [e2])
    have f1 : ((c1 : Int) == (c2 : Int)) = false := by simp; omega
    have f2 : decide (c1 = c2) = false := by simp [e2]
    clear e2
    go_enter Tryz.func15, Tryz.ntmps15
    go_wp2_with fail
    go_ret
    exact ⟨by rw [HE.out]; rfl, (by repeat (first | (with_reducible first | exact .refl _ _ | refine .setCell ?_ ?_ _ | refine .alloc ?_ ?_ _ | refine .drewN ?_ _ | refine .drew ?_ | exact Nat.le_refl _) | (focus (simp only [World.size_alloc, World.size_setCell, World.size_drew, World.size_drewN]; omega)) | omega | exact Nat.le_refl _ | (focus (simp; done)) | (focus (simp; omega))))⟩
  subst e2
  by_cases e3 : g1 = g2
  case neg =>
    have HE := Lib.hid (show R = false by rw [HRE.out]; simp [e3])
    have f1 : (g1 == g2) = false := by simp [e3]
    have f2 : decide (g1 = g2) = false := by simp [e3]
    clear e3
    go_enter Tryz.func15, Tryz.ntmps15
    go_wp2_with fail
    go_ret
    exact ⟨by rw [HE.out]; rfl, (by repeat (first | (with_reducible first | exact .refl _ _ | refine .setCell ?_ ?_ _ | refine .alloc ?_ ?_ _ | refine .drewN ?_ _ | refine .drew ?_ | exact Nat.le_refl _) | (focus (simp only [World.size_alloc, World.size_setCell, World.size_drew, World.size_drewN]; omega)) | omega | exact Nat.le_refl _ | (focus (simp; done)) | (focus (simp; omega))))⟩
  subst e3
  have HE := Lib.hid (show R = decide (d1 = d2) by rw [HRE.out]; simp)
  go_enter Tryz.func15, Tryz.ntmps15
  go_upto_region 1 with fail
  obtain ⟨w0, hw0⟩ : ∃ w0 : World, w0 = (w.alloc (.cells #[.int .u64 k1, .int .u32 c1, .bool g1, .slice a1 n1 p1] 47)).alloc (.cells #[.int .u64 k1, .int .u32 c1, .bool g1, .slice a2 n2 p2] 47) := ⟨_, rfl⟩
  have HB0 := Lib.hid (show Below w.heap.size w w0 by rw [hw0]; exact (by repeat (first | (with_reducible first | exact .refl _ _ | refine .setCell ?_ ?_ _ | refine .alloc ?_ ?_ _ | refine .drewN ?_ _ | refine .drew ?_ | exact Nat.le_refl _) | (focus (simp only [World.size_alloc, World.size_setCell, World.size_drew, World.size_drewN]; omega)) | omega | exact Nat.le_refl _ | (focus (simp; done)) | (focus (simp; omega)))))
  have KA0 := Lib.hid (show w0.heap[w.heap.size]? = some (.cells #[.int .u64 k1, .int .u32 c1, .bool g1, .slice a1 n1 p1] 47 (0, 0)) by rw [hw0]; exact blk_alloc (heap_new w _) _)
  have KB0 := Lib.hid (show w0.heap[w.heap.size + 1]? = some (.cells #[.int .u64 k1, .int .u32 c1, .bool g1, .slice a2 n2 p2] 47 (0, 0)) by rw [hw0]; exact blk_new _ (by simp))
  rw [← hw0]
  clear hw0
  obtain ⟨x0, x1, x2, x3⟩ := ncells KA0.out
  obtain ⟨y0, y1, y2, y3⟩ := ncells KB0.out
  have hl0 := blk_lt KB0.out
  go_wp2_with fail
  refine (HS.out w0 HB0.out).mono ?_
  rintro e w1 ⟨rfl, hb⟩
  have HB1 := Lib.hid (HB0.out.trans (hb.mono HB0.out.size))
  clear hb x0 x1 x2 x3 y0 y1 y2 y3
  go_wp2_with fail
  go_ret
  exact ⟨by rw [HE.out]; rfl, HB1.out⟩
end Go.Proofs.YtmaalbbclldnpaaGreatDoor
