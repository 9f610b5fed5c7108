/- Whatever the list of acts and the two picks, corncriblaw07.DiskTwice answers true and leaves its arguments as they were. No condition. -/
import Derived.Test.YtcicnjlkcbimgaaDiskTwice
import Derived.Test.YtcicnjlkcbimgaaRows
import Derived.WalkKit
import Derived.ProofKit
import Derived.OpenShut
import Derived.ShutString
import Derived.ChangeOld
import Derived.Below
namespace Go.Proofs.Ytcicnjlkcbimgaa.diskTwice
open Go.ChangeShapes Go.WideShapes Go.ChangeAt Go.RowKit
theorem own : ownKnob Try.prog.godebug = none := by kernel_rfl
theorem laidOut : laidOutB Try.prog = true := by kernel_rfl
set_option maxRecDepth 100000 in
set_option maxHeartbeats 1000000 in
theorem big1 (a : Option Addr) (n ca : Nat) (l : List AArg) (pn qn : Int) (af ag : Option Addr) (nf cf ng cg : Nat) (w : World) (hl : l.length = n) (hr : Reads w 8 (.slice a n ca) n (l.flatMap AArg.row)) (hf : farB l = true) :
    Calls Try.prog 7 #[.slice a n ca, .agg #[.int .i64 pn, .slice af nf cf], .agg #[.int .i64 qn, .slice ag ng cg]] w fun e w' => e = .returned (.bool true) ∧ Below w.heap.size w w' := by
  skip
  go_enter Try.func7, Try.ntmps7
  go_wp2_with fail
  refine (alive07 _).mono ?_
  rintro e w1 ⟨rfl, hb1⟩
  have hB0 : Below w.heap.size w ((w.alloc (.cells #[.int .i64 pn, .slice af nf cf] 25)).alloc (.cells #[.int .i64 qn, .slice ag ng cg] 25)) := ((Below.refl _ _).alloc (Nat.le_refl _) _).alloc (by simp) _
  have HBX := Lib.hid (show w1.heap[w.heap.size]? = some (.cells #[.int .i64 pn, .slice af nf cf] 25 (0, 0)) from blk_below (blk_alloc (heap_new w _) _) (by simpa using hb1))
  have HBY := Lib.hid (show w1.heap[w.heap.size + 1]? = some (.cells #[.int .i64 qn, .slice ag ng cg] 25 (0, 0)) from blk_below (blk_new (w := w.alloc (.cells #[.int .i64 pn, .slice af nf cf] 25)) _ (by simp)) (by simpa using hb1))
  have HB1 := Lib.hid (hB0.trans (hb1.mono (by simp; omega)))
  have hz1 : w.heap.size + 1 < w1.heap.size := blk_lt HBY.out
  have x1 : w1.cell? ⟨w.heap.size, 1, none⟩ = some (.slice af nf cf) := by rw [cell_of_row w1 w.heap.size 1 _ _ _ HBX.out]; rfl
  have x2 : w1.cell? ⟨w.heap.size + 1, 1, none⟩ = some (.slice ag ng cg) := by rw [cell_of_row w1 (w.heap.size + 1) 1 _ _ _ HBY.out]; rfl
  clear hb1 hB0
  go_wp2_with fail
  refine (far_any a n ca l _ hl (hr.below HB1.out)).mono ?_
  rintro e w2 ⟨rfl, rfl⟩
  rw [hf]
  go_wp2_with fail
  go_ret
  exact ⟨rfl, HB1.out⟩
set_option maxRecDepth 100000 in
set_option maxHeartbeats 1000000 in
theorem big2 (a : Option Addr) (n ca : Nat) (l : List AArg) (pn qn : Int) (af ag : Option Addr) (nf cf ng cg : Nat) (w : World) (hl : l.length = n) (hr : Reads w 8 (.slice a n ca) n (l.flatMap AArg.row)) (hf : farB l = false) (h : 60 < nf) :
    Calls Try.prog 7 #[.slice a n ca, .agg #[.int .i64 pn, .slice af nf cf], .agg #[.int .i64 qn, .slice ag ng cg]] w fun e w' => e = .returned (.bool true) ∧ Below w.heap.size w w' := by
  have hd : (60 : Int) < (nf : Int) := by omega
  go_enter Try.func7, Try.ntmps7
  go_wp2_with fail
  refine (alive07 _).mono ?_
  rintro e w1 ⟨rfl, hb1⟩
  have hB0 : Below w.heap.size w ((w.alloc (.cells #[.int .i64 pn, .slice af nf cf] 25)).alloc (.cells #[.int .i64 qn, .slice ag ng cg] 25)) := ((Below.refl _ _).alloc (Nat.le_refl _) _).alloc (by simp) _
  have HBX := Lib.hid (show w1.heap[w.heap.size]? = some (.cells #[.int .i64 pn, .slice af nf cf] 25 (0, 0)) from blk_below (blk_alloc (heap_new w _) _) (by simpa using hb1))
  have HBY := Lib.hid (show w1.heap[w.heap.size + 1]? = some (.cells #[.int .i64 qn, .slice ag ng cg] 25 (0, 0)) from blk_below (blk_new (w := w.alloc (.cells #[.int .i64 pn, .slice af nf cf] 25)) _ (by simp)) (by simpa using hb1))
  have HB1 := Lib.hid (hB0.trans (hb1.mono (by simp; omega)))
  have hz1 : w.heap.size + 1 < w1.heap.size := blk_lt HBY.out
  have x1 : w1.cell? ⟨w.heap.size, 1, none⟩ = some (.slice af nf cf) := by rw [cell_of_row w1 w.heap.size 1 _ _ _ HBX.out]; rfl
  have x2 : w1.cell? ⟨w.heap.size + 1, 1, none⟩ = some (.slice ag ng cg) := by rw [cell_of_row w1 (w.heap.size + 1) 1 _ _ _ HBY.out]; rfl
  clear hb1 hB0
  go_wp2_with fail
  refine (far_any a n ca l _ hl (hr.below HB1.out)).mono ?_
  rintro e w2 ⟨rfl, rfl⟩
  rw [hf]
  go_wp2_with fail
  go_ret
  exact ⟨rfl, HB1.out⟩
set_option maxRecDepth 100000 in
set_option maxHeartbeats 1000000 in
theorem big3 (a : Option Addr) (n ca : Nat) (l : List AArg) (pn qn : Int) (af ag : Option Addr) (nf cf ng cg : Nat) (w : World) (hl : l.length = n) (hr : Reads w 8 (.slice a n ca) n (l.flatMap AArg.row)) (hf : farB l = false) (h : nf ≤ 60) (h2 : 60 < ng) :
    Calls Try.prog 7 #[.slice a n ca, .agg #[.int .i64 pn, .slice af nf cf], .agg #[.int .i64 qn, .slice ag ng cg]] w fun e w' => e = .returned (.bool true) ∧ Below w.heap.size w w' := by
  have hd : decide ((60 : Int) < (nf : Int)) = false := by simp; omega
  have hd2 : (60 : Int) < (ng : Int) := by omega
  go_enter Try.func7, Try.ntmps7
  go_wp2_with fail
  refine (alive07 _).mono ?_
  rintro e w1 ⟨rfl, hb1⟩
  have hB0 : Below w.heap.size w ((w.alloc (.cells #[.int .i64 pn, .slice af nf cf] 25)).alloc (.cells #[.int .i64 qn, .slice ag ng cg] 25)) := ((Below.refl _ _).alloc (Nat.le_refl _) _).alloc (by simp) _
  have HBX := Lib.hid (show w1.heap[w.heap.size]? = some (.cells #[.int .i64 pn, .slice af nf cf] 25 (0, 0)) from blk_below (blk_alloc (heap_new w _) _) (by simpa using hb1))
  have HBY := Lib.hid (show w1.heap[w.heap.size + 1]? = some (.cells #[.int .i64 qn, .slice ag ng cg] 25 (0, 0)) from blk_below (blk_new (w := w.alloc (.cells #[.int .i64 pn, .slice af nf cf] 25)) _ (by simp)) (by simpa using hb1))
  have HB1 := Lib.hid (hB0.trans (hb1.mono (by simp; omega)))
  have hz1 : w.heap.size + 1 < w1.heap.size := blk_lt HBY.out
  have x1 : w1.cell? ⟨w.heap.size, 1, none⟩ = some (.slice af nf cf) := by rw [cell_of_row w1 w.heap.size 1 _ _ _ HBX.out]; rfl
  have x2 : w1.cell? ⟨w.heap.size + 1, 1, none⟩ = some (.slice ag ng cg) := by rw [cell_of_row w1 (w.heap.size + 1) 1 _ _ _ HBY.out]; rfl
  clear hb1 hB0
  go_wp2_with fail
  refine (far_any a n ca l _ hl (hr.below HB1.out)).mono ?_
  rintro e w2 ⟨rfl, rfl⟩
  rw [hf]
  go_wp2_with fail
  go_ret
  exact ⟨rfl, HB1.out⟩
theorem walk (a : Option Addr) (n ca : Nat) (l : List AArg) (p q : DPicks) (af ag : Option Addr) (cf cg : Nat) (w : World) (hl : l.length = n) (hr : Reads w 8 (.slice a n ca) n (l.flatMap AArg.row)) (hok : ∀ x ∈ l, AOk w x)
    (hrp : Reads w 2 (.slice af p.files.length cf) p.files.length (p.files.flatMap DPick.row)) (hrq : Reads w 2 (.slice ag q.files.length cg) q.files.length (q.files.flatMap DPick.row))
    (hp1 : -9223372036854775808 ≤ p.names ∧ p.names ≤ 9223372036854775807) (hq1 : -9223372036854775808 ≤ q.names ∧ q.names ≤ 9223372036854775807) (hpk : ∀ x ∈ p.files, PickOk x) (hqk : ∀ x ∈ q.files, PickOk x) :
    Calls Try.prog 7 #[.slice a n ca, .agg #[.int .i64 p.names, .slice af p.files.length cf], .agg #[.int .i64 q.names, .slice ag q.files.length cg]] w fun e w' => e = .returned (.bool true) ∧ Below w.heap.size w w' := by
  cases hf : farB l
  · by_cases h1 : 60 < p.files.length
    · exact big2 a n ca l _ _ af ag _ cf _ cg w hl hr hf h1
    by_cases h2 : 60 < q.files.length
    · exact big3 a n ca l _ _ af ag _ cf _ cg w hl hr hf (by omega) h2
    exact twice_any a n ca l p q af ag cf cg w hl hr hok hf hrp hrq (by omega) (by omega) hp1 hq1 hpk hqk
  · exact big1 a n ca l _ _ af ag _ cf _ cg w hl hr hf
set_option maxRecDepth 100000 in
theorem lifted (os : Os) (started : os.Started) (H : Type) (enc : TypeId × Value → H) :
    ReturnsInHanded {} Try.checked os 7 .any (Rows.diskTwiceSpec.pre6 enc Try.prog Try.f7 Rows.diskTwiceRow.domain false) (Rows.diskTwiceSpec.post enc Try.prog Try.f7 false true false false) := by
  refine returnsInHanded_of_change (C := Try.checked) own started (by kernel_rfl) Try.func7
    (ChangeSpec.witness6 (enc := enc) (C := Try.checked) false ⟨#[], #[.slice none 0 0, .agg #[.int .i64 0, .slice none 0 0], .agg #[.int .i64 0, .slice none 0 0]], []⟩ 8 (by kernel_rfl) (by kernel_rfl) (by kernel_rfl) (by kernel_rfl)) ?_
  intro W base args ds gs before hval0 hW hcnd _
  have hval : ∀ (j : Nat) t v, Try.f7.params[j]? = some t → args[j]? = some v → Value.okWide Try.prog W .any base t v := hval0
  have hW' := hW
  obtain ⟨p, q, hA0, hV, rfl, hfz, hnd⟩ := hW
  have hA : DataW.TrodAll enc Try.prog W 0 (fun _ => true) true Try.f7.params.toList args.toList ds p := hA0
  rw [Try.params7] at hA hval
  obtain ⟨v0, vs0, d0, ds0, p0, q0, hargs, rfl, rfl, h0, r0⟩ := trodAll_cons hA
  obtain ⟨v1, vs1, d1, ds1, p1, q1, rfl, rfl, rfl, h1, r1⟩ := trodAll_cons r0
  obtain ⟨v2, vs2, d2, ds2, p2, q2, rfl, rfl, rfl, h2, r2⟩ := trodAll_cons r1
  obtain ⟨rfl, rfl, rfl⟩ := trodAll_nil r2
  obtain rfl : args = #[v0, v1, v2] := by cases args; simp_all
  obtain ⟨rfl, rfl⟩ := trodVars_none hV
  obtain ⟨a0, len0, cap0, rfl⟩ := okWide_slice Try.underlying50 (hval 0 50 v0 rfl rfl)
  obtain ⟨cs1, rfl, _⟩ := okWide_struct Try.underlying25 (hval 1 25 v1 rfl rfl)
  obtain ⟨cs2, rfl, _⟩ := okWide_struct Try.underlying25 (hval 2 25 v2 rfl rfl)
  have k0 := h0
  have k1 := h1
  have k2 := h2
  have lt0 : ∀ x ∈ p0, x.block < W.heap.size := by obtain ⟨m, hm⟩ := k0; exact DataW.trod_lt m _ _ _ hm
  have lt1 : ∀ x ∈ p1, x.block < W.heap.size := by obtain ⟨m, hm⟩ := k1; exact DataW.trod_lt m _ _ _ hm
  have lt2 : ∀ x ∈ p2, x.block < W.heap.size := by obtain ⟨m, hm⟩ := k2; exact DataW.trod_lt m _ _ _ hm
  obtain ⟨l0, e0, rd0, ok0⟩ := arg_acts7 h0
  obtain ⟨pk, af1, cf1, rfl, pr1, po1, pn1⟩ := arg_picks h1
  obtain ⟨qk, af2, cf2, rfl, pr2, po2, pn2⟩ := arg_picks h2
  clear hA0 hval0
  refine (walk a0 len0 cap0 l0 pk qk af1 af2 cf1 cf2 W e0 rd0 ok0 pr1 pr2 pn1 pn2 po1 po2).mono fun e W' ⟨he, bel⟩ => ?_
  subst he
  exact ⟨_, rfl, _, _, _, [], _, [], hW', trodAll_mk1 (shut_bool Try.underlying4 _), (trodAll_cons_mk (Below.trod laidOut (by kernel_rfl) (of_decide_eq_true (by kernel_rfl)) k0 bel lt0) (trodAll_cons_mk (Below.trod laidOut (by kernel_rfl) (of_decide_eq_true (by kernel_rfl)) k1 bel lt1) (trodAll_cons_mk (Below.trod laidOut (by kernel_rfl) (of_decide_eq_true (by kernel_rfl)) k2 bel lt2) trodAll_mk0))), rfl, bel.frame _, fun h => by cases h⟩
theorem over : Rows.diskTwiceRow.holds Try.pinned (OpenSpec.ofChange Rows.diskTwiceSpec) :=
  OpenClaim.holds_of_wide 7 Try.f7 rfl rfl rfl rfl rfl rfl rfl ⟨rfl, rfl, rfl, rfl, rfl⟩ rfl rfl rfl rfl rfl (by kernel_rfl) Try.func7 (by kernel_rfl)
    (of_decide_eq_true (by kernel_rfl)) (by unfold Func.isWrapper; first | (rw [if_pos (by decide +kernel)]; kernel_rfl) | (rw [if_neg (by decide +kernel)]; exact ⟨rfl, rfl⟩))
    (fun os started H enc _ => lifted os started H enc)
theorem proved : Rows.DiskTwiceSaid := over
end Go.Proofs.Ytcicnjlkcbimgaa.diskTwice
