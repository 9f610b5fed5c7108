/- Whatever the three rows of bytes, the picks and the number, corncriblaw07.DiskLasts answers true and leaves its arguments as they were. No condition. -/
import Derived.Test.YtcicnjlkcbimgaaDiskLasts
import Derived.Test.YtcicnjlkcbimgaaOpen07
import Derived.Test.YtcicnjlkcbimgaaOpenU8
import Derived.Test.YtcicnjlkcbimgaaRows
import Derived.WalkKit
import Derived.ProofKit
import Derived.OpenShut
import Derived.ShutString
import Derived.ChangeOld
import Derived.Below
namespace Go.Proofs.Ytcicnjlkcbimgaa.diskLasts
open Go.ChangeShapes Go.WideShapes Go.ChangeAt Go.RowKit
theorem own : ownKnob Try.prog.godebug = none := by kernel_rfl
theorem laidOut : laidOutB Try.prog = true := by kernel_rfl
set_option maxRecDepth 100000 in
set_option maxHeartbeats 1000000 in
theorem big1 (aa ab ac : Option Addr) (na ca nb cb nc cc : Nat) (nm : Int) (af : Option Addr) (nf cf : Nat) (v : Value) (w : World) (h1 : 300 < na) :
    Calls Try.prog 3 #[.slice aa na ca, .slice ab nb cb, .slice ac nc cc, .agg #[.int .i64 nm, .slice af nf cf], v] w fun e w' => e = .returned (.bool true) ∧ Below w.heap.size w w' := by
  have hda : (300 : Int) < (na : Int) := by omega
  go_enter Try.func3, Try.ntmps3
  go_wp2_with fail
  refine (alive07 _).mono ?_
  rintro e w1 ⟨rfl, hb1⟩
  have hbx := heap_new w (.cells #[.int .i64 nm, .slice af nf cf] 25)
  have HBX := Lib.hid (blk_below hbx (by simpa using hb1))
  have HB1 := Lib.hid (show Below w.heap.size w w1 from Below.trans (by repeat (first | (with_reducible exact Below.refl _ _) | (with_reducible refine Below.setCell ?_ ?_ _) | (with_reducible refine Below.alloc ?_ ?_ _) | (with_reducible refine Below.drewN ?_ _) | (with_reducible refine Below.drew ?_) | (with_reducible exact Nat.le_refl _) | (focus (simp only [World.size_alloc, World.size_setCell, World.size_drew, World.size_drewN]; omega)) | omega | exact Nat.le_refl _ | (focus (simp; done)) | (focus (simp; omega)))) (hb1.mono (by simp)))
  have hz1 : w.heap.size < w1.heap.size := by have := hb1.size; simp at this; omega
  clear hb1 hbx
  have x1 : w1.cell? ⟨w.heap.size, 1, none⟩ = some (.slice af nf cf) := by rw [cell_of_row w1 w.heap.size 1 _ _ _ HBX.out]; rfl
  go_wp2_with fail
  go_ret
  exact ⟨rfl, HB1.out⟩
set_option maxRecDepth 100000 in
set_option maxHeartbeats 1000000 in
theorem big2 (aa ab ac : Option Addr) (na ca nb cb nc cc : Nat) (nm : Int) (af : Option Addr) (nf cf : Nat) (v : Value) (w : World) (h1 : na ≤ 300) (h2 : 300 < nb) :
    Calls Try.prog 3 #[.slice aa na ca, .slice ab nb cb, .slice ac nc cc, .agg #[.int .i64 nm, .slice af nf cf], v] w fun e w' => e = .returned (.bool true) ∧ Below w.heap.size w w' := by
  have hda : decide ((300 : Int) < (na : Int)) = false := by simp; omega
  have hdb : (300 : Int) < (nb : Int) := by omega
  go_enter Try.func3, Try.ntmps3
  go_wp2_with fail
  refine (alive07 _).mono ?_
  rintro e w1 ⟨rfl, hb1⟩
  have hbx := heap_new w (.cells #[.int .i64 nm, .slice af nf cf] 25)
  have HBX := Lib.hid (blk_below hbx (by simpa using hb1))
  have HB1 := Lib.hid (show Below w.heap.size w w1 from Below.trans (by repeat (first | (with_reducible exact Below.refl _ _) | (with_reducible refine Below.setCell ?_ ?_ _) | (with_reducible refine Below.alloc ?_ ?_ _) | (with_reducible refine Below.drewN ?_ _) | (with_reducible refine Below.drew ?_) | (with_reducible exact Nat.le_refl _) | (focus (simp only [World.size_alloc, World.size_setCell, World.size_drew, World.size_drewN]; omega)) | omega | exact Nat.le_refl _ | (focus (simp; done)) | (focus (simp; omega)))) (hb1.mono (by simp)))
  have hz1 : w.heap.size < w1.heap.size := by have := hb1.size; simp at this; omega
  clear hb1 hbx
  have x1 : w1.cell? ⟨w.heap.size, 1, none⟩ = some (.slice af nf cf) := by rw [cell_of_row w1 w.heap.size 1 _ _ _ HBX.out]; rfl
  go_wp2_with fail
  go_ret
  exact ⟨rfl, HB1.out⟩
set_option maxRecDepth 100000 in
set_option maxHeartbeats 1000000 in
theorem big3 (aa ab ac : Option Addr) (na ca nb cb nc cc : Nat) (nm : Int) (af : Option Addr) (nf cf : Nat) (v : Value) (w : World) (h1 : na ≤ 300) (h2 : nb ≤ 300) (h3 : 300 < nc) :
    Calls Try.prog 3 #[.slice aa na ca, .slice ab nb cb, .slice ac nc cc, .agg #[.int .i64 nm, .slice af nf cf], v] w fun e w' => e = .returned (.bool true) ∧ Below w.heap.size w w' := by
  have hda : decide ((300 : Int) < (na : Int)) = false := by simp; omega
  have hdb : decide ((300 : Int) < (nb : Int)) = false := by simp; omega
  have hdc : (300 : Int) < (nc : Int) := by omega
  go_enter Try.func3, Try.ntmps3
  go_wp2_with fail
  refine (alive07 _).mono ?_
  rintro e w1 ⟨rfl, hb1⟩
  have hbx := heap_new w (.cells #[.int .i64 nm, .slice af nf cf] 25)
  have HBX := Lib.hid (blk_below hbx (by simpa using hb1))
  have HB1 := Lib.hid (show Below w.heap.size w w1 from Below.trans (by repeat (first | (with_reducible exact Below.refl _ _) | (with_reducible refine Below.setCell ?_ ?_ _) | (with_reducible refine Below.alloc ?_ ?_ _) | (with_reducible refine Below.drewN ?_ _) | (with_reducible refine Below.drew ?_) | (with_reducible exact Nat.le_refl _) | (focus (simp only [World.size_alloc, World.size_setCell, World.size_drew, World.size_drewN]; omega)) | omega | exact Nat.le_refl _ | (focus (simp; done)) | (focus (simp; omega)))) (hb1.mono (by simp)))
  have hz1 : w.heap.size < w1.heap.size := by have := hb1.size; simp at this; omega
  clear hb1 hbx
  have x1 : w1.cell? ⟨w.heap.size, 1, none⟩ = some (.slice af nf cf) := by rw [cell_of_row w1 w.heap.size 1 _ _ _ HBX.out]; rfl
  go_wp2_with fail
  go_ret
  exact ⟨rfl, HB1.out⟩
set_option maxRecDepth 100000 in
set_option maxHeartbeats 1000000 in
theorem big4 (aa ab ac : Option Addr) (na ca nb cb nc cc : Nat) (nm : Int) (af : Option Addr) (nf cf : Nat) (v : Value) (w : World) (h1 : na ≤ 300) (h2 : nb ≤ 300) (h3 : nc ≤ 300) (h4 : 20 < nf) :
    Calls Try.prog 3 #[.slice aa na ca, .slice ab nb cb, .slice ac nc cc, .agg #[.int .i64 nm, .slice af nf cf], v] w fun e w' => e = .returned (.bool true) ∧ Below w.heap.size w w' := by
  have hda : decide ((300 : Int) < (na : Int)) = false := by simp; omega
  have hdb : decide ((300 : Int) < (nb : Int)) = false := by simp; omega
  have hdc : decide ((300 : Int) < (nc : Int)) = false := by simp; omega
  have hdf : (20 : Int) < (nf : Int) := by omega
  go_enter Try.func3, Try.ntmps3
  go_wp2_with fail
  refine (alive07 _).mono ?_
  rintro e w1 ⟨rfl, hb1⟩
  have hbx := heap_new w (.cells #[.int .i64 nm, .slice af nf cf] 25)
  have HBX := Lib.hid (blk_below hbx (by simpa using hb1))
  have HB1 := Lib.hid (show Below w.heap.size w w1 from Below.trans (by repeat (first | (with_reducible exact Below.refl _ _) | (with_reducible refine Below.setCell ?_ ?_ _) | (with_reducible refine Below.alloc ?_ ?_ _) | (with_reducible refine Below.drewN ?_ _) | (with_reducible refine Below.drew ?_) | (with_reducible exact Nat.le_refl _) | (focus (simp only [World.size_alloc, World.size_setCell, World.size_drew, World.size_drewN]; omega)) | omega | exact Nat.le_refl _ | (focus (simp; done)) | (focus (simp; omega)))) (hb1.mono (by simp)))
  have hz1 : w.heap.size < w1.heap.size := by have := hb1.size; simp at this; omega
  clear hb1 hbx
  have x1 : w1.cell? ⟨w.heap.size, 1, none⟩ = some (.slice af nf cf) := by rw [cell_of_row w1 w.heap.size 1 _ _ _ HBX.out]; rfl
  go_wp2_with fail
  go_ret
  exact ⟨rfl, HB1.out⟩
theorem walk (aa ab ac : Option Addr) (na ca nb cb nc cc : Nat) (a b c : List UInt8) (p : DPicks) (af : Option Addr) (cf : Nat) (n : Int) (w : World) (ha : a.length = na) (hb : b.length = nb) (hc : c.length = nc)
    (hra : Reads w 1 (.slice aa na ca) na (a.map bv)) (hrb : Reads w 1 (.slice ab nb cb) nb (b.map bv)) (hrc : Reads w 1 (.slice ac nc cc) nc (c.map bv)) (hrp : Reads w 2 (.slice af p.files.length cf) p.files.length (p.files.flatMap DPick.row))
    (hn1 : -9223372036854775808 ≤ p.names) (hn2 : p.names ≤ 9223372036854775807) (hpk : ∀ x ∈ p.files, PickOk x) (hl0 : 0 ≤ n) (hl1 : n ≤ 255) :
    Calls Try.prog 3 #[.slice aa na ca, .slice ab nb cb, .slice ac nc cc, .agg #[.int .i64 p.names, .slice af p.files.length cf], .int .u8 n] w fun e w' => e = .returned (.bool true) ∧ Below w.heap.size w w' := by
  by_cases h1 : 300 < na
  · exact big1 _ _ _ _ _ _ _ _ _ _ _ _ _ _ _ h1
  by_cases h2 : 300 < nb
  · exact big2 _ _ _ _ _ _ _ _ _ _ _ _ _ _ _ (by omega) h2
  by_cases h3 : 300 < nc
  · exact big3 _ _ _ _ _ _ _ _ _ _ _ _ _ _ _ (by omega) (by omega) h3
  by_cases h4 : 20 < p.files.length
  · exact big4 _ _ _ _ _ _ _ _ _ _ _ _ _ _ _ (by omega) (by omega) (by omega) h4
  exact lasts_any aa ab ac na ca nb cb nc cc a b c p af cf n w ha hb hc hra hrb hrc hrp (by omega) (by omega) (by omega) (by omega) hn1 hn2 hpk hl0 hl1
set_option maxRecDepth 100000 in
theorem lifted (os : Os) (started : os.Started) (H : Type) (enc : TypeId × Value → H) :
    ReturnsInHanded {} Try.checked os 3 .any (Rows.diskLastsSpec.pre6 enc Try.prog Try.f3 Rows.diskLastsRow.domain false) (Rows.diskLastsSpec.post enc Try.prog Try.f3 false true false false) := by
  refine returnsInHanded_of_change (C := Try.checked) own started (by kernel_rfl) Try.func3
    (ChangeSpec.witness6 (enc := enc) (C := Try.checked) false ⟨#[], #[.slice none 0 0, .slice none 0 0, .slice none 0 0, .agg #[.int .i64 0, .slice none 0 0], .int .u8 0], []⟩ 8 (by kernel_rfl) (by kernel_rfl) (by kernel_rfl) (by kernel_rfl)) ?_
  intro W base args ds gs before hval0 hW hcnd _
  have hval : ∀ (j : Nat) t v, Try.f3.params[j]? = some t → args[j]? = some v → Value.okWide Try.prog W .any base t v := hval0
  have hW' := hW
  obtain ⟨p, q, hA0, hV, rfl, hfz, hnd⟩ := hW
  have hA : DataW.TrodAll enc Try.prog W 0 (fun _ => true) true Try.f3.params.toList args.toList ds p := hA0
  rw [Try.params3] at hA hval
  obtain ⟨v0, vs0, d0, ds0, p0, q0, hargs, rfl, rfl, h0, r0⟩ := trodAll_cons hA
  obtain ⟨v1, vs1, d1, ds1, p1, q1, rfl, rfl, rfl, h1, r1⟩ := trodAll_cons r0
  obtain ⟨v2, vs2, d2, ds2, p2, q2, rfl, rfl, rfl, h2, r2⟩ := trodAll_cons r1
  obtain ⟨v3, vs3, d3, ds3, p3, q3, rfl, rfl, rfl, h3, r3⟩ := trodAll_cons r2
  obtain ⟨v4, vs4, d4, ds4, p4, q4, rfl, rfl, rfl, h4, r4⟩ := trodAll_cons r3
  obtain ⟨rfl, rfl, rfl⟩ := trodAll_nil r4
  obtain rfl : args = #[v0, v1, v2, v3, v4] := by cases args; simp_all
  obtain ⟨rfl, rfl⟩ := trodVars_none hV
  obtain ⟨a0, len0, cap0, rfl⟩ := okWide_slice Try.underlying22 (hval 0 22 v0 rfl rfl)
  obtain ⟨a1, len1, cap1, rfl⟩ := okWide_slice Try.underlying22 (hval 1 22 v1 rfl rfl)
  obtain ⟨a2, len2, cap2, rfl⟩ := okWide_slice Try.underlying22 (hval 2 22 v2 rfl rfl)
  obtain ⟨cs3, rfl, _⟩ := okWide_struct Try.underlying25 (hval 3 25 v3 rfl rfl)
  obtain ⟨n4, rfl⟩ := okWide_int Try.underlying5 (hval 4 5 v4 rfl rfl)
  obtain ⟨b4, u4⟩ := u8_of h4 n4 rfl
  have k0 := h0
  have k1 := h1
  have k2 := h2
  have k3 := h3
  have k4 := h4
  have lt0 : ∀ x ∈ p0, x.block < W.heap.size := by obtain ⟨m, hm⟩ := k0; exact DataW.trod_lt m _ _ _ hm
  have lt1 : ∀ x ∈ p1, x.block < W.heap.size := by obtain ⟨m, hm⟩ := k1; exact DataW.trod_lt m _ _ _ hm
  have lt2 : ∀ x ∈ p2, x.block < W.heap.size := by obtain ⟨m, hm⟩ := k2; exact DataW.trod_lt m _ _ _ hm
  have lt3 : ∀ x ∈ p3, x.block < W.heap.size := by obtain ⟨m, hm⟩ := k3; exact DataW.trod_lt m _ _ _ hm
  have lt4 : ∀ x ∈ p4, x.block < W.heap.size := by obtain ⟨m, hm⟩ := k4; exact DataW.trod_lt m _ _ _ hm
  obtain ⟨l0, e0, rd0, _⟩ := arg_bytes h0
  obtain ⟨l1, e1, rd1, _⟩ := arg_bytes h1
  obtain ⟨l2, e2, rd2, _⟩ := arg_bytes h2
  obtain ⟨pk, af, cf, rfl, hpr, hpo, hpn1, hpn2⟩ := arg_picks h3
  clear hA0 hval0
  refine (walk a0 a1 a2 len0 cap0 len1 cap1 len2 cap2 l0 l1 l2 pk af cf n4 W e0 e1 e2 rd0 rd1 rd2 hpr hpn1 hpn2 hpo b4 u4).mono fun e W' ⟨he, bel⟩ => ?_
  subst he
  exact ⟨_, rfl, _, _, _, [], _, [], hW', trodAll_mk1 (shut_bool Try.underlying4 _), (trodAll_cons_mk (Below.trod laidOut (by kernel_rfl) (of_decide_eq_true (by kernel_rfl)) k0 bel lt0) (trodAll_cons_mk (Below.trod laidOut (by kernel_rfl) (of_decide_eq_true (by kernel_rfl)) k1 bel lt1) (trodAll_cons_mk (Below.trod laidOut (by kernel_rfl) (of_decide_eq_true (by kernel_rfl)) k2 bel lt2) (trodAll_cons_mk (Below.trod laidOut (by kernel_rfl) (of_decide_eq_true (by kernel_rfl)) k3 bel lt3) (trodAll_cons_mk (Below.trod laidOut (by kernel_rfl) (of_decide_eq_true (by kernel_rfl)) k4 bel lt4) trodAll_mk0))))), rfl, bel.frame _, fun h => by cases h⟩
theorem over : Rows.diskLastsRow.holds Try.pinned (OpenSpec.ofChange Rows.diskLastsSpec) :=
  OpenClaim.holds_of_wide 3 Try.f3 rfl rfl rfl rfl rfl rfl rfl ⟨rfl, rfl, rfl, rfl, rfl⟩ rfl rfl rfl rfl rfl (by kernel_rfl) Try.func3 (by kernel_rfl)
    (of_decide_eq_true (by kernel_rfl)) (by unfold Func.isWrapper; first | (rw [if_pos (by decide +kernel)]; kernel_rfl) | (rw [if_neg (by decide +kernel)]; exact ⟨rfl, rfl⟩))
    (fun os started H enc _ => lifted os started H enc)
theorem proved : Rows.DiskLastsSaid := over
end Go.Proofs.Ytcicnjlkcbimgaa.diskLasts
