/- No disk: each method, corncriblaw07.Do (written by gendisknil.py). -/
import Derived.Test.YtcicnjlkcbimgaaDiskS
namespace Go.Proofs.Ytcicnjlkcbimgaa
open Go.RowKit
theorem up_nil (w : World) : Calls Try.prog 30 #[.pointer none] w fun e w' => e = .returned (errV 15) ∧ w = w' := by
  go_enter Try.func30, Try.ntmps30
  go_wp2_with fail
  go_ret
  exact ⟨rfl, rfl⟩
theorem find_nil (s : Nm) (w : World) : Calls Try.prog 34 #[.pointer none, .string ⟨s.toArray⟩] w fun e w' => e = .returned (.tuple #[.pointer none, errV 15]) ∧ w = w' := by
  have HN := Lib.hid (errV_ne (k := 15) (by omega))
  go_enter Try.func34, Try.ntmps34
  go_wp2_with fail
  refine (up_nil _).mono ?_
  rintro e w1 ⟨rfl, rfl⟩
  rw [HN.out]
  go_wp2_with fail
  go_ret2
  exact ⟨by rw [HN.out]; rfl, rfl⟩
set_option maxRecDepth 100000 in
theorem create_nil (s : Nm) (w : World) : Calls Try.prog 10 #[.pointer none, .string ⟨s.toArray⟩] w fun e w' => e = .returned (errV 15) ∧ Below w.heap.size w w' := by
  have HN := Lib.hid (errV_ne (k := 15) (by omega))
  go_enter Try.func10, Try.ntmps10
  go_wp2_with fail
  refine (up_nil _).mono ?_
  rintro e w1 ⟨rfl, rfl⟩
  rw [HN.out]
  go_wp2_with fail
  go_ret
  exact ⟨by rw [HN.out]; rfl, (by repeat (first | (with_reducible exact Below.refl _ _) | (with_reducible refine Below.setCell ?_ ?_ _) | (with_reducible refine Below.alloc ?_ ?_ _) | (with_reducible refine Below.drewN ?_ _) | (with_reducible refine Below.drew ?_) | (with_reducible exact Nat.le_refl _) | (focus (simp only [World.size_alloc, World.size_setCell, World.size_drew, World.size_drewN]; omega)) | omega | exact Nat.le_refl _ | (focus (simp; done)) | (focus (simp; omega))))⟩
set_option maxRecDepth 100000 in
theorem append_nil (s : Nm) (a : Option Addr) (n c : Nat) (w : World) : Calls Try.prog 11 #[.pointer none, .string ⟨s.toArray⟩, .slice a n c] w fun e w' => e = .returned (errV 15) ∧ Below w.heap.size w w' := by
  have HN := Lib.hid (errV_ne (k := 15) (by omega))
  go_enter Try.func11, Try.ntmps11
  go_wp2_with fail
  refine (find_nil s _).mono ?_
  rintro e w1 ⟨rfl, rfl⟩
  rw [HN.out]
  go_wp2_with fail
  go_ret
  exact ⟨by rw [HN.out]; rfl, (by repeat (first | (with_reducible exact Below.refl _ _) | (with_reducible refine Below.setCell ?_ ?_ _) | (with_reducible refine Below.alloc ?_ ?_ _) | (with_reducible refine Below.drewN ?_ _) | (with_reducible refine Below.drew ?_) | (with_reducible exact Nat.le_refl _) | (focus (simp only [World.size_alloc, World.size_setCell, World.size_drew, World.size_drewN]; omega)) | omega | exact Nat.le_refl _ | (focus (simp; done)) | (focus (simp; omega))))⟩
set_option maxRecDepth 100000 in
theorem sync_nil (s : Nm) (w : World) : Calls Try.prog 12 #[.pointer none, .string ⟨s.toArray⟩] w fun e w' => e = .returned (errV 15) ∧ Below w.heap.size w w' := by
  have HN := Lib.hid (errV_ne (k := 15) (by omega))
  go_enter Try.func12, Try.ntmps12
  go_wp2_with fail
  refine (find_nil s _).mono ?_
  rintro e w1 ⟨rfl, rfl⟩
  rw [HN.out]
  go_wp2_with fail
  go_ret
  exact ⟨by rw [HN.out]; rfl, (by repeat (first | (with_reducible exact Below.refl _ _) | (with_reducible refine Below.setCell ?_ ?_ _) | (with_reducible refine Below.alloc ?_ ?_ _) | (with_reducible refine Below.drewN ?_ _) | (with_reducible refine Below.drew ?_) | (with_reducible exact Nat.le_refl _) | (focus (simp only [World.size_alloc, World.size_setCell, World.size_drew, World.size_drewN]; omega)) | omega | exact Nat.le_refl _ | (focus (simp; done)) | (focus (simp; omega))))⟩
set_option maxRecDepth 100000 in
theorem syncNames_nil (w : World) : Calls Try.prog 13 #[.pointer none] w fun e w' => e = .returned (errV 15) ∧ Below w.heap.size w w' := by
  have HN := Lib.hid (errV_ne (k := 15) (by omega))
  go_enter Try.func13, Try.ntmps13
  go_wp2_with fail
  refine (up_nil _).mono ?_
  rintro e w1 ⟨rfl, rfl⟩
  rw [HN.out]
  go_wp2_with fail
  go_ret
  exact ⟨by rw [HN.out]; rfl, (by repeat (first | (with_reducible exact Below.refl _ _) | (with_reducible refine Below.setCell ?_ ?_ _) | (with_reducible refine Below.alloc ?_ ?_ _) | (with_reducible refine Below.drewN ?_ _) | (with_reducible refine Below.drew ?_) | (with_reducible exact Nat.le_refl _) | (focus (simp only [World.size_alloc, World.size_setCell, World.size_drew, World.size_drewN]; omega)) | omega | exact Nat.le_refl _ | (focus (simp; done)) | (focus (simp; omega))))⟩
set_option maxRecDepth 100000 in
theorem rename_nil (s t : Nm) (w : World) : Calls Try.prog 16 #[.pointer none, .string ⟨s.toArray⟩, .string ⟨t.toArray⟩] w fun e w' => e = .returned (errV 15) ∧ Below w.heap.size w w' := by
  have HN := Lib.hid (errV_ne (k := 15) (by omega))
  go_enter Try.func16, Try.ntmps16
  go_wp2_with fail
  refine (find_nil s _).mono ?_
  rintro e w1 ⟨rfl, rfl⟩
  rw [HN.out]
  go_wp2_with fail
  go_ret
  exact ⟨by rw [HN.out]; rfl, (by repeat (first | (with_reducible exact Below.refl _ _) | (with_reducible refine Below.setCell ?_ ?_ _) | (with_reducible refine Below.alloc ?_ ?_ _) | (with_reducible refine Below.drewN ?_ _) | (with_reducible refine Below.drew ?_) | (with_reducible exact Nat.le_refl _) | (focus (simp only [World.size_alloc, World.size_setCell, World.size_drew, World.size_drewN]; omega)) | omega | exact Nat.le_refl _ | (focus (simp; done)) | (focus (simp; omega))))⟩
set_option maxRecDepth 100000 in
theorem remove_nil (s : Nm) (w : World) : Calls Try.prog 43 #[.pointer none, .string ⟨s.toArray⟩] w fun e w' => e = .returned (errV 15) ∧ Below w.heap.size w w' := by
  have HN := Lib.hid (errV_ne (k := 15) (by omega))
  go_enter Try.func43, Try.ntmps43
  go_wp2_with fail
  refine (find_nil s _).mono ?_
  rintro e w1 ⟨rfl, rfl⟩
  rw [HN.out]
  go_wp2_with fail
  go_ret
  exact ⟨by rw [HN.out]; rfl, (by repeat (first | (with_reducible exact Below.refl _ _) | (with_reducible refine Below.setCell ?_ ?_ _) | (with_reducible refine Below.alloc ?_ ?_ _) | (with_reducible refine Below.drewN ?_ _) | (with_reducible refine Below.drew ?_) | (with_reducible exact Nat.le_refl _) | (focus (simp only [World.size_alloc, World.size_setCell, World.size_drew, World.size_drewN]; omega)) | omega | exact Nat.le_refl _ | (focus (simp; done)) | (focus (simp; omega))))⟩
set_option maxRecDepth 100000 in
theorem cut_nil (s : Nm) (n : Int) (w : World) : Calls Try.prog 44 #[.pointer none, .string ⟨s.toArray⟩, .int .i64 n] w fun e w' => e = .returned (errV 15) ∧ Below w.heap.size w w' := by
  have HN := Lib.hid (errV_ne (k := 15) (by omega))
  go_enter Try.func44, Try.ntmps44
  go_wp2_with fail
  refine (find_nil s _).mono ?_
  rintro e w1 ⟨rfl, rfl⟩
  rw [HN.out]
  go_wp2_with fail
  go_ret
  exact ⟨by rw [HN.out]; rfl, (by repeat (first | (with_reducible exact Below.refl _ _) | (with_reducible refine Below.setCell ?_ ?_ _) | (with_reducible refine Below.alloc ?_ ?_ _) | (with_reducible refine Below.drewN ?_ _) | (with_reducible refine Below.drew ?_) | (with_reducible exact Nat.le_refl _) | (focus (simp only [World.size_alloc, World.size_setCell, World.size_drew, World.size_drewN]; omega)) | omega | exact Nat.le_refl _ | (focus (simp; done)) | (focus (simp; omega))))⟩
set_option maxRecDepth 100000 in
theorem arm_nil (n : Int) (w : World) : Calls Try.prog 15 #[.pointer none, .int .i64 n] w fun e w' => e = .returned (errV 15) ∧ Below w.heap.size w w' := by
  have HN := Lib.hid (errV_ne (k := 15) (by omega))
  go_enter Try.func15, Try.ntmps15
  go_wp2_with fail
  refine (up_nil _).mono ?_
  rintro e w1 ⟨rfl, rfl⟩
  rw [HN.out]
  go_wp2_with fail
  go_ret
  exact ⟨by rw [HN.out]; rfl, (by repeat (first | (with_reducible exact Below.refl _ _) | (with_reducible refine Below.setCell ?_ ?_ _) | (with_reducible refine Below.alloc ?_ ?_ _) | (with_reducible refine Below.drewN ?_ _) | (with_reducible refine Below.drew ?_) | (with_reducible exact Nat.le_refl _) | (focus (simp only [World.size_alloc, World.size_setCell, World.size_drew, World.size_drewN]; omega)) | omega | exact Nat.le_refl _ | (focus (simp; done)) | (focus (simp; omega))))⟩
set_option maxRecDepth 100000 in
theorem spoil_nil (s : Nm) (n x : Int) (w : World) : Calls Try.prog 45 #[.pointer none, .string ⟨s.toArray⟩, .int .i64 n, .int .u8 x] w fun e w' => e = .returned (errV 15) ∧ Below w.heap.size w w' := by
  have HN := Lib.hid (errV_ne (k := 15) (by omega))
  go_enter Try.func45, Try.ntmps45
  go_wp2_with fail
  refine (find_nil s _).mono ?_
  rintro e w1 ⟨rfl, rfl⟩
  rw [HN.out]
  go_wp2_with fail
  go_ret
  exact ⟨by rw [HN.out]; rfl, (by repeat (first | (with_reducible exact Below.refl _ _) | (with_reducible refine Below.setCell ?_ ?_ _) | (with_reducible refine Below.alloc ?_ ?_ _) | (with_reducible refine Below.drewN ?_ _) | (with_reducible refine Below.drew ?_) | (with_reducible exact Nat.le_refl _) | (focus (simp only [World.size_alloc, World.size_setCell, World.size_drew, World.size_drewN]; omega)) | omega | exact Nat.le_refl _ | (focus (simp; done)) | (focus (simp; omega))))⟩
set_option maxRecDepth 100000 in
theorem read_nil (s : Nm) (n m : Int) (w : World) : Calls Try.prog 21 #[.pointer none, .string ⟨s.toArray⟩, .int .i64 n, .int .i64 m] w fun e w' => e = .returned (.tuple #[.slice none 0 0, errV 15]) ∧ Below w.heap.size w w' := by
  have HN := Lib.hid (errV_ne (k := 15) (by omega))
  go_enter Try.func21, Try.ntmps21
  go_wp2_with fail
  refine (find_nil s _).mono ?_
  rintro e w1 ⟨rfl, rfl⟩
  rw [HN.out]
  go_wp2_with fail
  go_ret2
  exact ⟨by rw [HN.out]; rfl, (by repeat (first | (with_reducible exact Below.refl _ _) | (with_reducible refine Below.setCell ?_ ?_ _) | (with_reducible refine Below.alloc ?_ ?_ _) | (with_reducible refine Below.drewN ?_ _) | (with_reducible refine Below.drew ?_) | (with_reducible exact Nat.le_refl _) | (focus (simp only [World.size_alloc, World.size_setCell, World.size_drew, World.size_drewN]; omega)) | omega | exact Nat.le_refl _ | (focus (simp; done)) | (focus (simp; omega))))⟩
set_option maxRecDepth 100000 in
theorem size_nil (s : Nm) (w : World) : Calls Try.prog 20 #[.pointer none, .string ⟨s.toArray⟩] w fun e w' => e = .returned (.tuple #[.int .i64 0, errV 15]) ∧ Below w.heap.size w w' := by
  have HN := Lib.hid (errV_ne (k := 15) (by omega))
  go_enter Try.func20, Try.ntmps20
  go_wp2_with fail
  refine (find_nil s _).mono ?_
  rintro e w1 ⟨rfl, rfl⟩
  rw [HN.out]
  go_wp2_with fail
  go_ret2
  exact ⟨by rw [HN.out]; rfl, (by repeat (first | (with_reducible exact Below.refl _ _) | (with_reducible refine Below.setCell ?_ ?_ _) | (with_reducible refine Below.alloc ?_ ?_ _) | (with_reducible refine Below.drewN ?_ _) | (with_reducible refine Below.drew ?_) | (with_reducible exact Nat.le_refl _) | (focus (simp only [World.size_alloc, World.size_setCell, World.size_drew, World.size_drewN]; omega)) | omega | exact Nat.le_refl _ | (focus (simp; done)) | (focus (simp; omega))))⟩
theorem crash_nil (n : Int) (a : Option Addr) (m c : Nat) (w : World) : Calls Try.prog 18 #[.pointer none, .agg #[.int .i64 n, .slice a m c]] w fun e w' => e = .returned (errV 15) ∧ Below w.heap.size w w' := by
  go_enter Try.func18, Try.ntmps18
  go_wp2_with fail
  go_ret
  exact ⟨rfl, (by repeat (first | (with_reducible exact Below.refl _ _) | (with_reducible refine Below.setCell ?_ ?_ _) | (with_reducible refine Below.alloc ?_ ?_ _) | (with_reducible refine Below.drewN ?_ _) | (with_reducible refine Below.drew ?_) | (with_reducible exact Nat.le_refl _) | (focus (simp only [World.size_alloc, World.size_setCell, World.size_drew, World.size_drewN]; omega)) | omega | exact Nat.le_refl _ | (focus (simp; done)) | (focus (simp; omega))))⟩
set_option maxRecDepth 100000 in
set_option maxHeartbeats 1000000 in
theorem do07n_0 (w : World) : Calls Try.prog 26 #[.pointer none, .agg #[.int .i64 0, .string ⟨#[97]⟩, .string ⟨#[98]⟩, .slice none 0 0, .int .i64 0, .int .i64 0, .int .i64 0, .slice none 0 0]] w
    fun e w' => e = .returned (.tuple #[.slice none 0 0, .int .i64 0, .int .i64 15]) ∧ Below w.heap.size w w' := by
  go_enter Try.func26, Try.ntmps26
  go_wp2_with fail
  refine (create_nil [97] _).mono ?_
  rintro e w2 ⟨rfl, hb1⟩
  have HB := Lib.hid (show Below w.heap.size w w2 from Below.trans (by repeat (first | (with_reducible exact Below.refl _ _) | (with_reducible refine Below.setCell ?_ ?_ _) | (with_reducible refine Below.alloc ?_ ?_ _) | (with_reducible refine Below.drewN ?_ _) | (with_reducible refine Below.drew ?_) | (with_reducible exact Nat.le_refl _) | (focus (simp only [World.size_alloc, World.size_setCell, World.size_drew, World.size_drewN]; omega)) | omega | exact Nat.le_refl _ | (focus (simp; done)) | (focus (simp; omega)))) (hb1.mono (by simp)))
  clear hb1
  go_wp2_with fail
  refine (code_any 15 (by omega) (by omega) _).mono ?_
  rintro e w3 ⟨rfl, rfl⟩
  go_wp2_with fail
  go_ret3
  exact ⟨rfl, HB.out⟩
set_option maxRecDepth 100000 in
set_option maxHeartbeats 1000000 in
theorem do07n_1 (w : World) : Calls Try.prog 26 #[.pointer none, .agg #[.int .i64 1, .string ⟨#[97]⟩, .string ⟨#[98]⟩, .slice none 0 0, .int .i64 0, .int .i64 0, .int .i64 0, .slice none 0 0]] w
    fun e w' => e = .returned (.tuple #[.slice none 0 0, .int .i64 0, .int .i64 15]) ∧ Below w.heap.size w w' := by
  go_enter Try.func26, Try.ntmps26
  go_wp2_with fail
  refine (append_nil [97] none 0 0 _).mono ?_
  rintro e w2 ⟨rfl, hb1⟩
  have HB := Lib.hid (show Below w.heap.size w w2 from Below.trans (by repeat (first | (with_reducible exact Below.refl _ _) | (with_reducible refine Below.setCell ?_ ?_ _) | (with_reducible refine Below.alloc ?_ ?_ _) | (with_reducible refine Below.drewN ?_ _) | (with_reducible refine Below.drew ?_) | (with_reducible exact Nat.le_refl _) | (focus (simp only [World.size_alloc, World.size_setCell, World.size_drew, World.size_drewN]; omega)) | omega | exact Nat.le_refl _ | (focus (simp; done)) | (focus (simp; omega)))) (hb1.mono (by simp)))
  clear hb1
  go_wp2_with fail
  refine (code_any 15 (by omega) (by omega) _).mono ?_
  rintro e w3 ⟨rfl, rfl⟩
  go_wp2_with fail
  go_ret3
  exact ⟨rfl, HB.out⟩
set_option maxRecDepth 100000 in
set_option maxHeartbeats 1000000 in
theorem do07n_2 (w : World) : Calls Try.prog 26 #[.pointer none, .agg #[.int .i64 2, .string ⟨#[97]⟩, .string ⟨#[98]⟩, .slice none 0 0, .int .i64 0, .int .i64 0, .int .i64 0, .slice none 0 0]] w
    fun e w' => e = .returned (.tuple #[.slice none 0 0, .int .i64 0, .int .i64 15]) ∧ Below w.heap.size w w' := by
  go_enter Try.func26, Try.ntmps26
  go_wp2_with fail
  refine (sync_nil [97] _).mono ?_
  rintro e w2 ⟨rfl, hb1⟩
  have HB := Lib.hid (show Below w.heap.size w w2 from Below.trans (by repeat (first | (with_reducible exact Below.refl _ _) | (with_reducible refine Below.setCell ?_ ?_ _) | (with_reducible refine Below.alloc ?_ ?_ _) | (with_reducible refine Below.drewN ?_ _) | (with_reducible refine Below.drew ?_) | (with_reducible exact Nat.le_refl _) | (focus (simp only [World.size_alloc, World.size_setCell, World.size_drew, World.size_drewN]; omega)) | omega | exact Nat.le_refl _ | (focus (simp; done)) | (focus (simp; omega)))) (hb1.mono (by simp)))
  clear hb1
  go_wp2_with fail
  refine (code_any 15 (by omega) (by omega) _).mono ?_
  rintro e w3 ⟨rfl, rfl⟩
  go_wp2_with fail
  go_ret3
  exact ⟨rfl, HB.out⟩
set_option maxRecDepth 100000 in
set_option maxHeartbeats 1000000 in
theorem do07n_3 (w : World) : Calls Try.prog 26 #[.pointer none, .agg #[.int .i64 3, .string ⟨#[97]⟩, .string ⟨#[98]⟩, .slice none 0 0, .int .i64 0, .int .i64 0, .int .i64 0, .slice none 0 0]] w
    fun e w' => e = .returned (.tuple #[.slice none 0 0, .int .i64 0, .int .i64 15]) ∧ Below w.heap.size w w' := by
  go_enter Try.func26, Try.ntmps26
  go_wp2_with fail
  refine (syncNames_nil _).mono ?_
  rintro e w2 ⟨rfl, hb1⟩
  have HB := Lib.hid (show Below w.heap.size w w2 from Below.trans (by repeat (first | (with_reducible exact Below.refl _ _) | (with_reducible refine Below.setCell ?_ ?_ _) | (with_reducible refine Below.alloc ?_ ?_ _) | (with_reducible refine Below.drewN ?_ _) | (with_reducible refine Below.drew ?_) | (with_reducible exact Nat.le_refl _) | (focus (simp only [World.size_alloc, World.size_setCell, World.size_drew, World.size_drewN]; omega)) | omega | exact Nat.le_refl _ | (focus (simp; done)) | (focus (simp; omega)))) (hb1.mono (by simp)))
  clear hb1
  go_wp2_with fail
  refine (code_any 15 (by omega) (by omega) _).mono ?_
  rintro e w3 ⟨rfl, rfl⟩
  go_wp2_with fail
  go_ret3
  exact ⟨rfl, HB.out⟩
set_option maxRecDepth 100000 in
set_option maxHeartbeats 1000000 in
theorem do07n_4 (w : World) : Calls Try.prog 26 #[.pointer none, .agg #[.int .i64 4, .string ⟨#[97]⟩, .string ⟨#[98]⟩, .slice none 0 0, .int .i64 0, .int .i64 0, .int .i64 0, .slice none 0 0]] w
    fun e w' => e = .returned (.tuple #[.slice none 0 0, .int .i64 0, .int .i64 15]) ∧ Below w.heap.size w w' := by
  go_enter Try.func26, Try.ntmps26
  go_wp2_with fail
  refine (rename_nil [97] [98] _).mono ?_
  rintro e w2 ⟨rfl, hb1⟩
  have HB := Lib.hid (show Below w.heap.size w w2 from Below.trans (by repeat (first | (with_reducible exact Below.refl _ _) | (with_reducible refine Below.setCell ?_ ?_ _) | (with_reducible refine Below.alloc ?_ ?_ _) | (with_reducible refine Below.drewN ?_ _) | (with_reducible refine Below.drew ?_) | (with_reducible exact Nat.le_refl _) | (focus (simp only [World.size_alloc, World.size_setCell, World.size_drew, World.size_drewN]; omega)) | omega | exact Nat.le_refl _ | (focus (simp; done)) | (focus (simp; omega)))) (hb1.mono (by simp)))
  clear hb1
  go_wp2_with fail
  refine (code_any 15 (by omega) (by omega) _).mono ?_
  rintro e w3 ⟨rfl, rfl⟩
  go_wp2_with fail
  go_ret3
  exact ⟨rfl, HB.out⟩
set_option maxRecDepth 100000 in
set_option maxHeartbeats 1000000 in
theorem do07n_5 (w : World) : Calls Try.prog 26 #[.pointer none, .agg #[.int .i64 5, .string ⟨#[97]⟩, .string ⟨#[98]⟩, .slice none 0 0, .int .i64 0, .int .i64 0, .int .i64 0, .slice none 0 0]] w
    fun e w' => e = .returned (.tuple #[.slice none 0 0, .int .i64 0, .int .i64 15]) ∧ Below w.heap.size w w' := by
  go_enter Try.func26, Try.ntmps26
  go_wp2_with fail
  refine (remove_nil [97] _).mono ?_
  rintro e w2 ⟨rfl, hb1⟩
  have HB := Lib.hid (show Below w.heap.size w w2 from Below.trans (by repeat (first | (with_reducible exact Below.refl _ _) | (with_reducible refine Below.setCell ?_ ?_ _) | (with_reducible refine Below.alloc ?_ ?_ _) | (with_reducible refine Below.drewN ?_ _) | (with_reducible refine Below.drew ?_) | (with_reducible exact Nat.le_refl _) | (focus (simp only [World.size_alloc, World.size_setCell, World.size_drew, World.size_drewN]; omega)) | omega | exact Nat.le_refl _ | (focus (simp; done)) | (focus (simp; omega)))) (hb1.mono (by simp)))
  clear hb1
  go_wp2_with fail
  refine (code_any 15 (by omega) (by omega) _).mono ?_
  rintro e w3 ⟨rfl, rfl⟩
  go_wp2_with fail
  go_ret3
  exact ⟨rfl, HB.out⟩
set_option maxRecDepth 100000 in
set_option maxHeartbeats 1000000 in
theorem do07n_6 (w : World) : Calls Try.prog 26 #[.pointer none, .agg #[.int .i64 6, .string ⟨#[97]⟩, .string ⟨#[98]⟩, .slice none 0 0, .int .i64 0, .int .i64 0, .int .i64 0, .slice none 0 0]] w
    fun e w' => e = .returned (.tuple #[.slice none 0 0, .int .i64 0, .int .i64 15]) ∧ Below w.heap.size w w' := by
  go_enter Try.func26, Try.ntmps26
  go_wp2_with fail
  refine (cut_nil [97] 0 _).mono ?_
  rintro e w2 ⟨rfl, hb1⟩
  have HB := Lib.hid (show Below w.heap.size w w2 from Below.trans (by repeat (first | (with_reducible exact Below.refl _ _) | (with_reducible refine Below.setCell ?_ ?_ _) | (with_reducible refine Below.alloc ?_ ?_ _) | (with_reducible refine Below.drewN ?_ _) | (with_reducible refine Below.drew ?_) | (with_reducible exact Nat.le_refl _) | (focus (simp only [World.size_alloc, World.size_setCell, World.size_drew, World.size_drewN]; omega)) | omega | exact Nat.le_refl _ | (focus (simp; done)) | (focus (simp; omega)))) (hb1.mono (by simp)))
  clear hb1
  go_wp2_with fail
  refine (code_any 15 (by omega) (by omega) _).mono ?_
  rintro e w3 ⟨rfl, rfl⟩
  go_wp2_with fail
  go_ret3
  exact ⟨rfl, HB.out⟩
set_option maxRecDepth 100000 in
set_option maxHeartbeats 1000000 in
theorem do07n_7 (w : World) : Calls Try.prog 26 #[.pointer none, .agg #[.int .i64 7, .string ⟨#[97]⟩, .string ⟨#[98]⟩, .slice none 0 0, .int .i64 0, .int .i64 0, .int .i64 0, .slice none 0 0]] w
    fun e w' => e = .returned (.tuple #[.slice none 0 0, .int .i64 0, .int .i64 15]) ∧ Below w.heap.size w w' := by
  go_enter Try.func26, Try.ntmps26
  go_wp2_with fail
  refine (arm_nil 0 _).mono ?_
  rintro e w2 ⟨rfl, hb1⟩
  have HB := Lib.hid (show Below w.heap.size w w2 from Below.trans (by repeat (first | (with_reducible exact Below.refl _ _) | (with_reducible refine Below.setCell ?_ ?_ _) | (with_reducible refine Below.alloc ?_ ?_ _) | (with_reducible refine Below.drewN ?_ _) | (with_reducible refine Below.drew ?_) | (with_reducible exact Nat.le_refl _) | (focus (simp only [World.size_alloc, World.size_setCell, World.size_drew, World.size_drewN]; omega)) | omega | exact Nat.le_refl _ | (focus (simp; done)) | (focus (simp; omega)))) (hb1.mono (by simp)))
  clear hb1
  go_wp2_with fail
  refine (code_any 15 (by omega) (by omega) _).mono ?_
  rintro e w3 ⟨rfl, rfl⟩
  go_wp2_with fail
  go_ret3
  exact ⟨rfl, HB.out⟩
set_option maxRecDepth 100000 in
set_option maxHeartbeats 1000000 in
theorem do07n_8 (w : World) : Calls Try.prog 26 #[.pointer none, .agg #[.int .i64 8, .string ⟨#[97]⟩, .string ⟨#[98]⟩, .slice none 0 0, .int .i64 0, .int .i64 0, .int .i64 0, .slice none 0 0]] w
    fun e w' => e = .returned (.tuple #[.slice none 0 0, .int .i64 0, .int .i64 15]) ∧ Below w.heap.size w w' := by
  go_enter Try.func26, Try.ntmps26
  go_wp2_with fail
  refine (picks_any 0 [] none 0 0 _ rfl (by omega) ⟨by simp, .inl ⟨rfl, rfl⟩⟩).mono ?_
  rintro e w1 ⟨v, rfl, hov, hb0⟩
  obtain ⟨av, cv, rfl⟩ := ownsRow_len hov
  have HB0 := Lib.hid (show Below w.heap.size w w1 from Below.trans (by repeat (first | (with_reducible exact Below.refl _ _) | (with_reducible refine Below.setCell ?_ ?_ _) | (with_reducible refine Below.alloc ?_ ?_ _) | (with_reducible refine Below.drewN ?_ _) | (with_reducible refine Below.drew ?_) | (with_reducible exact Nat.le_refl _) | (focus (simp only [World.size_alloc, World.size_setCell, World.size_drew, World.size_drewN]; omega)) | omega | exact Nat.le_refl _ | (focus (simp; done)) | (focus (simp; omega)))) (hb0.mono (by simp)))
  have hz0 := HB0.out.size
  clear hov hb0
  go_wp2_with fail
  refine (crash_nil _ _ _ _ _).mono ?_
  rintro e w2 ⟨rfl, hb1⟩
  have HB := Lib.hid (HB0.out.trans (hb1.mono hz0))
  clear hb1
  go_wp2_with fail
  refine (code_any 15 (by omega) (by omega) _).mono ?_
  rintro e w3 ⟨rfl, rfl⟩
  go_wp2_with fail
  go_ret3
  exact ⟨rfl, HB.out⟩
set_option maxRecDepth 100000 in
set_option maxHeartbeats 1000000 in
theorem do07n_9 (w : World) : Calls Try.prog 26 #[.pointer none, .agg #[.int .i64 9, .string ⟨#[97]⟩, .string ⟨#[98]⟩, .slice none 0 0, .int .i64 0, .int .i64 0, .int .i64 0, .slice none 0 0]] w
    fun e w' => e = .returned (.tuple #[.slice none 0 0, .int .i64 0, .int .i64 15]) ∧ Below w.heap.size w w' := by
  go_enter Try.func26, Try.ntmps26
  go_wp2_with fail
  refine (spoil_nil [97] 0 0 _).mono ?_
  rintro e w2 ⟨rfl, hb1⟩
  have HB := Lib.hid (show Below w.heap.size w w2 from Below.trans (by repeat (first | (with_reducible exact Below.refl _ _) | (with_reducible refine Below.setCell ?_ ?_ _) | (with_reducible refine Below.alloc ?_ ?_ _) | (with_reducible refine Below.drewN ?_ _) | (with_reducible refine Below.drew ?_) | (with_reducible exact Nat.le_refl _) | (focus (simp only [World.size_alloc, World.size_setCell, World.size_drew, World.size_drewN]; omega)) | omega | exact Nat.le_refl _ | (focus (simp; done)) | (focus (simp; omega)))) (hb1.mono (by simp)))
  clear hb1
  go_wp2_with fail
  refine (code_any 15 (by omega) (by omega) _).mono ?_
  rintro e w3 ⟨rfl, rfl⟩
  go_wp2_with fail
  go_ret3
  exact ⟨rfl, HB.out⟩
set_option maxRecDepth 100000 in
set_option maxHeartbeats 1000000 in
theorem do07n_10 (w : World) : Calls Try.prog 26 #[.pointer none, .agg #[.int .i64 10, .string ⟨#[97]⟩, .string ⟨#[98]⟩, .slice none 0 0, .int .i64 0, .int .i64 0, .int .i64 0, .slice none 0 0]] w
    fun e w' => e = .returned (.tuple #[.slice none 0 0, .int .i64 0, .int .i64 15]) ∧ Below w.heap.size w w' := by
  go_enter Try.func26, Try.ntmps26
  go_wp2_with fail
  refine (read_nil [97] 0 0 _).mono ?_
  rintro e w2 ⟨rfl, hb1⟩
  have HB := Lib.hid (show Below w.heap.size w w2 from Below.trans (by repeat (first | (with_reducible exact Below.refl _ _) | (with_reducible refine Below.setCell ?_ ?_ _) | (with_reducible refine Below.alloc ?_ ?_ _) | (with_reducible refine Below.drewN ?_ _) | (with_reducible refine Below.drew ?_) | (with_reducible exact Nat.le_refl _) | (focus (simp only [World.size_alloc, World.size_setCell, World.size_drew, World.size_drewN]; omega)) | omega | exact Nat.le_refl _ | (focus (simp; done)) | (focus (simp; omega)))) (hb1.mono (by simp)))
  clear hb1
  go_wp2_with fail
  refine (code_any 15 (by omega) (by omega) _).mono ?_
  rintro e w3 ⟨rfl, rfl⟩
  go_wp2_with fail
  go_ret3
  exact ⟨rfl, HB.out⟩
set_option maxRecDepth 100000 in
set_option maxHeartbeats 1000000 in
theorem do07n_11 (w : World) : Calls Try.prog 26 #[.pointer none, .agg #[.int .i64 11, .string ⟨#[97]⟩, .string ⟨#[98]⟩, .slice none 0 0, .int .i64 0, .int .i64 0, .int .i64 0, .slice none 0 0]] w
    fun e w' => e = .returned (.tuple #[.slice none 0 0, .int .i64 0, .int .i64 15]) ∧ Below w.heap.size w w' := by
  go_enter Try.func26, Try.ntmps26
  go_wp2_with fail
  refine (size_nil [97] _).mono ?_
  rintro e w2 ⟨rfl, hb1⟩
  have HB := Lib.hid (show Below w.heap.size w w2 from Below.trans (by repeat (first | (with_reducible exact Below.refl _ _) | (with_reducible refine Below.setCell ?_ ?_ _) | (with_reducible refine Below.alloc ?_ ?_ _) | (with_reducible refine Below.drewN ?_ _) | (with_reducible refine Below.drew ?_) | (with_reducible exact Nat.le_refl _) | (focus (simp only [World.size_alloc, World.size_setCell, World.size_drew, World.size_drewN]; omega)) | omega | exact Nat.le_refl _ | (focus (simp; done)) | (focus (simp; omega)))) (hb1.mono (by simp)))
  clear hb1
  go_wp2_with fail
  refine (code_any 15 (by omega) (by omega) _).mono ?_
  rintro e w3 ⟨rfl, rfl⟩
  go_wp2_with fail
  go_ret3
  exact ⟨rfl, HB.out⟩
theorem do07n (k : Nat) (hk : k < 12) (w : World) : Calls Try.prog 26 #[.pointer none, .agg #[.int .i64 k, .string ⟨#[97]⟩, .string ⟨#[98]⟩, .slice none 0 0, .int .i64 0, .int .i64 0, .int .i64 0, .slice none 0 0]] w
    fun e w' => e = .returned (.tuple #[.slice none 0 0, .int .i64 0, .int .i64 15]) ∧ Below w.heap.size w w' := by
  match k, hk with
  | 0, _ => exact do07n_0 w
  | 1, _ => exact do07n_1 w
  | 2, _ => exact do07n_2 w
  | 3, _ => exact do07n_3 w
  | 4, _ => exact do07n_4 w
  | 5, _ => exact do07n_5 w
  | 6, _ => exact do07n_6 w
  | 7, _ => exact do07n_7 w
  | 8, _ => exact do07n_8 w
  | 9, _ => exact do07n_9 w
  | 10, _ => exact do07n_10 w
  | 11, _ => exact do07n_11 w
end Go.Proofs.Ytcicnjlkcbimgaa
