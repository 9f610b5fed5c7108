/- corncriblaw07.Far. -/
import Derived.Test.YtcicnjlkcbimgaaOpenAct7
namespace Go.Proofs.Ytcicnjlkcbimgaa
open Go.RowKit
theorem any_take {α : Type} {p : α → Bool} {l : List α} {k : Nat} {x : α} (hx : l[k]? = some x) (h : p x = false) (hk : (l.take k).any p = false) : (l.take (k + 1)).any p = false := by
  rw [take_snoc_at l k x hx, List.any_append, hk]
  simp [h]
set_option maxRecDepth 100000 in
set_option maxHeartbeats 4000000 in
theorem far_any (a : Option Addr) (n c : Nat) (l : List AArg) (w : World) (hl : l.length = n) (hr : Reads w 8 (.slice a n c) n (l.flatMap AArg.row)) :
    Calls Try.prog 23 #[.slice a n c] w fun e w' => e = .returned (.bool (farB l)) ∧ w = w' := by
  by_cases h60 : 60 < n
  · have hf : farB l = true := by unfold farB; rw [decide_eq_true (by omega)]; rfl
    have h1 : (60 : Int) < (n : Int) := by omega
    rw [hf]
    clear hr hf
    go_enter Try.func23, Try.ntmps23
    go_wp2_with fail
    go_ret
    exact ⟨rfl, rfl⟩
  · have h1 : decide ((60 : Int) < (n : Int)) = false := by simp; omega
    have HL := Lib.hid hl
    have HR := Lib.hid hr
    have HF := Lib.hid (show farB l = l.any badAct by unfold farB; rw [decide_eq_false (by omega)]; rfl)
    clear hl hr
    go_enter Try.func23, Try.ntmps23
    go_wp2_with fail
    go_loopw [3] (fun i wr => ∃ k : Nat, k ≤ n ∧ i = .int .i64 k ∧ (l.take k).any badAct = false ∧ w = wr) (fun i _ => n - (intOf i).toNat)
    case atStart => exact ⟨0, Nat.zero_le _, rfl, by simp, rfl⟩
    case round =>
      obtain ⟨k, hk, rfl, hb, rfl⟩ := hrel
      have HB := Lib.hid hb
      clear hb
      by_cases hlt : k < n
      · obtain ⟨x, hx⟩ : ∃ x, l[k]? = some x := ⟨_, List.getElem?_eq_getElem (by rw [HL.out]; exact hlt)⟩
        obtain ⟨b, o, cc, e, hbl, x0, x1, x2, x3, x4, x5, x6, x7⟩ := act_cells HR.out hx (by omega)
        obtain ⟨rfl, -, rfl⟩ := sl_inj e
        have HX := Lib.hid hx
        have hbad : badAct x = true → l.any badAct = true := fun h => List.any_eq_true.2 ⟨x, List.mem_of_getElem? hx, h⟩
        have HBAD := Lib.hid hbad
        have hk0 : (0 : Int) ≤ (k : Int) := by omega
        have hk1 : (k : Int) < (n : Int) := by omega
        clear hx e hbad x4 x5 x6
        obtain ⟨⟨kd, nm, to, bs, nn, mm, ⟨pn, fs⟩⟩, ab, cb, af, cf⟩ := x
        simp only at x0 x1 x2 x3 x7
        by_cases t1 : 300 < bs.length
        · have g1 : (300 : Int) < (bs.length : Int) := by omega
          go_wp2_with fail
          go_ret
          exact ⟨by rw [HF.out, HBAD.out (by simp [badAct, t1])]; rfl, rfl⟩
        have g1 : decide ((300 : Int) < (bs.length : Int)) = false := by simp; omega
        by_cases t2 : 60 < nm.length
        · have g2 : (60 : Int) < (nm.length : Int) := by omega
          go_wp2_with fail
          go_ret
          exact ⟨by rw [HF.out, HBAD.out (by simp [badAct, t2])]; rfl, rfl⟩
        have g2 : decide ((60 : Int) < (nm.length : Int)) = false := by simp; omega
        by_cases t3 : 60 < to.length
        · have g3 : (60 : Int) < (to.length : Int) := by omega
          go_wp2_with fail
          go_ret
          exact ⟨by rw [HF.out, HBAD.out (by simp [badAct, t3])]; rfl, rfl⟩
        have g3 : decide ((60 : Int) < (to.length : Int)) = false := by simp; omega
        by_cases t4 : 100 < fs.length
        · have g4 : (100 : Int) < (fs.length : Int) := by omega
          go_wp2_with fail
          go_ret
          exact ⟨by rw [HF.out, HBAD.out (by simp [badAct, t4])]; rfl, rfl⟩
        have g4 : decide ((100 : Int) < (fs.length : Int)) = false := by simp; omega
        by_cases t5 : kd < 0
        · go_wp2_with fail
          go_ret
          exact ⟨by rw [HF.out, HBAD.out (by simp [badAct, t5])]; rfl, rfl⟩
        have g5 : decide (kd < 0) = false := by simp; omega
        by_cases t6 : 11 < kd
        · go_wp2_with fail
          go_ret
          exact ⟨by rw [HF.out, HBAD.out (by simp [badAct, t6])]; rfl, rfl⟩
        have g6 : decide (11 < kd) = false := by simp; omega
        have HGO := Lib.hid (any_take HX.out (show badAct ⟨⟨kd, nm, to, bs, nn, mm, ⟨pn, fs⟩⟩, ab, cb, af, cf⟩ = false by simp [badAct]; omega) HB.out)
        go_wp2_with fail
        go_roundw
        case rel => exact ⟨k + 1, by omega, by go_num, HGO.out, trivial⟩
        case measure => simp [intOf]; omega
      · have hkn : l.take k = l := List.take_of_length_le (by rw [HL.out]; omega)
        rw [hkn] at HB
        clear hkn
        go_wp2_with fail
        go_ret
        exact ⟨by rw [HF.out, HB.out]; rfl, rfl⟩
end Go.Proofs.Ytcicnjlkcbimgaa
