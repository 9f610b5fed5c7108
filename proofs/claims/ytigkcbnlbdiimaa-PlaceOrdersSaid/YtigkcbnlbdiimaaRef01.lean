/- corncribref01.Bytes. -/
import Derived.Test.YtigkcbnlbdiimaaDirs7
import Derived.OwnWalk
namespace Go.Proofs.Ytigkcbnlbdiimaa
open Go.RowKit
/-- The first k of the bytes of a number, the others 0. -/
def someBytes (n k size : Nat) : List UInt8 := (List.range size).map fun j => if j < k then nthByte n j else 0
theorem someBytes_all (n size : Nat) : someBytes n size size = (List.range size).map (nthByte n) := by
  unfold someBytes
  apply List.map_congr_left
  intro j hj
  rw [if_pos (List.mem_range.1 hj)]
theorem someBytes_set (n k size : Nat) (hk : k < size) : ((someBytes n k size).map bv).set k (bv (nthByte n k)) = (someBytes n (k + 1) size).map bv := by
  apply List.ext_getElem?
  intro j
  by_cases hj : j = k
  · subst hj
    simp [someBytes, hk]
  · rw [List.getElem?_set_ne (by omega)]
    by_cases hl : j < size
    · have e : (j < k + 1) = (j < k) := by simp; omega
      simp [someBytes, hl, e]
    · simp [someBytes, hl]
theorem nth_div (n k : Nat) : (nthByte n k).toNat = n / 256 ^ k % 256 := by
  unfold nthByte
  rw [UInt8.toNat_ofNat']
set_option maxRecDepth 100000 in
set_option maxHeartbeats 2000000 in
theorem bytes01_any (n : Nat) (s : Int) (size : Nat) (w : World) (hn : n < 18446744073709551616) (hs : s = (size : Int)) (hsz : size ≤ 1000) :
    Calls Try.prog 70 #[.int .u64 n, .int .i64 s] w
      fun e w' => e = .returned (.tuple #[.slice (some ⟨w.heap.size, 0, none⟩) size size, .bool (((n / 256 ^ size : Nat) : Int) == 0)]) ∧ w'.ownsRow w.heap.size 5 1 (.slice (some ⟨w.heap.size, 0, none⟩) size size) size (((List.range size).map (nthByte n)).map bv) ∧ Below w.heap.size w w' := by
  subst hs
  obtain ⟨i0, hi, hz0, hz1, hz2⟩ := info_parts byte_info
  have HI := Lib.hid hi
  have HZ0 := Lib.hid hz0
  have HZ1 := Lib.hid hz1
  have HZ2 := Lib.hid hz2
  clear hi hz0 hz1 hz2
  go_enter Try.func70, Try.ntmps70
  go_wp2_with (refine wpList_make_full _ rfl _ _ 44 rfl w.heap.size 5 i0 (.int .u8 0) 1 Try.underlying44 HI.out HZ0.out HZ1.out .i64 .i64 _ _ size rfl rfl rfl rfl (by rw [HZ2.out]; omega) (by unfold maxLen; omega) (Nat.le_refl _) ?_; intro w1 hown hgrow; have HO := Lib.hid hown; have HG := Lib.hid hgrow; clear hown hgrow)
  go_loopw [0, 7] (fun x i wr => ∃ k : Nat, k ≤ size ∧ i = .int .i64 k ∧ x = .int .u64 ((n / 256 ^ k : Nat) : Int) ∧ wr.ownsRow w.heap.size 5 1 (.slice (some ⟨w.heap.size, 0, none⟩) size size) size ((someBytes n k size).map bv) ∧ Below w.heap.size w wr) (fun _ i _ => size - (intOf i).toNat)
  case atStart =>
    refine ⟨0, Nat.zero_le _, rfl, by simp, ownsRow_cast HO.out rfl ?_, Below.grown (Below.refl _ _) HG.out (Nat.le_refl _) (fun _ h => by cases h)⟩
    show (madeCells #[.int .u8 0] (size * 1)).toList = _
    rw [toList_madeCells_one]
    apply List.ext_getElem
    · simp [someBytes]
    · intro i h1 h2
      simp [someBytes, bv]
  case round =>
    obtain ⟨k, hk, rfl, rfl, hown, hb⟩ := hrel
    have HO' := Lib.hid hown
    have HB := Lib.hid hb
    have kf := hown.frozenAt k
    have hzb := hb.size
    clear HO
    have hq : n / 256 ^ k < 18446744073709551616 := Nat.lt_of_le_of_lt (Nat.div_le_self _ _) hn
    have HNX := Lib.hid (show n / 256 ^ k / 256 = n / 256 ^ (k + 1) by rw [Nat.div_div_eq_div_mul, Nat.pow_succ])
    have HNB := Lib.hid (nth_div n k)
    by_cases hlt : k < size
    · have kc := hown.cellAt k (by omega)
      rw [List.getElem?_eq_getElem (by simp [someBytes]; omega)] at kc
      generalize ((someBytes n k size).map bv)[k]'_ = old at kc
      clear hown hb
      generalize n / 256 ^ k = q at *
      go_wp2
      refine ⟨⟨k + 1, by omega, by go_num, by rw [← HNX.out]; simp, ?_, HB.out.setCell (Nat.le_refl _) _⟩, by simp [intOf]; omega⟩
      have h := (HO'.out.stored k (bv (nthByte n k))).1
      rw [someBytes_set n k size hlt] at h
      have e : bv (nthByte n k) = .int .u8 ((q : Int) % 256) := by unfold bv; rw [HNB.out]; simp
      rw [e] at h
      exact h
    · clear hown hb
      have hks : k = size := by omega
      subst hks
      generalize hq0 : n / 256 ^ k = q at *
      have HQ := Lib.hid hq0
      clear hq0
      go_wp2
      go_ret2
      exact ⟨by rw [HQ.out]; rfl, by rw [← someBytes_all]; exact HO'.out, HB.out⟩
end Go.Proofs.Ytigkcbnlbdiimaa
