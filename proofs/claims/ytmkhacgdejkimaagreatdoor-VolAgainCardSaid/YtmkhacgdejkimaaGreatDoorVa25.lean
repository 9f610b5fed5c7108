/- Joined texts. -/
import Derived.Test.YtmkhacgdejkimaaGreatDoorVa21
import Derived.Test.YtmkhacgdejkimaaGreatDoorVa2
import Derived.Test.YtmkhacgdejkimaaGreatDoorRows
/- Reference 09: Do, Keys. (Written by wip/genref09k.py.) -/
namespace Go.Proofs.YtmkhacgdejkimaaGreatDoor
open Go.RowKit
def keysFrom (l : List Ps) (key : Nat) (m : Int) : List Ps := if m < 1 then [] else (l.drop (ixAt l key)).take m.toNat
end Go.Proofs.YtmkhacgdejkimaaGreatDoor

/- Reference 09: Do, any call. -/
namespace Go.Proofs.YtmkhacgdejkimaaGreatDoor
open Go.RowKit
def Rv.gotN (v : Rv) (a : VAct) : Option Nd := if a.kind = 2 then (if v.look a.n.key a.n.cookie = 0 then lastOf v.d a.n.key else none) else none
def Rv.gotK (v : Rv) (a : VAct) : List Ps := if a.kind = 3 then keysFrom v.l a.n.key a.m else []
end Go.Proofs.YtmkhacgdejkimaaGreatDoor
/- Reference 03: Same. -/
namespace Go.Proofs.YtmkhacgdejkimaaGreatDoor
set_option maxRecDepth 100000
set_option maxHeartbeats 8000000
open Go.RowKit
end Go.Proofs.YtmkhacgdejkimaaGreatDoor

/- Law 05: To; reference 05: Same, of the same positions. -/
namespace Go.Proofs.YtmkhacgdejkimaaGreatDoor
set_option maxRecDepth 100000
set_option maxHeartbeats 8000000
open Go.RowKit
theorem to05_any (a : Option Addr) (n c : Nat) (l : List Ps) (w : World) (hn : l.length = n) (h : Reads w 5 (.slice a n c) n (l.flatMap psC)) (hf : n ≤ 100000) :
    Calls Tryz.prog 43 #[.slice a n c] w fun e w' => ∃ v', e = .returned v' ∧ w'.ownsRow w.heap.size 127 5 v' n (l.flatMap psC) ∧ Below w.heap.size w w' := by
  obtain ⟨i0, hi, hzz0, hzz1, hzz2⟩ := info_parts p05info
  have HI := Lib.hid hi
  have HZ0 := Lib.hid hzz0
  have HZ1 := Lib.hid hzz1
  have HZ2 := Lib.hid hzz2
  have HN := Lib.hid hn
  have HR := Lib.hid h
  clear hn h hi hzz0 hzz1 hzz2
  go_enter Tryz.func43, Tryz.ntmps43
  go_wp2_with fail
  go_loopw [3, 4] (fun s i wr => ∃ (k : Nat) (aL : Option Addr) (cL : Nat), k ≤ n ∧ i = .int .i64 k ∧ s = .slice aL k cL ∧ wr.ownsRow w.heap.size 127 5 (.slice aL k cL) k ((l.take k).flatMap psC) ∧ Below w.heap.size w wr) (fun _ i _ => n - (intOf i).toNat)
  case atStart => exact ⟨0, none, 0, Nat.zero_le _, rfl, rfl, World.ownsRow_nil _ _ _ _, Below.refl _ _⟩
  case round =>
    obtain ⟨k, aL, cL, hk, rfl, rfl, hrw, hbr⟩ := hrel
    have HRW := Lib.hid hrw
    have HBR := Lib.hid hbr
    have hzr := hbr.size
    clear hrw hbr
    by_cases hlt : k < n
    · obtain ⟨x, hx⟩ : ∃ x, l[k]? = some x := ⟨_, List.getElem?_eq_getElem (by rw [HN.out]; exact hlt)⟩
      obtain ⟨b, o, c', e, hb, r0, r1, r2, r3, r4⟩ := ps_cells (HR.out.below HBR.out) hx (by omega)
      obtain ⟨rfl, -, rfl⟩ := sl_inj e
      have HX := Lib.hid hx
      have hj0 : (0 : Int) ≤ (k : Int) := by omega
      have hj1 : (k : Int) < (n : Int) := by omega
      clear hx e
      obtain ⟨xk, xo, xl, xc, xg⟩ := x
      simp only at r0 r1 r2 r3 r4
      go_wp2_with (at_builtin; refine wpList_append_lies _ rfl _ _ 27 rfl w.heap.size 127 i0 (.agg #[.int .u64 0, .int .i64 0, .int .i64 0, .int .u32 0, .bool false]) 5 32 Tryz.underlying27 HI.out HZ0.out HZ1.out HZ2.out rfl (by decide) (.slice aL k cL) k ((l.take k).flatMap psC) rfl (ownsRow_below HRW.out (by repeat (first | (with_reducible first | exact .refl _ _ | refine .setCell ?_ ?_ _ | refine .alloc ?_ ?_ _ | refine .drewN ?_ _ | refine .drew ?_ | exact Nat.le_refl _) | (focus (simp only [World.size_alloc, World.size_setCell, World.size_drew, World.size_drewN]; omega)) | omega | exact Nat.le_refl _ | (focus (simp; done)) | (focus (simp; omega))))) ⟨wr.heap.size, 0, none⟩ 1 1 [.int .u64 xk, .int .i64 xo, .int .i64 xl, .int .u32 xc, .bool xg] rfl rfl (World.news_of_block (cs := #[.int .u64 xk, .int .i64 xo, .int .i64 xl, .int .u32 xc, .bool xg]) (t := 127) (fr := (0, 0)) (heap_new wr _)) (by simp [Value.oneCell']) (by omega) (by unfold maxLen; omega) (by omega) (by simp; omega) _ rfl ?_; intro g' cap' w6 hown hgrow hat hlt6; have HG6 := Lib.hid hgrow; have HO6 := Lib.hid hown; have hz6 := hgrow.size; simp only [World.size_alloc] at hz6; clear hgrow hown hat)
      go_roundw
      case rel =>
        refine ⟨k + 1, some ⟨g', 0, none⟩, cap', by omega, by go_num, rfl, ?_, ?_⟩
        · refine ownsRow_cast HO6.out rfl ?_
          rw [List.take_add_one, HX.out, List.flatMap_append]
          simp [psC]
        · exact Below.grown (HBR.out.alloc hzr _) HG6.out (by simp; omega) (fun g e => (HRW.out.lt g e).1)
      case measure => simp [intOf]; omega
    · have hj1 : ¬ (k : Int) < (n : Int) := by omega
      have hj2 : decide ((k : Int) < (n : Int)) = false := by simp; omega
      have hj3 : decide (k < n) = false := by simp; omega
      have HKN := Lib.hid (show k = n by omega)
      go_wp2_with fail
      go_ret
      refine ⟨_, rfl, ?_, HBR.out⟩
      have h1 := HRW.out
      rw [List.take_of_length_le (by rw [HN.out, HKN.out]; exact Nat.le_refl _)] at h1
      rw [← HKN.out]
      exact h1
theorem same05_any (a : Option Addr) (n c : Nat) (a2 : Option Addr) (c2 : Nat) (l : List Ps) (w : World) (hn : l.length = n) (h : Reads w 5 (.slice a n c) n (l.flatMap psC)) (h2 : Reads w 5 (.slice a2 n c2) n (l.flatMap psC)) :
    Calls Tryz.prog 42 #[.slice a n c, .slice a2 n c2] w fun e w' => e = .returned (.bool true) ∧ Below w.heap.size w w' := by
  have HN := Lib.hid hn
  have HR := Lib.hid h
  have HR2 := Lib.hid h2
  have hle := h.le
  unfold maxLen at hle
  clear hn h h2
  go_enter Tryz.func42, Tryz.ntmps42
  go_wp2_with fail
  go_loopw [5] (fun i wr => ∃ k : Nat, k ≤ n ∧ i = .int .i64 k ∧ Below w.heap.size w wr) (fun i _ => n - (intOf i).toNat)
  case atStart => exact ⟨0, Nat.zero_le _, rfl, Below.refl _ _⟩
  case round =>
    obtain ⟨k, hk, rfl, hbr⟩ := hrel
    have HBR := Lib.hid hbr
    have hzr := hbr.size
    clear hbr
    by_cases hlt : k < n
    · obtain ⟨x, hx⟩ : ∃ x, l[k]? = some x := ⟨_, List.getElem?_eq_getElem (by rw [HN.out]; exact hlt)⟩
      obtain ⟨b, o, c', e, hb, r0, r1, r2, r3, r4⟩ := ps_cells (HR.out.below HBR.out) hx (by omega)
      obtain ⟨b2, o2, c2', e2, hb2, q0, q1, q2, q3, q4⟩ := ps_cells (HR2.out.below HBR.out) hx (by omega)
      obtain ⟨rfl, -, rfl⟩ := sl_inj e
      obtain ⟨rfl, -, rfl⟩ := sl_inj e2
      have hj0 : (0 : Int) ≤ (k : Int) := by omega
      have hj1 : (k : Int) < (n : Int) := by omega
      clear hx e e2
      obtain ⟨xk, xo, xl, xc, xg⟩ := x
      simp only at r0 r1 r2 r3 r4 q0 q1 q2 q3 q4
      go_upto_region 6 with fail
      refine wp_region_mask0 (fun w1 => w1 = _) [3, 7] [0, 0, 3, 7, 0, 0, 48, 112, 255] (.op 0 0 (.op 1 0 (.op 2 0 (.op 3 2 (.op 4 0 (.op 5 0 (.op 6 0 (.op 7 2 (.op 8 0 .nil))))))))) (by kernel_rfl) (by kernel_rfl) rfl (by kernel_rfl) (by kernel_rfl) rfl ?_
      refine stepM0 rfl rfl fun K hK => ?_; go_simp; refine hK _ ?_; clear hK K; refine stepM0 rfl rfl fun K hK => ?_; go_simp; refine hK _ ?_; clear hK K; refine stepM0 rfl rfl fun K hK => ?_; go_simp; refine hK _ ?_; clear hK K; refine stepM2 rfl rfl ?_ (fun w1 hS => ?_) fun K hK => ?_; rotate_left; (focus (obtain rfl : w1 = _ := hS; go_simp; rfl)); go_simp; refine hK _ ?_; clear hK K; refine stepM0 rfl rfl fun K hK => ?_; go_simp; refine hK _ ?_; clear hK K; refine stepM0 rfl rfl fun K hK => ?_; go_simp; refine hK _ ?_; clear hK K; refine stepM0 rfl rfl fun K hK => ?_; go_simp; refine hK _ ?_; clear hK K; refine stepM2 rfl rfl ?_ (fun w1 hS => ?_) fun K hK => ?_; rotate_left; (focus (obtain rfl : w1 = _ := hS; go_simp; rfl)); go_simp; refine hK _ ?_; clear hK K; refine stepM0 rfl rfl fun K hK => ?_; go_simp; refine hK _ ?_; clear hK K
      try refine stepMnil0 ?_
      go_wp2_with fail
      go_roundw
      case rel => exact ⟨k + 1, by omega, by go_num, Below.drew HBR.out⟩
      case measure => simp [intOf]; omega
    · have hj1 : ¬ (k : Int) < (n : Int) := by omega
      have hj2 : decide ((k : Int) < (n : Int)) = false := by simp; omega
      have hj3 : decide (k < n) = false := by simp; omega
      go_wp2_with fail
      go_ret
      exact ⟨rfl, HBR.out⟩
end Go.Proofs.YtmkhacgdejkimaaGreatDoor
