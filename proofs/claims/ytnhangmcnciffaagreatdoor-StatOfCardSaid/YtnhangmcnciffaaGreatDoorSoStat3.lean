/- Reference 26.Of. -/
import Derived.Test.YtnhangmcnciffaaGreatDoorSo21
import Derived.Test.YtnhangmcnciffaaGreatDoorSo19
namespace Go.Proofs.YtnhangmcnciffaaGreatDoor
set_option maxRecDepth 100000
set_option maxHeartbeats 8000000
open Go.RowKit
theorem tdiv_small {a s B : Int} (ha : -B ≤ a ∧ a ≤ B) : -B ≤ a.tdiv s ∧ a.tdiv s ≤ B := by
  have h1 : (a.tdiv s).natAbs = a.natAbs / s.natAbs := Int.natAbs_tdiv a s
  have h2 : a.natAbs / s.natAbs ≤ a.natAbs := Nat.div_le_self _ _
  omega
def oneI (num size L : Int) : Value := .agg #[.int .i64 num, .int .i64 size, .int .i64 L, .int .i64 (size - L), .int .i64 (shareI (size - L) size)]
theorem rof26_any (P : Nat → Prop) (v : Rv) (al : Option Addr) (cl : Nat) (ad : Option Addr) (cd : Nat) (xs : List NdE) (w : World) (h : RvAt w P v al cl ad cd xs) (hp : ∀ p ∈ v.l, p.len ≤ 4096) (hf : v.l.length ≤ 4096) (hs : 1 ≤ v.size ∧ v.size ≤ 100000000) (hl : leastN v.l ≤ 100000000) :
    Calls Tryz.prog 13 #[rvV v al cl ad cd] w fun e w' => e = .returned (oneI v.num v.size (leastN v.l)) ∧ Below w.heap.size w w' := by
  have HLS := Lib.hid (fun (w0 : World) (hb : Below w.heap.size w w0) => rleast11_any (POld P w) v al cl ad cd xs w0 (h.old hb) hp hf)
  have hlt : w.heap.size = w.heap.size := rfl
  unfold oneI
  obtain ⟨L, hL⟩ : ∃ L, L = leastN v.l := ⟨_, rfl⟩
  rw [← hL] at HLS hl ⊢
  unfold rvV at HLS ⊢
  obtain ⟨num, most, epoch, size, shut, l, dd⟩ := v
  simp only at HLS hs ⊢
  have HE := Lib.hid (show shareI ((size : Int) - (L : Int)) size = (((size : Int) - (L : Int)) * 1000).tdiv size from if_neg (by omega))
  rw [HE.out]
  obtain ⟨ln, hln⟩ : ∃ ln, ln = l.length := ⟨_, rfl⟩
  obtain ⟨dn, hdn⟩ : ∃ dn, dn = dd.length := ⟨_, rfl⟩
  rw [← hln, ← hdn] at HLS
  rw [← hln, ← hdn]
  clear h hp hL hf hln hdn hlt
  go_enter Tryz.func13, Tryz.ntmps13
  go_upto_region 1 with fail
  obtain ⟨w0, hw0⟩ : ∃ w0 : World, w0 = (w.alloc (.cells #[.int .i64 num, .int .i64 most, .int .i64 epoch, .int .i64 size, .bool shut, .slice al ln cl, .slice ad dn cd] 30)).alloc (.cells #[.int .i64 0, .int .i64 0, .int .i64 0, .int .i64 0, .int .i64 0] 39) := ⟨_, rfl⟩
  have HB0 := Lib.hid (show Below w.heap.size w w0 by rw [hw0]; exact (by repeat (first | (with_reducible first | exact .refl _ _ | refine .setCell ?_ ?_ _ | refine .alloc ?_ ?_ _ | refine .drewN ?_ _ | refine .drew ?_ | exact Nat.le_refl _) | (focus (simp only [World.size_alloc, World.size_setCell, World.size_drew, World.size_drewN]; omega)) | omega | exact Nat.le_refl _ | (focus (simp; done)) | (focus (simp; omega)))))
  have KV0 := Lib.hid (show w0.heap[w.heap.size]? = some (.cells #[.int .i64 num, .int .i64 most, .int .i64 epoch, .int .i64 size, .bool shut, .slice al ln cl, .slice ad dn cd] 30 (0, 0)) by rw [hw0]; exact (by repeat (first | (with_reducible refine blk_drew ?_) | (with_reducible refine blk_drewN _ ?_) | ((with_reducible refine blk_new _ ?_); (focus (simp; done))) | (with_reducible refine blk_alloc ?_ _))))
  have KR0 := Lib.hid (show w0.heap[w.heap.size + 1]? = some (.cells #[.int .i64 0, .int .i64 0, .int .i64 0, .int .i64 0, .int .i64 0] 39 (0, 0)) by rw [hw0]; exact (by repeat (first | (with_reducible refine blk_drew ?_) | (with_reducible refine blk_drewN _ ?_) | ((with_reducible refine blk_new _ ?_); (focus (simp; done))) | (with_reducible refine blk_alloc ?_ _))))
  rw [← hw0]
  clear hw0
  obtain ⟨v0, v1, v2, v3, v4, v5, v6⟩ := cells7' KV0.out
  have hlv := blk_lt KV0.out
  go_wp2_with fail
  refine (HLS.out w0 HB0.out).mono ?_
  rintro e w1 ⟨rfl, hb⟩
  have KV1 := Lib.hid (blk_below' KV0.out hb)
  have KR1 := Lib.hid (blk_below' KR0.out hb)
  have HB1 := Lib.hid (HB0.out.trans (hb.mono HB0.out.size))
  clear hb v0 v1 v2 v3 v4 v5 v6 hlv
  go_upto_region 2 with fail
  have hwp : IntKind.i64.wrap ((size : Int) - (L : Int)) = (size : Int) - (L : Int) := by rw [IntKind.wrap_i64]; omega
  have hwm : IntKind.i64.wrap (((size : Int) - (L : Int)) * 1000) = ((size : Int) - (L : Int)) * 1000 := by rw [IntKind.wrap_i64]; omega
  have hwd : IntKind.i64.wrap ((((size : Int) - (L : Int)) * 1000).tdiv (size : Int)) = (((size : Int) - (L : Int)) * 1000).tdiv (size : Int) := by
    have h1 := tdiv_small (a := ((size : Int) - (L : Int)) * 1000) (s := size) (B := 1000000000000) (by omega)
    rw [IntKind.wrap_i64]; omega
  have hs0 : size ≠ 0 := by omega
  obtain ⟨q0, q1, q2, q3, q4⟩ := cells5t KR1.out
  obtain ⟨f0, f1, f2, f3, f4⟩ := free5 KR1.out
  have hlr := blk_lt KR1.out
  obtain ⟨SS, HSD⟩ : ∃ SS : World → Prop, Hid (SS = fun w' => w' = w1.drew ∧ True) := ⟨_, Lib.hid rfl⟩
  refine wp_region_mask0 SS [1, 3, 6, 10, 15] [0, 1, 0, 4, 0, 0, 32, 0, 224, 0, 512, 0, 3584, 7680, 0, 16384, 65024, 131071, 262143] (.op 0 0 (.op 1 2 (.op 2 0 (.op 3 2 (.op 4 0 (.op 5 0 (.op 6 2 (.op 7 0 (.op 8 0 (.op 9 0 (.op 10 2 (.op 11 0 (.op 12 0 (.op 13 0 (.op 14 0 (.op 15 2 (.op 16 0 (.op 17 0 (.op 18 1 .nil))))))))))))))))))) (by kernel_rfl) (by kernel_rfl) rfl (by kernel_rfl) (by kernel_rfl) ?_ ?_
  (focus (rw [HSD.out]; exact ⟨rfl, trivial⟩)); refine stepM0 rfl rfl fun K hK => ?_; go_simp; refine hK _ ?_; clear hK K; refine stepM2 rfl rfl ?_ (fun w1 hS => ?_) fun K hK => ?_; rotate_left; (focus (rw [HSD.out] at hS; obtain ⟨rfl, -⟩ := hS; obtain ⟨v0, v1, v2, v3, v4, v5, v6⟩ := cells7' KV1.out; have hlv := blk_lt KV1.out; go_simp; rfl)); go_simp; refine hK _ ?_; clear hK K; refine stepM0 rfl rfl fun K hK => ?_; go_simp; refine hK _ ?_; clear hK K; refine stepM2 rfl rfl ?_ (fun w1 hS => ?_) fun K hK => ?_; rotate_left; (focus (rw [HSD.out] at hS; obtain ⟨rfl, -⟩ := hS; obtain ⟨v0, v1, v2, v3, v4, v5, v6⟩ := cells7' KV1.out; have hlv := blk_lt KV1.out; go_simp; rfl)); go_simp; refine hK _ ?_; clear hK K; refine stepM0 rfl rfl fun K hK => ?_; go_simp; refine hK _ ?_; clear hK K; refine stepM0 rfl rfl fun K hK => ?_; go_simp; refine hK _ ?_; clear hK K; refine stepM2 rfl rfl ?_ (fun w1 hS => ?_) fun K hK => ?_; rotate_left; (focus (rw [HSD.out] at hS; obtain ⟨rfl, -⟩ := hS; obtain ⟨v0, v1, v2, v3, v4, v5, v6⟩ := cells7' KV1.out; have hlv := blk_lt KV1.out; go_simp; rfl)); go_simp; refine hK _ ?_; clear hK K; refine stepM0 rfl rfl fun K hK => ?_; go_simp; refine hK _ ?_; clear hK K; refine stepM0 rfl rfl fun K hK => ?_; go_simp; refine hK _ ?_; clear hK K; refine stepM0 rfl rfl fun K hK => ?_; go_simp; refine hK _ ?_; clear hK K; refine stepM2 rfl rfl ?_ (fun w1 hS => ?_) fun K hK => ?_; rotate_left; (focus (rw [HSD.out] at hS; obtain ⟨rfl, -⟩ := hS; obtain ⟨v0, v1, v2, v3, v4, v5, v6⟩ := cells7' KV1.out; have hlv := blk_lt KV1.out; go_simp; rfl)); go_simp; refine hK _ ?_; clear hK K; refine stepM0 rfl rfl fun K hK => ?_; go_simp; refine hK _ ?_; clear hK K; refine stepM0 rfl rfl fun K hK => ?_; go_simp; refine hK _ ?_; clear hK K; refine stepM0 rfl rfl fun K hK => ?_; go_simp; refine hK _ ?_; clear hK K; refine stepM0 rfl rfl fun K hK => ?_; go_simp; refine hK _ ?_; clear hK K; refine stepM2 rfl rfl ?_ (fun w1 hS => ?_) fun K hK => ?_; rotate_left; (focus (rw [HSD.out] at hS; obtain ⟨rfl, -⟩ := hS; obtain ⟨v0, v1, v2, v3, v4, v5, v6⟩ := cells7' KV1.out; have hlv := blk_lt KV1.out; go_simp; rfl)); go_simp; refine hK _ ?_; clear hK K; refine stepM0 rfl rfl fun K hK => ?_; go_simp; refine hK _ ?_; clear hK K; refine stepM0 rfl rfl fun K hK => ?_; go_simp; refine hK _ ?_; clear hK K; refine stepM1 rfl rfl (by kernel_rfl) fun K hK => ?_; go_wp2
  try refine stepMnil0 ?_
  clear HSD SS
  go_wp2_with fail
  obtain ⟨wx, hwx⟩ : ∃ wx, wx = set5 w1 (w.heap.size + 1) (.int .i64 num) (.int .i64 size) (.int .i64 L) (.int .i64 ((size : Int) - (L : Int))) (.int .i64 ((((size : Int) - (L : Int)) * 1000).tdiv size)) := ⟨_, rfl⟩
  have HBX := Lib.hid (show Below w.heap.size w wx by rw [hwx]; exact HB1.out.trans (set5_below (by omega) _ _ _ _ _))
  have kbx := store5 (KR1.out) (.int .i64 num) (.int .i64 size) (.int .i64 L) (.int .i64 ((size : Int) - (L : Int))) (.int .i64 ((((size : Int) - (L : Int)) * 1000).tdiv size))
  rw [← hwx] at kbx
  unfold set5 at hwx
  rw [← hwx]
  clear hwx
  obtain ⟨s0, s1, s2, s3, s4⟩ := cells5t (blk_drew kbx)
  refine bodyPost_ret (v := ?_) ?_ rfl ?_
  rotate_left; (focus (simp [results, Tryz.results13, go_sem, s0, s1, s2, s3, s4]; exact rfl))
  exact ⟨rfl, HBX.out.drew⟩
end Go.Proofs.YtnhangmcnciffaaGreatDoor
