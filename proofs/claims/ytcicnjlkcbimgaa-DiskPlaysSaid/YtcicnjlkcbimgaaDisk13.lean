/- Package disk: settle. -/
import Derived.Test.YtcicnjlkcbimgaaDisk12
namespace Go.Proofs.Ytcicnjlkcbimgaa
open Go.RowKit Go.Maps
theorem ret_int2 {k : IntKind} {a b : Int} (h : a = b) : Value.int k a = .int k b := by rw [h]
theorem keepN_le (f : DFile) (p : DPick) : keepN f p ≤ f.b.length - f.lasts := Nat.min_le_right _ _
set_option maxRecDepth 100000 in
set_option maxHeartbeats 2000000 in
theorem settle_any (fb i : Nat) (v : Value) (f : DFile) (p : DPick) (w : World) (h1 : w.heap[fb]? = some (.cells #[.int .i64 i, v, .int .i64 f.lasts] 86 (0, 0))) (h2 : FRow w v f.b) (hl : f.lasts ≤ f.b.length) (hb : f.b.length ≤ 16777216)
    (hk1 : -9223372036854775808 ≤ p.keep) (hk2 : p.keep ≤ 9223372036854775807) :
    Calls Try.prog 39 #[(.pointer (some ⟨fb, 0, none⟩)), .agg #[.int .i64 p.keep, .int .u8 p.turn.toNat]] w fun e w' => e = .returned (.tuple #[]) ∧
      ∃ v', w'.heap[fb]? = some (.cells #[.int .i64 i, v', .int .i64 (f.settle p).lasts] 86 (0, 0)) ∧ FRow w' v' (f.settle p).b ∧ (∀ g, v'.ownBlock = some g → w.heap.size ≤ g) ∧ Keeps (fun k => k = fb) w w' := by
  obtain ⟨a, c, rfl, hac⟩ := h2.len
  obtain ⟨c0, c1, c2, cf⟩ := cells3 h1
  have H1 := Lib.hid h1
  have H2 := Lib.hid h2
  have hfl := blk_lt h1
  obtain ⟨n, hn⟩ : ∃ n, n = f.b.length := ⟨_, rfl⟩
  obtain ⟨m, hm⟩ : ∃ m, m = f.lasts := ⟨_, rfl⟩
  obtain ⟨k, hk⟩ : ∃ k, k = keepN f p := ⟨_, rfl⟩
  have hkn := keepN_le f p
  rw [← hn, ← hm, ← hk] at hkn
  have hkd : (k : Int) = min (max p.keep 0) ((n : Int) - (m : Int)) := by rw [hk, hn, hm]; unfold keepN; omega
  rw [← hm] at c2 hl
  rw [← hn] at c1 hl hb hac
  have hwr : IntKind.i64.wrap ((n : Int) - (m : Int)) = (n : Int) - (m : Int) := IntWalk.i64_in _ (by omega)
  have hwr2 : IntKind.i64.wrap ((m : Int) + (k : Int)) = (m : Int) + (k : Int) := IntWalk.i64_in _ (by omega)
  have HN := Lib.hid hn
  have HM := Lib.hid hm
  have HK := Lib.hid hk
  have HKD := Lib.hid hkd
  obtain ⟨k1, hk1'⟩ : ∃ k1 : Int, k1 = if p.keep < 0 then 0 else p.keep := ⟨_, rfl⟩
  have he1 := hk1'.symm
  have he2 : (if (n : Int) - (m : Int) < k1 then (n : Int) - (m : Int) else k1) = (k : Int) := by rw [hkd, hk1']; split <;> split <;> omega
  obtain ⟨xs, hxs⟩ : ∃ xs, xs = f.b.take (m + k) := ⟨_, rfl⟩
  have hlen : xs.length = m + k := by rw [hxs, List.length_take]; omega
  have hrun : ∀ W, (Instr.slice 22 (.slice a n c) none (some (.int .i64 ((m : Int) + (k : Int)))) none).run Try.prog W = .ok (.slice a xs.length c) W := fun W => by
    have := run_prefix a n c (m + k) (h2.addr.imp (fun e => ⟨e.1, e.2.2⟩) id) (by omega) W
    rw [hlen]
    simpa using this
  have HRD := Lib.hid (show Reads w 1 (.slice a xs.length c) xs.length (xs.map bv) by
    have := h2.pre (m + k) (by omega)
    rw [← hxs, ← hlen] at this
    exact this)
  have HS := Lib.hid (show f.settle p = ⟨if 0 < k then xorAt xs (xs.length - 1) p.turn else xs, xs.length⟩ by
    unfold DFile.settle
    rw [← hk, ← hm, ← hxs]
    dsimp only
    split <;> simp [xorAt_len])
  have HLEN := Lib.hid hlen
  have hlen2 : xs.length ≤ 16777216 := by omega
  clear h1 h2 hn hm hk hkd c0 hk1' hxs hlen
  go_enter Try.func39, Try.ntmps39
  go_wp2_with fail
  refine wp_region_now0 [1, 6, 11] [(0, 0), (1, 2), (2, 0), (3, 0), (4, 0), (5, 0), (6, 2), (7, 0), (8, 0), (9, 0), (10, 0), (11, 2), (12, 0), (13, 0), (14, 0)] (by kernel_rfl) (by kernel_rfl) rfl (by kernel_rfl) ?_
  refine stepE0 rfl rfl (fun K hK => ?_)
  go_simp
  refine hK _ ?_
  clear hK K
  refine stepE2 rfl rfl ?_ (fun w1 hS => ?_) (fun K hK => ?_)
  rotate_left
  focus (obtain rfl : w1 = _ := hS; go_simp; rfl)
  go_simp
  refine hK _ ?_
  clear hK K
  refine stepE0 rfl rfl (fun K hK => ?_)
  go_simp
  refine hK _ ?_
  clear hK K
  refine stepE0 rfl rfl (fun K hK => ?_)
  go_simp
  refine hK _ ?_
  clear hK K
  refine stepE0 rfl rfl (fun K hK => ?_)
  go_simp
  refine hK _ ?_
  clear hK K
  refine stepE0 rfl rfl (fun K hK => ?_)
  go_simp
  refine hK _ ?_
  clear hK K
  refine stepE2 rfl rfl ?_ (fun w1 hS => ?_) (fun K hK => ?_)
  rotate_left
  focus (obtain rfl : w1 = _ := hS; go_simp; rfl)
  go_simp
  refine hK _ ?_
  clear hK K
  refine stepE0 rfl rfl (fun K hK => ?_)
  go_simp
  refine hK _ ?_
  clear hK K
  refine stepE0 rfl rfl (fun K hK => ?_)
  go_simp
  refine hK _ ?_
  clear hK K
  refine stepE0 rfl rfl (fun K hK => ?_)
  go_simp
  refine hK _ ?_
  clear hK K
  refine stepE0 rfl rfl (fun K hK => ?_)
  go_simp
  refine hK _ ?_
  clear hK K
  refine stepE2 rfl rfl ?_ (fun w1 hS => ?_) (fun K hK => ?_)
  rotate_left
  focus (obtain rfl : w1 = _ := hS; go_simp; rfl)
  go_simp
  refine hK _ ?_
  clear hK K
  refine stepE0 rfl rfl (fun K hK => ?_)
  go_simp
  refine hK _ ?_
  clear hK K
  refine stepE0 rfl rfl (fun K hK => ?_)
  go_simp
  refine hK _ ?_
  clear hK K
  refine stepE0 rfl rfl (fun K hK => ?_)
  go_simp
  refine hK _ ?_
  clear hK K
  try refine stepEnil0 ?_
  clear he1 he2 hwr
  go_wp2_with fail
  refine wp_region_now0 [4, 8] [(0, 0), (1, 0), (2, 0), (3, 0), (4, 2), (5, 0), (6, 0), (7, 0), (8, 2), (9, 0), (10, 0), (11, 0), (12, 1), (13, 0), (14, 0), (15, 1)] (by kernel_rfl) (by kernel_rfl) rfl (by kernel_rfl) ?_
  refine stepE0 rfl rfl (fun K hK => ?_)
  go_simp
  refine hK _ ?_
  clear hK K
  refine stepE0 rfl rfl (fun K hK => ?_)
  go_simp
  refine hK _ ?_
  clear hK K
  refine stepE0 rfl rfl (fun K hK => ?_)
  go_simp
  refine hK _ ?_
  clear hK K
  refine stepE0 rfl rfl (fun K hK => ?_)
  go_simp
  refine hK _ ?_
  clear hK K
  refine stepE2 rfl rfl ?_ (fun w1 hS => ?_) (fun K hK => ?_)
  rotate_left
  focus (obtain rfl : w1 = _ := hS; go_simp; rfl)
  go_simp
  refine hK _ ?_
  clear hK K
  refine stepE0 rfl rfl (fun K hK => ?_)
  go_simp
  refine hK _ ?_
  clear hK K
  refine stepE0 rfl rfl (fun K hK => ?_)
  go_simp
  refine hK _ ?_
  clear hK K
  refine stepE0 rfl rfl (fun K hK => ?_)
  go_simp
  refine hK _ ?_
  clear hK K
  refine stepE2 rfl rfl ?_ (fun w1 hS => ?_) (fun K hK => ?_)
  rotate_left
  focus (obtain rfl : w1 = _ := hS; go_simp; rfl)
  go_simp
  refine hK _ ?_
  clear hK K
  refine stepE0 rfl rfl (fun K hK => ?_)
  go_simp
  refine hK _ ?_
  clear hK K
  refine stepE0 rfl rfl (fun K hK => ?_)
  go_simp
  refine hK _ ?_
  clear hK K
  refine stepE0 rfl rfl (fun K hK => ?_)
  go_simp
  refine hK _ ?_
  clear hK K
  refine stepE1 rfl rfl (by kernel_rfl) (fun K hK => ?_)
  (go_wp2_with fail; refine Calls.mono (bclone_any _ xs _ (HRD.out.below (by repeat (first | (with_reducible exact Below.refl _ _) | (with_reducible refine Below.setCell ?_ ?_ _) | (with_reducible refine Below.alloc ?_ ?_ _) | (with_reducible refine Below.drewN ?_ _) | (with_reducible refine Below.drew ?_) | (with_reducible exact Nat.le_refl _) | (focus (simp only [World.size_alloc, World.size_setCell, World.size_drew, World.size_drewN]; omega)) | omega | exact Nat.le_refl _ | (focus (simp; done)) | (focus (simp; omega))))) (by omega)) ?_; rintro e w5 ⟨v5, rfl, ho5, _, hb5⟩; obtain ⟨a5, c5, rfl⟩ := ownsRow_len ho5; have HO5 := Lib.hid ho5; have HB5 := Lib.hid (show Below w.heap.size w w5 from Below.trans (((Below.refl w.heap.size w).alloc (Nat.le_refl _) _).drew.drew) (hb5.mono (by simp))); have HP5 := Lib.hid (show w5.heap[w.heap.size]? = some (.cells #[.int .i64 p.keep, .int .u8 p.turn.toNat] 94 (0, 0)) from (hb5.block w.heap.size (by simp)).trans (heap_new w _)); have HF5 := Lib.hid (blk_below H1.out HB5.out); have hz5 := hb5.size; obtain ⟨g0, g1, g2, gf⟩ := cells3 HF5.out; clear ho5 hb5 g0; go_wp2)
  refine stepE0 rfl rfl (fun K hK => ?_)
  go_simp
  refine hK _ ?_
  clear hK K
  refine stepE0 rfl rfl (fun K hK => ?_)
  go_simp
  refine hK _ ?_
  clear hK K
  refine stepE1 rfl rfl (by kernel_rfl) (fun K hK => ?_)
  go_wp2
  try refine stepEnil0 ?_
  clear hwr2 hrun
  have HR5 := Lib.hid (FRow.own (b := xs) HO5.out)
  have hbase : ∀ g, (Value.slice a5 xs.length c5).ownBlock = some g → w.heap.size ≤ g := fun g hg => by
    have := (HO5.out.lt g hg).1
    simp at this
    omega
  have HBASE := Lib.hid hbase
  clear hbase
  by_cases hk0 : 0 < k
  · have hk0' : decide ((0 : Int) < (k : Int)) = true := by simp; omega
    have hlen := HLEN.out
    obtain ⟨j, hj⟩ : ∃ j, j + 1 = xs.length := ⟨xs.length - 1, by omega⟩
    have hjl : j < xs.length := by omega
    obtain ⟨g, rfl⟩ : ∃ g, a5 = some ⟨g, 0, none⟩ := HR5.out.addr.elim (fun e => by rw [e.2.1] at hjl; simp at hjl) id
    obtain ⟨y, hy⟩ : ∃ y, y = xs[j] := ⟨_, rfl⟩
    have hcell : w5.cell? ⟨g, j, none⟩ = some (.int .u8 y.toNat) := by
      obtain ⟨_, ⟨e, _⟩ | ⟨a0, c0, e, _, hc⟩⟩ := HR5.out.reads
      · cases e
      · simp only [Value.slice.injEq, Option.some.injEq] at e
        have := hc j (bv xs[j]) (by rw [List.getElem?_map, List.getElem?_eq_getElem hjl]; rfl)
        rw [← e.1, add_zero_off, ← hy] at this
        exact this
    obtain ⟨cur, hcur⟩ := HR5.out.blk (g := g) rfl
    have hfz : w5.frozen? ⟨g, j, none⟩ = false := frozen_of_row w5 g j _ _ hcur
    have hgs : w.heap.size ≤ g := HBASE.out g rfl
    have hgn : g ≠ fb := by omega
    have hgn2 : fb ≠ g := by omega
    have hpn : w.heap.size ≠ fb := by omega
    have hpg : w.heap.size ≠ g := fun e => by rw [← e, HP5.out] at hcur; injection hcur with hcur; injection hcur with _ h9; exact absurd h9 (by decide)
    obtain ⟨p0, p1⟩ : w5.cell? ⟨w.heap.size, 0, none⟩ = some (.int .i64 p.keep) ∧ w5.cell? ⟨w.heap.size, 1, none⟩ = some (.int .u8 p.turn.toNat) := by
      have e := fun j => cell_of_row w5 w.heap.size j _ _ _ HP5.out
      exact ⟨e 0, e 1⟩
    have hwr3 : IntKind.i64.wrap ((xs.length : Int) - 1) = (j : Int) := by rw [IntWalk.i64_in _ (by omega)]; omega
    have hjl' : (j : Int) < (xs.length : Int) := by omega
    have hj0 : (0 : Int) ≤ (j : Int) := by omega
    have HX := Lib.hid (xor_bv y p.turn)
    have HJ := Lib.hid hj
    have HY := Lib.hid hy
    have hset := HR5.out.set j (y ^^^ p.turn) hjl
    have HSET := Lib.hid hset
    have hfl5 := blk_lt HF5.out
    clear hj hy hcur hlen hset p0
    go_wp2_with fail
    refine wp_region_now0 [3, 7, 11, 13] [(0, 0), (1, 0), (2, 0), (3, 2), (4, 0), (5, 0), (6, 0), (7, 2), (8, 0), (9, 0), (10, 0), (11, 2), (12, 0), (13, 2), (14, 0), (15, 0), (16, 1)] (by kernel_rfl) (by kernel_rfl) rfl (by kernel_rfl) ?_
    refine stepE0 rfl rfl (fun K hK => ?_)
    go_simp
    refine hK _ ?_
    clear hK K
    refine stepE0 rfl rfl (fun K hK => ?_)
    go_simp
    refine hK _ ?_
    clear hK K
    refine stepE0 rfl rfl (fun K hK => ?_)
    go_simp
    refine hK _ ?_
    clear hK K
    refine stepE2 rfl rfl ?_ (fun w1 hS => ?_) (fun K hK => ?_)
    rotate_left
    focus (obtain rfl : w1 = _ := hS; go_simp; rfl)
    go_simp
    refine hK _ ?_
    clear hK K
    refine stepE0 rfl rfl (fun K hK => ?_)
    go_simp
    refine hK _ ?_
    clear hK K
    refine stepE0 rfl rfl (fun K hK => ?_)
    go_simp
    refine hK _ ?_
    clear hK K
    refine stepE0 rfl rfl (fun K hK => ?_)
    go_simp
    refine hK _ ?_
    clear hK K
    refine stepE2 rfl rfl ?_ (fun w1 hS => ?_) (fun K hK => ?_)
    rotate_left
    focus (obtain rfl : w1 = _ := hS; go_simp; rfl)
    go_simp
    refine hK _ ?_
    clear hK K
    refine stepE0 rfl rfl (fun K hK => ?_)
    go_simp
    refine hK _ ?_
    clear hK K
    refine stepE0 rfl rfl (fun K hK => ?_)
    go_simp
    refine hK _ ?_
    clear hK K
    refine stepE0 rfl rfl (fun K hK => ?_)
    go_simp
    refine hK _ ?_
    clear hK K
    refine stepE2 rfl rfl ?_ (fun w1 hS => ?_) (fun K hK => ?_)
    rotate_left
    focus (obtain rfl : w1 = _ := hS; go_simp; rfl)
    go_simp
    refine hK _ ?_
    clear hK K
    refine stepE0 rfl rfl (fun K hK => ?_)
    go_simp
    refine hK _ ?_
    clear hK K
    refine stepE2 rfl rfl ?_ (fun w1 hS => ?_) (fun K hK => ?_)
    rotate_left
    focus (obtain rfl : w1 = _ := hS; go_simp; rfl)
    go_simp
    refine hK _ ?_
    clear hK K
    refine stepE0 rfl rfl (fun K hK => ?_)
    go_simp
    refine hK _ ?_
    clear hK K
    refine stepE0 rfl rfl (fun K hK => ?_)
    go_simp
    refine hK _ ?_
    clear hK K
    refine stepE1 rfl rfl (by kernel_rfl) (fun K hK => ?_)
    go_wp2
    try refine stepEnil0 ?_
    rw [HX.out]
    clear hwr3
    go_wp2_with fail
    go_end0
    have hbk := blk_put (blk_set (blk_put HF5.out 1 (.slice (some ⟨g, 0, none⟩) xs.length c5)) ⟨g, j, none⟩ (bv (y ^^^ p.turn)) hgn2) 2 (.int .i64 xs.length)
    have hr1 := keep_frow (keeps_set (b := fb) 1 (.slice (some ⟨g, 0, none⟩) xs.length c5)) (hits_one HF5.out) HR5.out (by simp [kindO])
    have hr2 := hr1.set j (y ^^^ p.turn) hjl
    have hr3 := keep_frow (keeps_set (b := fb) 2 (.int .i64 xs.length)) (hits_one (blk_set (blk_put HF5.out 1 (.slice (some ⟨g, 0, none⟩) xs.length c5)) ⟨g, j, none⟩ (bv (y ^^^ p.turn)) hgn2)) hr2 (by simp [kindO])
    refine ⟨rfl, .slice (some ⟨g, 0, none⟩) xs.length c5, ?_, ?_, HBASE.out, ?_⟩
    · rw [HS.out]
      simp only [List.setIfInBounds_toArray, List.set_cons_succ, List.set_cons_zero] at hbk
      exact hbk
    · rw [HS.out, if_pos hk0]
      have e : xorAt xs (xs.length - 1) p.turn = xs.set j (y ^^^ p.turn) := by
        have hj' : xs.length - 1 = j := by have := HJ.out; omega
        rw [hj', HY.out]
        unfold xorAt
        rw [List.getElem?_eq_getElem hjl]
        rfl
      rw [e]
      exact hr3
    · exact ((((keeps_below (fun x => x = fb) HB5.out).setCell _ _ fun _ => rfl).setCell ⟨g, j, none⟩ _ fun hl => absurd hl (by show ¬ g < w.heap.size; omega)).setCell _ _ fun _ => rfl).drew
  · have hk0' : decide ((0 : Int) < (k : Int)) = false := by simp; omega
    go_wp2_with fail
    go_end0
    have hkk : Keeps (fun x => x = fb) w5 ((w5.setCell ⟨fb, 1, none⟩ (.slice a5 xs.length c5)).setCell ⟨fb, 2, none⟩ (.int .i64 xs.length)) := (keeps_set _ _).trans (keeps_set _ _) fun _ _ e => e
    refine ⟨rfl, .slice a5 xs.length c5, ?_, ?_, HBASE.out, (keeps_below _ HB5.out).trans hkk fun _ _ e => e⟩
    · rw [HS.out]
      simpa using blk_put (blk_put HF5.out 1 (.slice a5 xs.length c5)) 2 (.int .i64 xs.length)
    · rw [HS.out, if_neg hk0]
      exact keep_frow hkk (hits_one HF5.out) HR5.out (by simp [kindO])
end Go.Proofs.Ytcicnjlkcbimgaa
