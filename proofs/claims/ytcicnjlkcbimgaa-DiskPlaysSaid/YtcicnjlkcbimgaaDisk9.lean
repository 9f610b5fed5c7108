/- Package disk: Append, Read. -/
import Derived.Test.YtcicnjlkcbimgaaDisk8
import Derived.Test.YtcicnjlkcbimgaaBytesClone
import Derived.IntWalk
namespace Go.Proofs.Ytcicnjlkcbimgaa
open Go.RowKit Go.Maps
set_option maxRecDepth 100000 in
set_option maxHeartbeats 2000000 in
theorem append_any (d : Nat) (F : Nat → Prop) (q : DW) (st : Dk) (s : Nm) (vb : Value) (b : List UInt8) (K : Nat) (w : World) (h : DiskAt w d F q st) (hok : DkOk K st) (hs : s.length ≤ maxLen) (hr : Reads w 1 vb b.length (b.map bv)) :
    Calls Try.prog 11 #[(.pointer (some ⟨d, 0, none⟩)), .string ⟨s.toArray⟩, vb] w fun e w' => e = .returned (errV (st.append s b).1) ∧ DiskTo w w' d F (st.append s b).2 := by
  have H := Lib.hid h
  have HOK := Lib.hid hok
  have HR := Lib.hid hr
  have hbl := hr.le
  unfold maxLen at hbl
  obtain ⟨ab, cb, rfl⟩ := reads_len hr
  clear hr
  by_cases hf : (st.fnd s).1 = 0
  · obtain ⟨i, hi⟩ : ∃ i, i = (st.fnd s).2 := ⟨_, rfl⟩
    have hil : i < st.files.length := by rw [hi]; exact hok.fnd (by rw [hf]; simp)
    have HF := Lib.hid hf
    have HI := Lib.hid hi
    obtain ⟨h1, h2⟩ := h.file hil
    have H1 := Lib.hid h1
    have H2 := Lib.hid h2
    obtain ⟨a, c, hv, -⟩ := h2.len
    have HV := Lib.hid hv
    obtain ⟨c0, c1, c2, cf⟩ := cells3 h1
    rw [hv] at c1
    obtain ⟨e0, e1, e2, e3, e4, e5, ef⟩ := cells6 h.blk
    have hff := (h.files.ff i hil).1
    have hle := (hok.at i).2
    obtain ⟨n, hn⟩ : ∃ n, n = (st.fileAt i).b.length := ⟨_, rfl⟩
    have HN := Lib.hid hn
    rw [← hn] at c1 hle
    have hdl := blk_lt h.blk
    have hfl := blk_lt h1
    by_cases hlong : 16777216 < n + b.length
    · have e : st.append s b = (2, st) := by
        unfold Dk.append
        rw [if_neg (by rw [hf]; simp), ← hi, ← hn, if_pos hlong]
      rw [e]
      have ht : decide ((16777216 : Int) - (n : Int) < (b.length : Int)) = true := by simp; omega
      clear e hf h hok h1 h2 c0 hv hi hn e0 e1 e2 e3 e4 e5 ef c2 hlong
      go_enter Try.func11, Try.ntmps11
      go_wp2_with fail
      refine (find_any d F q st s _ H.out hs).mono ?_
      rintro e w' ⟨rfl, rfl⟩
      rw [if_pos HF.out, HF.out, Int.natCast_zero, errV_zero, ← HI.out]
      go_wp2_with fail
      go_ret
      exact ⟨rfl, H.out.same⟩
    have ht : decide ((16777216 : Int) - (n : Int) < (b.length : Int)) = false := by simp; omega
    by_cases hfull : st.cap < st.used + b.length
    · have e : st.append s b = (11, st) := by
        unfold Dk.append
        rw [if_neg (by rw [hf]; simp), ← hi, ← hn, if_neg hlong, if_pos hfull]
      rw [e]
      have hcap := hok.cap
      have hu : st.used ≤ 64 * 16777216 := Nat.le_trans (by
        have := seenSum_le (fun i => (st.fileAt i).b.length) 16777216 (fun i => (hok.at i).2) (fun _ => false) st.now
        rw [seenSum_all] at this
        exact this) (Nat.mul_le_mul_right 16777216 hok.lnow)
      have hwr : IntKind.i64.wrap ((st.cap : Int) - (st.used : Int)) = (st.cap : Int) - (st.used : Int) := IntWalk.i64_in _ (by omega)
      have ht2 : decide ((st.cap : Int) - (st.used : Int) < (b.length : Int)) = true := by simp; omega
      clear e hf h hok h1 h2 c0 hv hi hn e1 e2 e3 e4 e5 ef c2 hlong hfull
      go_enter Try.func11, Try.ntmps11
      go_wp2_with fail
      refine (find_any d F q st s _ H.out hs).mono ?_
      rintro e w' ⟨rfl, rfl⟩
      rw [if_pos HF.out, HF.out, Int.natCast_zero, errV_zero, ← HI.out]
      go_wp2_with fail
      obtain ⟨SS, HSD⟩ : ∃ SS : World → Prop, Hid (SS = fun w' => w'.cell? ⟨d, 0, none⟩ = some (.int .i64 st.cap)) := ⟨_, Lib.hid rfl⟩
      refine wp_region_order0 SS [5] [(0, 0), (1, 0), (2, 0), (3, 0), (4, 0), (5, 2), (6, 0), (7, 1), (8, 0), (9, 0), (10, 0)] (by kernel_rfl) (by kernel_rfl) rfl (by kernel_rfl) ?_ ?_
      focus (rw [HSD.out]; exact e0)
      refine stepE0 rfl rfl (fun K hK => ?_)
      go_simp
      refine hK _ ?_
      clear hK K
      refine stepE0 rfl rfl (fun K hK => ?_)
      go_simp
      refine hK _ ?_
      clear hK K
      refine stepE0 rfl rfl (fun K hK => ?_)
      go_simp
      refine hK _ ?_
      clear hK K
      refine stepE0 rfl rfl (fun K hK => ?_)
      go_simp
      refine hK _ ?_
      clear hK K
      refine stepE0 rfl rfl (fun K hK => ?_)
      go_simp
      refine hK _ ?_
      clear hK K
      refine stepE2 rfl rfl ?_ (fun w1 hS => ?_) (fun K hK => ?_)
      rotate_left
      focus (rw [HSD.out] at hS; have c0' := hS; go_simp; rfl)
      go_simp
      refine hK _ ?_
      clear hK K
      refine stepE0 rfl rfl (fun K hK => ?_)
      go_simp
      refine hK _ ?_
      clear hK K
      refine stepE1S rfl rfl (fun K hK => ?_)
      (go_wp2_with fail; refine Calls.mono (used_any d F q st _ _ (H.out.below (by repeat (first | (with_reducible exact Below.refl _ _) | (with_reducible refine Below.setCell ?_ ?_ _) | (with_reducible refine Below.alloc ?_ ?_ _) | (with_reducible refine Below.drewN ?_ _) | (with_reducible refine Below.drew ?_) | (with_reducible exact Nat.le_refl _) | (focus (simp only [World.size_alloc, World.size_setCell, World.size_drew, World.size_drewN]; omega)) | omega | exact Nat.le_refl _ | (focus (simp; done)) | (focus (simp; omega))))) HOK.out) ?_; rintro e w5 ⟨rfl, hu5⟩; have HU := Lib.hid hu5; clear hu5; go_wp2)
      refine ⟨by rw [HSD.out]; exact ((HU.out.cell (p := ⟨d, 0, none⟩) hdl).trans e0), ?_⟩
      refine stepE0 rfl rfl (fun K hK => ?_)
      go_simp
      refine hK _ ?_
      clear hK K
      refine stepE0 rfl rfl (fun K hK => ?_)
      go_simp
      refine hK _ ?_
      clear hK K
      refine stepE0 rfl rfl (fun K hK => ?_)
      go_simp
      refine hK _ ?_
      clear hK K
      try refine stepEnil0 ?_
      clear HSD SS
      go_wp2_with fail
      go_ret
      exact ⟨rfl, H.out.later (show Below w.heap.size w w5 from ((Below.refl w.heap.size w).drew).trans HU.out)⟩
    · have e : st.append s b = (0, (st.setF i ⟨(st.fileAt i).b ++ b, (st.fileAt i).lasts⟩).did) := by
        unfold Dk.append
        rw [if_neg (by rw [hf]; simp), ← hi, ← hn, if_neg hlong, if_neg hfull]
      rw [e]
      have hcap := hok.cap
      have hu : st.used ≤ 64 * 16777216 := Nat.le_trans (by
        have := seenSum_le (fun i => (st.fileAt i).b.length) 16777216 (fun i => (hok.at i).2) (fun _ => false) st.now
        rw [seenSum_all] at this
        exact this) (Nat.mul_le_mul_right 16777216 hok.lnow)
      have hwr : IntKind.i64.wrap ((st.cap : Int) - (st.used : Int)) = (st.cap : Int) - (st.used : Int) := IntWalk.i64_in _ (by omega)
      have ht2 : decide ((st.cap : Int) - (st.used : Int) < (b.length : Int)) = false := by simp; omega
      obtain ⟨i0, hi0, hz0, hz1, hz2⟩ := info_parts byteT_info
      have HI0 := Lib.hid hi0
      have HZ0 := Lib.hid hz0
      have HZ1 := Lib.hid hz1
      have HZ2 := Lib.hid hz2
      have hsum : n + b.length ≤ 16777216 := by omega
      clear e hf h hok h1 h2 c0 hv hi hn e1 e2 e3 e4 e5 ef c2 hlong hfull hi0 hz0 hz1 hz2
      go_enter Try.func11, Try.ntmps11
      go_wp2_with fail
      refine (find_any d F q st s _ H.out hs).mono ?_
      rintro e w' ⟨rfl, rfl⟩
      rw [if_pos HF.out, HF.out, Int.natCast_zero, errV_zero, ← HI.out]
      go_wp2_with fail
      obtain ⟨SS, HSD⟩ : ∃ SS : World → Prop, Hid (SS = fun w' => w'.cell? ⟨d, 0, none⟩ = some (.int .i64 st.cap)) := ⟨_, Lib.hid rfl⟩
      refine wp_region_order0 SS [5] [(0, 0), (1, 0), (2, 0), (3, 0), (4, 0), (5, 2), (6, 0), (7, 1), (8, 0), (9, 0), (10, 0)] (by kernel_rfl) (by kernel_rfl) rfl (by kernel_rfl) ?_ ?_
      focus (rw [HSD.out]; exact e0)
      refine stepE0 rfl rfl (fun K hK => ?_)
      go_simp
      refine hK _ ?_
      clear hK K
      refine stepE0 rfl rfl (fun K hK => ?_)
      go_simp
      refine hK _ ?_
      clear hK K
      refine stepE0 rfl rfl (fun K hK => ?_)
      go_simp
      refine hK _ ?_
      clear hK K
      refine stepE0 rfl rfl (fun K hK => ?_)
      go_simp
      refine hK _ ?_
      clear hK K
      refine stepE0 rfl rfl (fun K hK => ?_)
      go_simp
      refine hK _ ?_
      clear hK K
      refine stepE2 rfl rfl ?_ (fun w1 hS => ?_) (fun K hK => ?_)
      rotate_left
      focus (rw [HSD.out] at hS; have c0' := hS; go_simp; rfl)
      go_simp
      refine hK _ ?_
      clear hK K
      refine stepE0 rfl rfl (fun K hK => ?_)
      go_simp
      refine hK _ ?_
      clear hK K
      refine stepE1S rfl rfl (fun K hK => ?_)
      (go_wp2_with fail; refine Calls.mono (used_any d F q st _ _ (H.out.below (by repeat (first | (with_reducible exact Below.refl _ _) | (with_reducible refine Below.setCell ?_ ?_ _) | (with_reducible refine Below.alloc ?_ ?_ _) | (with_reducible refine Below.drewN ?_ _) | (with_reducible refine Below.drew ?_) | (with_reducible exact Nat.le_refl _) | (focus (simp only [World.size_alloc, World.size_setCell, World.size_drew, World.size_drewN]; omega)) | omega | exact Nat.le_refl _ | (focus (simp; done)) | (focus (simp; omega))))) HOK.out) ?_; rintro e w5 ⟨rfl, hu5⟩; have HU := Lib.hid hu5; clear hu5; go_wp2)
      refine ⟨by rw [HSD.out]; exact ((HU.out.cell (p := ⟨d, 0, none⟩) hdl).trans e0), ?_⟩
      refine stepE0 rfl rfl (fun K hK => ?_)
      go_simp
      refine hK _ ?_
      clear hK K
      refine stepE0 rfl rfl (fun K hK => ?_)
      go_simp
      refine hK _ ?_
      clear hK K
      refine stepE0 rfl rfl (fun K hK => ?_)
      go_simp
      refine hK _ ?_
      clear hK K
      try refine stepEnil0 ?_
      clear HSD SS
      have hb5 : Below w.heap.size w w5 := ((Below.refl w.heap.size w).drew).trans HU.out
      have HB5 := Lib.hid hb5
      have HD5 := Lib.hid (H.out.below hb5)
      have HF5 := Lib.hid (blk_below H1.out hb5)
      have HR5 := Lib.hid (show FRow w5 (.slice a n c) (st.fileAt i).b by rw [HN.out, ← HV.out]; exact H2.out.below hb5)
      have hz5 := hb5.size
      obtain ⟨g0, g1, g2, gf⟩ := cells3 HF5.out
      rw [HV.out, ← HN.out] at g1
      clear hb5 g0 g2 c1 cf e0
      go_wp2_with (at_builtin; refine wpList_append_frow _ rfl _ _ 22 rfl i0 Try.underlying22 HI0.out HZ0.out HZ1.out HZ2.out (.slice a n c) (st.fileAt i).b rfl HR5.out (.slice ab b.length cb) b rfl (HR.out.below HB5.out) (by rw [← HN.out]; omega) ?_; rw [← HN.out]; intro a2 k2 w2 hown2 hg2 hloc2; have HO2 := Lib.hid hown2; have HG2 := Lib.hid (keeps_own hg2); have HL2 := Lib.hid hloc2; have HF2 := Lib.hid (keep_blk HG2.out (hits_frow HR5.out) HF5.out (by simp [kindO])); obtain ⟨p0, p1, p2, pf⟩ := cells3 HF2.out; clear hown2 hg2 hloc2 p0 p2)
      have h6 := HD5.out.one hil (G := fun k => k = q.fb i ∨ (Value.slice a n c).ownBlock = some k) ((HG2.out.mono fun _ _ e => .inr e).trans ((keeps_set (b := q.fb i) 1 (.slice a2 (n + b.length) k2)).mono fun _ _ e => .inl e) fun _ _ e => e) (fun k _ e => e.imp id fun e => by rw [HV.out, ← HN.out]; exact e)
        ⟨(st.fileAt i).b ++ b, (st.fileAt i).lasts⟩ (.slice a2 (n + b.length) k2) (by simpa using blk_put HF2.out 1 (.slice a2 (n + b.length) k2)) (keep_frow (keeps_set _ _) (hits_one HF2.out) HO2.out (by simp [kindO]))
        (fun g hg => (HL2.out g hg).imp (fun e => by rw [HV.out, ← HN.out]; exact e) id)
      have HK6 := Lib.hid (show Keeps F w (w2.setCell ⟨q.fb i, 1, none⟩ (.slice a2 (n + b.length) k2)) from ((keeps_below F HB5.out).trans (HG2.out.mono (G := F) fun k _ e => (H.out.files.ff i hil).2 k (by rw [HV.out, ← HN.out]; exact e)) fun _ _ h => h).setCell _ _ fun _ => hff)
      have H6 := Lib.hid h6
      clear h6
      go_wp2_with fail
      refine (did_any d _ _ _ _ H6.out HOK.out.armed.1 HOK.out.armed.2).mono ?_
      rintro e w7 ⟨rfl, h7, hk7⟩
      have H7 := Lib.hid (h7.to (HK6.out.trans hk7 fun _ _ e => e ▸ H.out.fd) (fun k hk => hk.imp id (Nat.le_trans hz5)))
      clear h7 hk7
      go_wp2_with fail
      go_ret
      exact ⟨rfl, H7.out⟩
  · have e : st.append s b = ((st.fnd s).1, st) := by unfold Dk.append; rw [if_pos hf]
    rw [e]
    have HF := Lib.hid hf
    have HE := Lib.hid (errV_ne (k := ((st.fnd s).1 : Int)) (by omega))
    clear e hf h hok
    go_enter Try.func11, Try.ntmps11
    go_wp2_with fail
    refine (find_any d F q st s _ H.out hs).mono ?_
    rintro e w' ⟨rfl, rfl⟩
    rw [if_neg HF.out, HE.out]
    go_wp2_with fail
    go_ret
    exact ⟨by rw [HE.out]; rfl, H.out.same⟩
end Go.Proofs.Ytcicnjlkcbimgaa
