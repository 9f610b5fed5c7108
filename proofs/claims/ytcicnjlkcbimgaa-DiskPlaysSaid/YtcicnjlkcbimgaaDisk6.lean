/- Package disk: Remove, Rename, Arm, Down, Size. -/
import Derived.Test.YtcicnjlkcbimgaaDisk5
namespace Go.Proofs.Ytcicnjlkcbimgaa
open Go.RowKit Go.Maps
set_option maxRecDepth 100000 in
set_option maxHeartbeats 1000000 in
theorem remove_any (d : Nat) (F : Nat → Prop) (q : DW) (st : Dk) (s : Nm) (K : Nat) (w : World) (h : DiskAt w d F q st) (hok : DkOk K st) (hK : K ≤ 1099511627776) (hs : s.length ≤ maxLen) :
    Calls Try.prog 43 #[(.pointer (some ⟨d, 0, none⟩)), .string ⟨s.toArray⟩] w fun e w' => e = .returned (errV (st.remove s).1) ∧ DiskTo w w' d F (st.remove s).2 := by
  have hb0 : Below w.heap.size w (w.alloc (.cells #[.string ⟨s.toArray⟩] 9)) := (by repeat (first | (with_reducible exact Below.refl _ _) | (with_reducible refine Below.setCell ?_ ?_ _) | (with_reducible refine Below.alloc ?_ ?_ _) | (with_reducible refine Below.drewN ?_ _) | (with_reducible refine Below.drew ?_) | (with_reducible exact Nat.le_refl _) | (focus (simp only [World.size_alloc, World.size_setCell, World.size_drew, World.size_drewN]; omega)) | omega | exact Nat.le_refl _ | (focus (simp; done)) | (focus (simp; omega))))
  have H0 := Lib.hid (h.below hb0)
  have HT := Lib.hid (h.later hb0)
  have HOK := Lib.hid hok
  clear hok h hb0
  by_cases hf : (st.fnd s).1 = 0
  · have e : st.remove s = (0, st.turn ⟨2, s, [], 0⟩) := by unfold Dk.remove; rw [if_neg (by rw [hf]; simp)]
    rw [e]
    have HF := Lib.hid hf
    clear e hf
    go_enter Try.func43, Try.ntmps43
    go_wp2_with fail
    refine (find_any d F q st s _ H0.out hs).mono ?_
    rintro e w' ⟨rfl, rfl⟩
    rw [if_pos HF.out, HF.out, Int.natCast_zero, errV_zero]
    go_wp2_with fail
    refine (turn_any d (fun k => F k ∨ w.heap.size ≤ k) q st _ ⟨2, s, [], 0⟩ K _ (H0.out.mono fun _ h => .inl h) HOK.out hK (.inr (.inr ⟨rfl, _, rfl, .inr (Nat.le_refl _), blk_new _ rfl, hs⟩))).mono ?_
    rintro e w5 ⟨rfl, h5⟩
    have H5 := Lib.hid (h5.from ((Keeps.refl F w).alloc _))
    clear h5
    go_wp2_with fail
    go_ret
    exact ⟨rfl, H5.out⟩
  · have e : st.remove s = ((st.fnd s).1, st) := by unfold Dk.remove; rw [if_pos hf]
    rw [e]
    have HF := Lib.hid hf
    have HE := Lib.hid (errV_ne (k := ((st.fnd s).1 : Int)) (by omega))
    clear e hf
    go_enter Try.func43, Try.ntmps43
    go_wp2_with fail
    refine (find_any d F q st s _ H0.out hs).mono ?_
    rintro e w' ⟨rfl, rfl⟩
    rw [if_neg HF.out, HE.out]
    go_wp2_with fail
    go_ret
    exact ⟨by rw [HE.out]; rfl, HT.out⟩
set_option maxRecDepth 100000 in
set_option maxHeartbeats 1000000 in
theorem rename_any (d : Nat) (F : Nat → Prop) (q : DW) (st : Dk) (s t : Nm) (K : Nat) (w : World) (h : DiskAt w d F q st) (hok : DkOk K st) (hK : K ≤ 1099511627776) (hs : s.length ≤ maxLen) (ht : t.length ≤ maxLen) :
    Calls Try.prog 16 #[(.pointer (some ⟨d, 0, none⟩)), .string ⟨s.toArray⟩, .string ⟨t.toArray⟩] w fun e w' => e = .returned (errV (st.rename s t).1) ∧ DiskTo w w' d F (st.rename s t).2 := by
  have hb0 : Below w.heap.size w ((w.alloc (.cells #[.string ⟨s.toArray⟩] 9)).alloc (.cells #[.string ⟨t.toArray⟩] 9)) := (by repeat (first | (with_reducible exact Below.refl _ _) | (with_reducible refine Below.setCell ?_ ?_ _) | (with_reducible refine Below.alloc ?_ ?_ _) | (with_reducible refine Below.drewN ?_ _) | (with_reducible refine Below.drew ?_) | (with_reducible exact Nat.le_refl _) | (focus (simp only [World.size_alloc, World.size_setCell, World.size_drew, World.size_drewN]; omega)) | omega | exact Nat.le_refl _ | (focus (simp; done)) | (focus (simp; omega))))
  have H0 := Lib.hid (h.below hb0)
  have HL := Lib.hid (fun W (hb : Below w.heap.size w W) => h.later hb)
  have HB := Lib.hid (fun W (hb : Below w.heap.size w W) => h.below hb)
  have HOK := Lib.hid hok
  clear hok h hb0
  by_cases hf : (st.fnd s).1 = 0
  · have HF := Lib.hid hf
    cases hn : namedB t with
    | false =>
      have e : st.rename s t = (1, st) := by unfold Dk.rename; rw [if_neg (by rw [hf]; simp), if_pos hn]
      rw [e]
      have HN := Lib.hid hn
      clear e hf hn
      go_enter Try.func16, Try.ntmps16
      go_wp2_with fail
      refine (find_any d F q st s _ H0.out hs).mono ?_
      rintro e w' ⟨rfl, rfl⟩
      rw [if_pos HF.out, HF.out, Int.natCast_zero, errV_zero]
      go_wp2_with fail
      refine (named_any t _ ht).mono ?_
      rintro e w' ⟨rfl, rfl⟩
      rw [HN.out]
      go_wp2_with fail
      go_ret
      exact ⟨rfl, HL.out _ (by repeat (first | (with_reducible exact Below.refl _ _) | (with_reducible refine Below.setCell ?_ ?_ _) | (with_reducible refine Below.alloc ?_ ?_ _) | (with_reducible refine Below.drewN ?_ _) | (with_reducible refine Below.drew ?_) | (with_reducible exact Nat.le_refl _) | (focus (simp only [World.size_alloc, World.size_setCell, World.size_drew, World.size_drewN]; omega)) | omega | exact Nat.le_refl _ | (focus (simp; done)) | (focus (simp; omega))))⟩
    | true =>
      have e : st.rename s t = (0, st.turn ⟨1, s, t, (st.fnd s).2⟩) := by unfold Dk.rename; rw [if_neg (by rw [hf]; simp), if_neg (by rw [hn]; simp)]
      rw [e]
      have HN := Lib.hid hn
      clear e hf hn
      go_enter Try.func16, Try.ntmps16
      go_wp2_with fail
      refine (find_any d F q st s _ H0.out hs).mono ?_
      rintro e w' ⟨rfl, rfl⟩
      rw [if_pos HF.out, HF.out, Int.natCast_zero, errV_zero]
      go_wp2_with fail
      refine (named_any t _ ht).mono ?_
      rintro e w' ⟨rfl, rfl⟩
      rw [HN.out]
      go_wp2_with fail
      refine (turn_any d (fun k => F k ∨ w.heap.size ≤ k) q st _ ⟨1, s, t, (st.fnd s).2⟩ K _ ((HB.out _ (by repeat (first | (with_reducible exact Below.refl _ _) | (with_reducible refine Below.setCell ?_ ?_ _) | (with_reducible refine Below.alloc ?_ ?_ _) | (with_reducible refine Below.drewN ?_ _) | (with_reducible refine Below.drew ?_) | (with_reducible exact Nat.le_refl _) | (focus (simp only [World.size_alloc, World.size_setCell, World.size_drew, World.size_drewN]; omega)) | omega | exact Nat.le_refl _ | (focus (simp; done)) | (focus (simp; omega))))).mono fun _ h => .inl h) HOK.out hK (.inr (.inl ⟨rfl, _, _, _, rfl, .inr (Nat.le_refl _), .inr (by omega), .inr (by omega), ⟨blk_alloc (blk_alloc (blk_new _ rfl) _) _, hs⟩, blk_new _ (by simp), blk_alloc (blk_new _ (by simp)) _, ht⟩))).mono ?_
      rintro e w5 ⟨rfl, h5⟩
      have H5 := Lib.hid (h5.from ((((Keeps.refl F w).alloc _).alloc _).alloc _))
      clear h5
      go_wp2_with fail
      go_ret
      exact ⟨rfl, H5.out⟩
  · have e : st.rename s t = ((st.fnd s).1, st) := by unfold Dk.rename; rw [if_pos hf]
    rw [e]
    have HF := Lib.hid hf
    have HE := Lib.hid (errV_ne (k := ((st.fnd s).1 : Int)) (by omega))
    clear e hf
    go_enter Try.func16, Try.ntmps16
    go_wp2_with fail
    refine (find_any d F q st s _ H0.out hs).mono ?_
    rintro e w' ⟨rfl, rfl⟩
    rw [if_neg HF.out, HE.out]
    go_wp2_with fail
    go_ret
    exact ⟨by rw [HE.out]; rfl, HL.out _ (by repeat (first | (with_reducible exact Below.refl _ _) | (with_reducible refine Below.setCell ?_ ?_ _) | (with_reducible refine Below.alloc ?_ ?_ _) | (with_reducible refine Below.drewN ?_ _) | (with_reducible refine Below.drew ?_) | (with_reducible exact Nat.le_refl _) | (focus (simp only [World.size_alloc, World.size_setCell, World.size_drew, World.size_drewN]; omega)) | omega | exact Nat.le_refl _ | (focus (simp; done)) | (focus (simp; omega))))⟩
set_option maxRecDepth 100000 in
theorem arm_any (d : Nat) (F : Nat → Prop) (q : DW) (st : Dk) (n : Int) (w : World) (h : DiskAt w d F q st) :
    Calls Try.prog 15 #[(.pointer (some ⟨d, 0, none⟩)), .int .i64 n] w fun e w' => e = .returned (errV (st.arm n).1) ∧ DiskTo w w' d F (st.arm n).2 := by
  have H := Lib.hid h
  obtain ⟨c0, c1, c2, c3, c4, c5, cf⟩ := cells6 h.blk
  clear h c0 c1 c2 c3 c4
  by_cases ha : st.armed = 0
  · have e : st.arm n = (12, st) := by unfold Dk.arm; rw [if_pos ha]
    rw [e]
    have HA := Lib.hid ha
    clear e ha
    go_enter Try.func15, Try.ntmps15
    go_wp2_with fail
    refine (up_any d F q st _ H.out).mono ?_
    rintro e w' ⟨rfl, rfl⟩
    rw [if_pos HA.out, errV_ne (by omega)]
    go_wp2
    go_ret
    exact ⟨rfl, H.out.same⟩
  · have HA := Lib.hid ha
    by_cases hn : n < 0
    · have e : st.arm n = (1, st) := by unfold Dk.arm; rw [if_neg ha, if_pos hn]
      rw [e]
      clear e ha
      go_enter Try.func15, Try.ntmps15
      go_wp2_with fail
      refine (up_any d F q st _ H.out).mono ?_
      rintro e w' ⟨rfl, rfl⟩
      rw [if_neg HA.out, errV_zero]
      go_wp2
      go_ret
      exact ⟨rfl, H.out.same⟩
    · have e : st.arm n = (0, { st with armed := n }) := by unfold Dk.arm; rw [if_neg ha, if_neg hn]
      rw [e]
      have hn' : decide (n < 0) = false := by simp; omega
      clear e ha hn
      go_enter Try.func15, Try.ntmps15
      go_wp2_with fail
      refine (up_any d F q st _ H.out).mono ?_
      rintro e w' ⟨rfl, rfl⟩
      rw [if_neg HA.out, errV_zero]
      go_wp2
      go_ret
      exact ⟨rfl, (H.out.armTo n).to ((keeps_set 5 _).mono fun _ _ e => e ▸ H.out.fd) fun _ h => .inl h⟩
set_option maxRecDepth 100000 in
theorem down_any (d : Nat) (F : Nat → Prop) (q : DW) (st : Dk) (w : World) (h : DiskAt w d F q st) :
    Calls Try.prog 17 #[(.pointer (some ⟨d, 0, none⟩))] w fun e w' => e = .returned (.bool (st.armed == 0)) ∧ w = w' := by
  obtain ⟨c0, c1, c2, c3, c4, c5, cf⟩ := cells6 h.blk
  clear h c0 c1 c2 c3 c4
  go_enter Try.func17, Try.ntmps17
  go_wp2
  go_ret
  exact ⟨rfl, rfl⟩
set_option maxRecDepth 100000 in
theorem size_any (d : Nat) (F : Nat → Prop) (q : DW) (st : Dk) (s : Nm) (K : Nat) (w : World) (h : DiskAt w d F q st) (hok : DkOk K st) (hs : s.length ≤ maxLen) :
    Calls Try.prog 20 #[(.pointer (some ⟨d, 0, none⟩)), .string ⟨s.toArray⟩] w fun e w' => e = .returned (.tuple #[.int .i64 (st.size s).2, errV (st.size s).1]) ∧ w = w' := by
  have H := Lib.hid h
  by_cases hf : (st.fnd s).1 = 0
  · have e : st.size s = (0, (st.fileAt (st.fnd s).2).b.length) := by unfold Dk.size; rw [if_neg (by rw [hf]; simp)]
    rw [e]
    have HF := Lib.hid hf
    obtain ⟨h1, h2⟩ := h.file (hok.fnd (by rw [hf]; simp))
    obtain ⟨a, c, hv, -⟩ := h2.len
    obtain ⟨c0, c1, c2, cf⟩ := cells3 h1
    rw [hv] at c1
    clear e hf h hok h1 h2 c0 c2 cf hv
    go_enter Try.func20, Try.ntmps20
    go_wp2_with fail
    refine (find_any d F q st s _ H.out hs).mono ?_
    rintro e w' ⟨rfl, rfl⟩
    rw [if_pos HF.out, HF.out, Int.natCast_zero, errV_zero]
    go_wp2_with fail
    go_ret2
    exact ⟨rfl, rfl⟩
  · have e : st.size s = ((st.fnd s).1, 0) := by unfold Dk.size; rw [if_pos hf]
    rw [e]
    have HF := Lib.hid hf
    have HE := Lib.hid (errV_ne (k := ((st.fnd s).1 : Int)) (by omega))
    clear e hf h hok
    go_enter Try.func20, Try.ntmps20
    go_wp2_with fail
    refine (find_any d F q st s _ H.out hs).mono ?_
    rintro e w' ⟨rfl, rfl⟩
    rw [if_neg HF.out, HE.out]
    go_wp2_with fail
    go_ret2
    exact ⟨by rw [HE.out]; rfl, rfl⟩
end Go.Proofs.Ytcicnjlkcbimgaa
