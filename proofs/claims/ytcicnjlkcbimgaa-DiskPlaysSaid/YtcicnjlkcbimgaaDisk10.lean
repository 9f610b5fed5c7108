/- Package disk: Read. -/
import Derived.Test.YtcicnjlkcbimgaaDisk9
namespace Go.Proofs.Ytcicnjlkcbimgaa
open Go.RowKit Go.Maps
/-- What Read hands back: a row of its own. -/
def ReadTo (w : World) (k : Nat) (xs : List UInt8) (e : Ending) (w' : World) : Prop := ∃ v, e = .returned (.tuple #[v, errV k]) ∧ w'.ownsRow w.heap.size 5 1 v xs.length (xs.map bv) ∧ Below w.heap.size w w'
theorem ReadTo.none {w w' : World} {k : Nat} {e : Ending} (he : e = .returned (.tuple #[.slice none 0 0, errV k])) (hb : Below w.heap.size w w') : ReadTo w k [] e w' := ⟨_, he, World.ownsRow_nil _ _ _ _, hb⟩
set_option maxRecDepth 100000 in
set_option maxHeartbeats 2000000 in
theorem read_any (d : Nat) (F : Nat → Prop) (q : DW) (st : Dk) (s : Nm) (off n : Int) (K : Nat) (w : World) (h : DiskAt w d F q st) (hok : DkOk K st) (hs : s.length ≤ maxLen) (hn2 : n ≤ 9223372036854775807) (ho2 : off ≤ 9223372036854775807) :
    Calls Try.prog 21 #[(.pointer (some ⟨d, 0, none⟩)), .string ⟨s.toArray⟩, .int .i64 off, .int .i64 n] w (ReadTo w (st.read s off n).1 (st.read s off n).2) := by
  have H := Lib.hid h
  by_cases hf : (st.fnd s).1 = 0
  · obtain ⟨i, hi⟩ : ∃ i, i = (st.fnd s).2 := ⟨_, rfl⟩
    have hil : i < st.files.length := by rw [hi]; exact hok.fnd (by rw [hf]; simp)
    have HF := Lib.hid hf
    have HI := Lib.hid hi
    obtain ⟨h1, h2⟩ := h.file hil
    obtain ⟨a, c, hv, hac⟩ := h2.len
    obtain ⟨c0, c1, c2, cf⟩ := cells3 h1
    rw [hv] at c1 h2
    have hle := (hok.at i).2
    obtain ⟨b, hb⟩ : ∃ b, b = (st.fileAt i).b := ⟨_, rfl⟩
    rw [← hb] at c1 hle h2
    have H2 := Lib.hid h2
    clear h1 c0 c2 cf hv hac h2
    by_cases hneg : off < 0 ∨ n < 0
    · have e : st.read s off n = (1, []) := by unfold Dk.read; rw [if_neg (by rw [hf]; simp), if_pos hneg]
      rw [e]
      clear e hf h hok hi hb
      by_cases h0 : off < 0
      · go_enter Try.func21, Try.ntmps21
        go_wp2_with fail
        refine (find_any d F q st s _ H.out hs).mono ?_
        rintro e w' ⟨rfl, rfl⟩
        rw [if_pos HF.out, HF.out, Int.natCast_zero, errV_zero, ← HI.out]
        go_wp2_with fail
        go_ret2
        exact .none rfl (by repeat (first | (with_reducible exact Below.refl _ _) | (with_reducible refine Below.setCell ?_ ?_ _) | (with_reducible refine Below.alloc ?_ ?_ _) | (with_reducible refine Below.drewN ?_ _) | (with_reducible refine Below.drew ?_) | (with_reducible exact Nat.le_refl _) | (focus (simp only [World.size_alloc, World.size_setCell, World.size_drew, World.size_drewN]; omega)) | omega | exact Nat.le_refl _ | (focus (simp; done)) | (focus (simp; omega))))
      · have hn0 : n < 0 := by omega
        have h0' : decide (off < 0) = false := by simp; omega
        clear hneg h0
        go_enter Try.func21, Try.ntmps21
        go_wp2_with fail
        refine (find_any d F q st s _ H.out hs).mono ?_
        rintro e w' ⟨rfl, rfl⟩
        rw [if_pos HF.out, HF.out, Int.natCast_zero, errV_zero, ← HI.out]
        go_wp2_with fail
        go_ret2
        exact .none rfl (by repeat (first | (with_reducible exact Below.refl _ _) | (with_reducible refine Below.setCell ?_ ?_ _) | (with_reducible refine Below.alloc ?_ ?_ _) | (with_reducible refine Below.drewN ?_ _) | (with_reducible refine Below.drew ?_) | (with_reducible exact Nat.le_refl _) | (focus (simp only [World.size_alloc, World.size_setCell, World.size_drew, World.size_drewN]; omega)) | omega | exact Nat.le_refl _ | (focus (simp; done)) | (focus (simp; omega))))
    obtain ⟨o, rfl⟩ := Int.eq_ofNat_of_zero_le (show 0 ≤ off by omega)
    obtain ⟨m, rfl⟩ := Int.eq_ofNat_of_zero_le (show 0 ≤ n by omega)
    have g0 : decide ((o : Int) < 0) = false := by simp
    have g1 : decide ((m : Int) < 0) = false := by simp
    by_cases hsh : b.length < o + m
    · have e : st.read s o m = (3, []) := by unfold Dk.read; rw [if_neg (by rw [hf]; simp), if_neg hneg, ← hi, ← hb, if_pos (by omega)]
      rw [e]
      clear e hf h hok hi hb hneg
      by_cases hob : b.length < o
      · have t1 : decide ((b.length : Int) < (o : Int)) = true := by simp; omega
        go_enter Try.func21, Try.ntmps21
        go_wp2_with fail
        refine (find_any d F q st s _ H.out hs).mono ?_
        rintro e w' ⟨rfl, rfl⟩
        rw [if_pos HF.out, HF.out, Int.natCast_zero, errV_zero, ← HI.out]
        go_wp2_with fail
        go_ret2
        exact .none rfl (by repeat (first | (with_reducible exact Below.refl _ _) | (with_reducible refine Below.setCell ?_ ?_ _) | (with_reducible refine Below.alloc ?_ ?_ _) | (with_reducible refine Below.drewN ?_ _) | (with_reducible refine Below.drew ?_) | (with_reducible exact Nat.le_refl _) | (focus (simp only [World.size_alloc, World.size_setCell, World.size_drew, World.size_drewN]; omega)) | omega | exact Nat.le_refl _ | (focus (simp; done)) | (focus (simp; omega))))
      · have t1 : decide ((b.length : Int) < (o : Int)) = false := by simp; omega
        have t2 : decide ((b.length : Int) - (o : Int) < (m : Int)) = true := by simp; omega
        have hob' : o ≤ b.length := by omega
        clear hob
        go_enter Try.func21, Try.ntmps21
        go_wp2_with fail
        refine (find_any d F q st s _ H.out hs).mono ?_
        rintro e w' ⟨rfl, rfl⟩
        rw [if_pos HF.out, HF.out, Int.natCast_zero, errV_zero, ← HI.out]
        go_wp2_with fail
        go_ret2
        exact .none rfl (by repeat (first | (with_reducible exact Below.refl _ _) | (with_reducible refine Below.setCell ?_ ?_ _) | (with_reducible refine Below.alloc ?_ ?_ _) | (with_reducible refine Below.drewN ?_ _) | (with_reducible refine Below.drew ?_) | (with_reducible exact Nat.le_refl _) | (focus (simp only [World.size_alloc, World.size_setCell, World.size_drew, World.size_drewN]; omega)) | omega | exact Nat.le_refl _ | (focus (simp; done)) | (focus (simp; omega))))
    · have e : st.read s o m = (0, (b.drop o).take m) := by unfold Dk.read; rw [if_neg (by rw [hf]; simp), if_neg hneg, ← hi, ← hb, if_neg (by omega)]; simp
      rw [e]
      have hlen : ((b.drop o).take m).length = m := by rw [List.length_take, List.length_drop]; omega
      obtain ⟨xs, hxs⟩ : ∃ xs, xs = (b.drop o).take m := ⟨_, rfl⟩
      obtain ⟨a', c', hrun, hrd⟩ := H2.out.cut o m (by omega)
      rw [← hxs] at hlen hrd ⊢
      subst hlen
      have HRD := Lib.hid hrd
      have t1 : decide ((b.length : Int) < (o : Int)) = false := by simp; omega
      have t2 : decide ((b.length : Int) - (o : Int) < (xs.length : Int)) = false := by simp; omega
      have hob' : o + xs.length ≤ b.length := by omega
      clear e hf h hok hi hb hneg hxs hrd hsh
      go_enter Try.func21, Try.ntmps21
      go_wp2_with fail
      refine (find_any d F q st s _ H.out hs).mono ?_
      rintro e w' ⟨rfl, rfl⟩
      rw [if_pos HF.out, HF.out, Int.natCast_zero, errV_zero, ← HI.out]
      go_wp2_with fail
      refine (bclone_any _ xs _ HRD.out (by omega)).mono ?_
      rintro e w' ⟨v', rfl, ho, _, hbw⟩
      have HO := Lib.hid ho
      have HBW := Lib.hid hbw
      clear ho hbw
      go_wp2_with fail
      go_ret2
      exact ⟨_, rfl, HO.out, HBW.out⟩
  · have e : st.read s off n = ((st.fnd s).1, []) := by unfold Dk.read; rw [if_pos hf]
    rw [e]
    have HF := Lib.hid hf
    have HE := Lib.hid (errV_ne (k := ((st.fnd s).1 : Int)) (by omega))
    clear e hf h hok
    go_enter Try.func21, Try.ntmps21
    go_wp2_with fail
    refine (find_any d F q st s _ H.out hs).mono ?_
    rintro e w' ⟨rfl, rfl⟩
    rw [if_neg HF.out, HE.out]
    go_wp2_with fail
    go_ret2
    exact .none (by rw [HE.out]; rfl) (by repeat (first | (with_reducible exact Below.refl _ _) | (with_reducible refine Below.setCell ?_ ?_ _) | (with_reducible refine Below.alloc ?_ ?_ _) | (with_reducible refine Below.drewN ?_ _) | (with_reducible refine Below.drew ?_) | (with_reducible exact Nat.le_refl _) | (focus (simp only [World.size_alloc, World.size_setCell, World.size_drew, World.size_drewN]; omega)) | omega | exact Nat.le_refl _ | (focus (simp; done)) | (focus (simp; omega))))
end Go.Proofs.Ytcicnjlkcbimgaa
