/- Package disk: Cut, Spoil. -/
import Derived.Test.YtcicnjlkcbimgaaDisk10
import Derived.Laws.BitsAllLaws
namespace Go.Proofs.Ytcicnjlkcbimgaa
open Go.RowKit Go.Maps
theorem clip_any (a : Option Addr) (n c : Nat) (ha : (a = none ∧ n = 0) ∨ ∃ g, a = some ⟨g, 0, none⟩) (hn : n ≤ c) (w : World) :
    Calls Try.prog 57 #[.slice a n c] w fun e w' => e = .returned (.slice a n n) ∧ w = w' := by
  have hrun := run_clip a n c ha hn
  clear ha
  go_enter Try.func57, Try.ntmps57
  go_wp2
  go_ret
  exact ⟨rfl, rfl⟩
theorem xor_bv (x y : UInt8) : Value.int .u8 (bits .xor .u8 (x.toNat : Int) (y.toNat : Int)) = bv (x ^^^ y) := by
  rw [u8_xor_nat _ _ x.toNat_lt y.toNat_lt]
  unfold bv
  rw [UInt8.toNat_xor]
set_option maxRecDepth 100000 in
set_option maxHeartbeats 2000000 in
theorem cut_any (d : Nat) (F : Nat → Prop) (q : DW) (st : Dk) (s : Nm) (n : Int) (K : Nat) (w : World) (h : DiskAt w d F q st) (hok : DkOk K st) (hs : s.length ≤ maxLen) :
    Calls Try.prog 44 #[(.pointer (some ⟨d, 0, none⟩)), .string ⟨s.toArray⟩, .int .i64 n] w fun e w' => e = .returned (errV (st.cut s n).1) ∧ DiskTo w w' d F (st.cut s n).2 := by
  have H := Lib.hid h
  have HOK := Lib.hid hok
  by_cases hf : (st.fnd s).1 = 0
  · obtain ⟨i, hi⟩ : ∃ i, i = (st.fnd s).2 := ⟨_, rfl⟩
    have hil : i < st.files.length := by rw [hi]; exact hok.fnd (by rw [hf]; simp)
    have HF := Lib.hid hf
    have HI := Lib.hid hi
    obtain ⟨h1, h2⟩ := h.file hil
    have hff := (h.files.ff i hil).1
    obtain ⟨a, c, hv, hac⟩ := h2.len
    obtain ⟨c0, c1, c2, cf⟩ := cells3 h1
    have H1 := Lib.hid h1
    have HV := Lib.hid hv
    rw [hv] at c1 h2
    have H2 := Lib.hid h2
    have hle := (hok.at i).2
    obtain ⟨m, hm⟩ : ∃ m, m = (st.fileAt i).b.length := ⟨_, rfl⟩
    rw [← hm] at c1 hle hac
    have HM := Lib.hid hm
    clear h1 c0 hv h2
    by_cases h0 : n < 0
    · have e : st.cut s n = (1, st) := by unfold Dk.cut; rw [if_neg (by rw [hf]; simp), if_pos (.inl h0)]
      rw [e]
      clear e hf h hok hi hm
      go_enter Try.func44, Try.ntmps44
      go_wp2_with fail
      refine (find_any d F q st s _ H.out hs).mono ?_
      rintro e w' ⟨rfl, rfl⟩
      rw [if_pos HF.out, HF.out, Int.natCast_zero, errV_zero, ← HI.out]
      go_wp2_with fail
      go_ret
      exact ⟨rfl, H.out.same⟩
    obtain ⟨k, rfl⟩ := Int.eq_ofNat_of_zero_le (show 0 ≤ n by omega)
    have g0 : decide ((k : Int) < 0) = false := by simp
    by_cases hlt : m < k
    · have e : st.cut s k = (1, st) := by unfold Dk.cut; rw [if_neg (by rw [hf]; simp), if_pos (.inr (by rw [← hi, ← hm]; omega))]
      rw [e]
      clear e hf h hok hi h0 hm
      go_enter Try.func44, Try.ntmps44
      go_wp2_with fail
      refine (find_any d F q st s _ H.out hs).mono ?_
      rintro e w' ⟨rfl, rfl⟩
      rw [if_pos HF.out, HF.out, Int.natCast_zero, errV_zero, ← HI.out]
      go_wp2_with fail
      go_ret
      exact ⟨rfl, H.out.same⟩
    · have e : st.cut s k = (0, (st.setF i ⟨(st.fileAt i).b.take k, k⟩).did) := by unfold Dk.cut; rw [if_neg (by rw [hf]; simp), if_neg (by rw [← hi, ← hm]; omega), ← hi]; simp
      rw [e]
      have g1 : decide ((m : Int) < (k : Int)) = false := by simp; omega
      have hkm : k ≤ m := by omega
      have hkl : k ≤ (st.fileAt i).b.length := by omega
      have hclip := H2.out.clip k hkl
      have hrun := run_prefix a m c k (H2.out.addr.imp (fun e => ⟨e.1, e.2.2⟩) id) (by omega)
      have HA := Lib.hid (show (a = none ∧ k = 0) ∨ ∃ g, a = some ⟨g, 0, none⟩ from H2.out.addr.imp (fun e => ⟨e.1, by have := congrArg List.length e.2.1; simp at this; omega⟩) id)
      have HC := Lib.hid hclip
      have hkc : k ≤ c := by omega
      clear e hf h hok hi h0 hm hclip hkl hlt
      go_enter Try.func44, Try.ntmps44
      go_wp2_with fail
      refine (find_any d F q st s _ H.out hs).mono ?_
      rintro e w' ⟨rfl, rfl⟩
      rw [if_pos HF.out, HF.out, Int.natCast_zero, errV_zero, ← HI.out]
      go_wp2_with fail
      refine (clip_any a k c HA.out hkc _).mono ?_
      rintro e w' ⟨rfl, rfl⟩
      go_wp2_with fail
      have hkk : Keeps (fun j => j = q.fb i) w ((w.setCell ⟨q.fb i, 1, none⟩ (.slice a k k)).setCell ⟨q.fb i, 2, none⟩ (.int .i64 k)) := (keeps_set _ _).trans (keeps_set _ _) fun _ _ e => e
      have h6 := H.out.one hil hkk (fun _ _ e => .inl e) ⟨(st.fileAt i).b.take k, k⟩ (.slice a k k) (by simpa using blk_put (blk_put H1.out 1 (.slice a k k)) 2 (.int .i64 k)) (keep_frow hkk (hits_one H1.out) HC.out (by simp [kindO])) (fun g hg => .inl (by rw [HV.out]; cases a <;> exact hg))
      refine (did_any d _ _ _ _ h6 HOK.out.armed.1 HOK.out.armed.2).mono ?_
      rintro e w7 ⟨rfl, h7, hk7⟩
      have H7 := Lib.hid (h7.to ((hkk.mono (G := F) fun _ _ e => e ▸ hff).trans hk7 fun _ _ e => e ▸ H.out.fd) (fun k hk => hk))
      clear h7 hk7 h6 hkk
      go_wp2_with fail
      go_ret
      exact ⟨rfl, H7.out⟩
  · have e : st.cut s n = ((st.fnd s).1, st) := by unfold Dk.cut; rw [if_pos hf]
    rw [e]
    have HF := Lib.hid hf
    have HE := Lib.hid (errV_ne (k := ((st.fnd s).1 : Int)) (by omega))
    clear e hf h hok
    go_enter Try.func44, Try.ntmps44
    go_wp2_with fail
    refine (find_any d F q st s _ H.out hs).mono ?_
    rintro e w' ⟨rfl, rfl⟩
    rw [if_neg HF.out, HE.out]
    go_wp2_with fail
    go_ret
    exact ⟨by rw [HE.out]; rfl, H.out.same⟩
set_option maxRecDepth 100000 in
set_option maxHeartbeats 2000000 in
theorem spoil_any (d : Nat) (F : Nat → Prop) (q : DW) (st : Dk) (s : Nm) (n : Int) (x : UInt8) (K : Nat) (w : World) (h : DiskAt w d F q st) (hok : DkOk K st) (hs : s.length ≤ maxLen) :
    Calls Try.prog 45 #[(.pointer (some ⟨d, 0, none⟩)), .string ⟨s.toArray⟩, .int .i64 n, .int .u8 x.toNat] w fun e w' => e = .returned (errV (st.spoil s n x).1) ∧ DiskTo w w' d F (st.spoil s n x).2 := by
  have H := Lib.hid h
  have HOK := Lib.hid hok
  by_cases hf : (st.fnd s).1 = 0
  · obtain ⟨i, hi⟩ : ∃ i, i = (st.fnd s).2 := ⟨_, rfl⟩
    have hil : i < st.files.length := by rw [hi]; exact hok.fnd (by rw [hf]; simp)
    have HF := Lib.hid hf
    have HI := Lib.hid hi
    obtain ⟨h1, h2⟩ := h.file hil
    have hff := (h.files.ff i hil)
    obtain ⟨a, c, hv, hac⟩ := h2.len
    obtain ⟨c0, c1, c2, cf⟩ := cells3 h1
    have H1 := Lib.hid h1
    have HV := Lib.hid hv
    rw [hv] at c1 h2
    have H2 := Lib.hid h2
    have hle := (hok.at i).2
    obtain ⟨m, hm⟩ : ∃ m, m = (st.fileAt i).b.length := ⟨_, rfl⟩
    rw [← hm] at c1 hle hac
    have HM := Lib.hid hm
    have HFF := Lib.hid hff
    clear h1 c0 hv h2 hff
    by_cases h0 : n < 0
    · have e : st.spoil s n x = (1, st) := by unfold Dk.spoil; rw [if_neg (by rw [hf]; simp), if_pos (.inl h0)]
      rw [e]
      clear e hf h hok hi hm
      go_enter Try.func45, Try.ntmps45
      go_wp2_with fail
      refine (find_any d F q st s _ H.out hs).mono ?_
      rintro e w' ⟨rfl, rfl⟩
      rw [if_pos HF.out, HF.out, Int.natCast_zero, errV_zero, ← HI.out]
      go_wp2_with fail
      go_ret
      exact ⟨rfl, H.out.same⟩
    obtain ⟨k, rfl⟩ := Int.eq_ofNat_of_zero_le (show 0 ≤ n by omega)
    have g0 : decide ((k : Int) < 0) = false := by simp
    by_cases hlt : m ≤ k
    · have e : st.spoil s k x = (1, st) := by unfold Dk.spoil; rw [if_neg (by rw [hf]; simp), if_pos (.inr (by rw [← hi, ← hm]; omega))]
      rw [e]
      clear e hf h hok hi h0 hm
      go_enter Try.func45, Try.ntmps45
      go_wp2_with fail
      refine (find_any d F q st s _ H.out hs).mono ?_
      rintro e w' ⟨rfl, rfl⟩
      rw [if_pos HF.out, HF.out, Int.natCast_zero, errV_zero, ← HI.out]
      go_wp2_with fail
      go_ret
      exact ⟨rfl, H.out.same⟩
    · have e : st.spoil s k x = (0, st.setF i ⟨xorAt (st.fileAt i).b k x, (st.fileAt i).lasts⟩) := by unfold Dk.spoil; rw [if_neg (by rw [hf]; simp), if_neg (by rw [← hi, ← hm]; omega), ← hi]; simp
      rw [e]
      have g1 : decide ((m : Int) ≤ (k : Int)) = false := by simp; omega
      have hkm : k < m := by omega
      have hkl : k < (st.fileAt i).b.length := by omega
      obtain ⟨g, rfl⟩ : ∃ g, a = some ⟨g, 0, none⟩ := H2.out.addr.elim (fun e => by rw [e.2.1] at hkl; simp at hkl) id
      obtain ⟨y, hy⟩ : ∃ y, y = (st.fileAt i).b[k] := ⟨_, rfl⟩
      have hcell : w.cell? ⟨g, k, none⟩ = some (.int .u8 y.toNat) := by
        obtain ⟨_, ⟨e, _⟩ | ⟨a0, c0, e, _, hc⟩⟩ := H2.out.reads
        · cases e
        · simp only [Value.slice.injEq, Option.some.injEq] at e
          have := hc k (bv (st.fileAt i).b[k]) (by rw [List.getElem?_map, List.getElem?_eq_getElem hkl]; rfl)
          rw [← e.1, add_zero_off, ← hy] at this
          exact this
      obtain ⟨cur, hcur⟩ := H2.out.blk (g := g) rfl
      have hfz : w.frozen? ⟨g, k, none⟩ = false := frozen_of_row w g k _ _ hcur
      have hset := H2.out.set k (y ^^^ x) hkl
      have hx : xorAt (st.fileAt i).b k x = (st.fileAt i).b.set k (y ^^^ x) := by unfold xorAt; rw [List.getElem?_eq_getElem hkl, hy]; rfl
      rw [hx]
      have HS := Lib.hid hset
      have HX := Lib.hid (xor_bv y x)
      have hkc : k < c := by omega
      have hgf : F g := HFF.out.2 g (by rw [HV.out]; rfl)
      have hgn : g ≠ q.fb i := fun e => by rw [e, H1.out] at hcur; injection hcur with hcur; injection hcur with _ h9; exact absurd h9 (by decide)
      clear e hf h hok hi h0 hm hkl hlt hy hcur hx hset
      go_enter Try.func45, Try.ntmps45
      go_wp2_with fail
      refine (find_any d F q st s _ H.out hs).mono ?_
      rintro e w' ⟨rfl, rfl⟩
      rw [if_pos HF.out, HF.out, Int.natCast_zero, errV_zero, ← HI.out]
      go_wp2_with fail
      rw [HX.out]
      have hkk : Keeps (fun j => j = g) w (w.setCell ⟨g, k, none⟩ (bv (y ^^^ x))) := keeps_set _ _
      have h6 := H.out.one hil hkk (fun j _ e => .inr (by rw [HV.out]; exact congrArg some e.symm)) ⟨(st.fileAt i).b.set k (y ^^^ x), (st.fileAt i).lasts⟩ (.slice (some ⟨g, 0, none⟩) (st.fileAt i).b.length c) (blk_set (by rw [← HV.out]; exact H1.out) _ _ (Ne.symm hgn)) HS.out (fun g' hg' => .inl (by rw [HV.out]; exact hg'))
      go_ret
      exact ⟨rfl, h6.to (hkk.mono (G := F) fun _ _ e => e ▸ hgf) (fun _ h => h)⟩
  · have e : st.spoil s n x = ((st.fnd s).1, st) := by unfold Dk.spoil; rw [if_pos hf]
    rw [e]
    have HF := Lib.hid hf
    have HE := Lib.hid (errV_ne (k := ((st.fnd s).1 : Int)) (by omega))
    clear e hf h hok
    go_enter Try.func45, Try.ntmps45
    go_wp2_with fail
    refine (find_any d F q st s _ H.out hs).mono ?_
    rintro e w' ⟨rfl, rfl⟩
    rw [if_neg HF.out, HE.out]
    go_wp2_with fail
    go_ret
    exact ⟨by rw [HE.out]; rfl, H.out.same⟩
end Go.Proofs.Ytcicnjlkcbimgaa
