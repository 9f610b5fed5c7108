/- Package disk: named. -/
import Derived.Test.YtcicnjlkcbimgaaDisk2
namespace Go.Proofs.Ytcicnjlkcbimgaa
open Go.RowKit Go.Maps
theorem take_all_snoc (s : Nm) (k : Nat) (hk : k < s.length) : (s.take (k + 1)).all okc = ((s.take k).all okc && okc s[k]) := by
  rw [List.take_succ_eq_append_getElem hk, List.all_append]
  simp
theorem all_false (s : Nm) (k : Nat) (hk : k < s.length) (h : okc s[k] = false) : s.all okc = false := by
  rw [List.all_eq_false]
  exact ⟨s[k], List.getElem_mem hk, by rw [h]; simp⟩
theorem okc_of (c : UInt8) (x : Nat) (hx : c.toNat = x) : okc c = ((decide (97 ≤ x) && decide (x ≤ 122)) || (decide (48 ≤ x) && decide (x ≤ 57)) || x == 46) := by
  unfold okc
  rw [hx]
set_option maxRecDepth 100000 in
set_option maxHeartbeats 1000000 in
theorem named_any (s : Nm) (w : World) (hs : s.length ≤ maxLen) :
    Calls Try.prog 31 #[.string ⟨s.toArray⟩] w fun e w' => e = .returned (.bool (namedB s)) ∧ w = w' := by
  unfold maxLen at hs
  by_cases h0 : s = []
  · subst h0
    go_enter Try.func31, Try.ntmps31
    go_wp2
    go_ret
    exact ⟨rfl, rfl⟩
  have he : s.isEmpty = false := by cases s <;> simp_all
  have he2 : s.toArray.isEmpty = false := by simpa using he
  by_cases h1 : s.length ≤ 32
  · have hd : decide ((32 : Int) < (s.length : Int)) = false := by simp; omega
    have HN := Lib.hid (show namedB s = s.all okc by unfold namedB; rw [he]; simp [h1])
    have H0 := Lib.hid h0
    clear h0
    go_enter Try.func31, Try.ntmps31
    go_wp2
    go_loop [14] (fun i => ∃ k : Nat, k ≤ s.length ∧ i = .int .i64 k ∧ (s.take k).all okc = true) (fun i => s.length - (intOf i).toNat)
    case atStart => exact ⟨0, Nat.zero_le _, rfl, rfl⟩
    case round =>
      obtain ⟨k, hk, rfl, ha⟩ := hrel
      have HA := Lib.hid ha
      clear ha
      by_cases hlt : k < s.length
      · have hlt' : (k : Int) < (s.length : Int) := by omega
        have hk0 : (0 : Int) ≤ (k : Int) := by omega
        obtain ⟨x, hx⟩ : ∃ x : Nat, s[k].toNat = x := ⟨_, rfl⟩
        have hx2 : x < 256 := by rw [← hx]; exact s[k].toNat_lt
        have HO := Lib.hid (okc_of _ x hx)
        have hb : ∀ h : k < (ByteArray.mk s.toArray).size, (ByteArray.mk s.toArray)[k]'h = s[k] := fun _ => rfl
        go_wp2_with fail
        all_goals first
          | (go_ret
             exact ⟨by rw [HN.out, all_false s k hlt (by rw [HO.out]; have hz : ((x : Int) == 46) = false := by assumption
                                                         simp at hz ⊢; omega)]; rfl, rfl⟩)
          | (go_round
             case rel => exact ⟨k + 1, by omega, by go_num, by rw [take_all_snoc s k hlt, HA.out, HO.out]; first | (simp; omega) | (have hz : ((x : Int) == 46) = true := (by assumption); simp at hz ⊢; omega)⟩
             case measure => simp [intOf]; omega)
      · go_wp2
        go_ret
        exact ⟨by rw [HN.out, ← HA.out, List.take_of_length_le (by omega)]; rfl, rfl⟩
  · have hd : decide ((32 : Int) < (s.length : Int)) = true := by simp; omega
    have HN := Lib.hid (show namedB s = false by unfold namedB; simp [h1])
    clear h0
    go_enter Try.func31, Try.ntmps31
    go_wp2
    go_ret
    exact ⟨by rw [HN.out]; rfl, rfl⟩
end Go.Proofs.Ytcicnjlkcbimgaa
