/- The functions of package dirs: what each computes, and what it does to memory. -/
import Derived.Test.YtigkcbnlbdiimaaErr
import Derived.Test.YtigkcbnlbdiimaaDirsPlain
import Derived.BigQuiet
import Derived.Deep.QuietTactic
namespace Go.Proofs.Ytigkcbnlbdiimaa
open Go.RowKit
set_option maxHeartbeats 400000 in
theorem place_any (n : Int) (w : World) :
    Calls Try.prog 78 #[.int .i64 n] w fun e w' => e = .returned (.bool (placeB n)) ∧ w = w' := by
  by_cases h : 0 ≤ n
  · go_enter Try.func78, Try.ntmps78
    go_wp2
    go_ret
    exact ⟨by simp [placeB, h], rfl⟩
  · go_enter Try.func78, Try.ntmps78
    go_wp2
    go_ret
    exact ⟨by simp [placeB]; omega, rfl⟩
set_option maxHeartbeats 400000 in
theorem three_any (a b c : Int) (w : World) :
    Calls Try.prog 55 #[.agg #[.int .i64 a, .int .i64 b, .int .i64 c]] w fun e w' => e = .returned (.bool (threeB a b c)) ∧ Below w.heap.size w w' := by
  go_enter Try.func55, Try.ntmps55
  go_wp2_with (go_at_call 78; refine (place_any _ _).mono ?_; rintro e w' ⟨rfl, rfl⟩)
  all_goals
    go_ret
    exact ⟨by simp [threeB, *], (Below.refl _ _).alloc (Nat.le_refl _) _⟩
def idxOf (zs : List Int) (x : Int) : Int := match zs.findIdx? (· == x) with | some i => i | none => -1
theorem idxOf_at (zs : List Int) (x : Int) (k : Nat) (hk : k < zs.length) (hb : ∀ j, j < k → zs.getD j 0 ≠ x) (h : zs.getD k 0 = x) : idxOf zs x = k := by
  have : zs.findIdx? (· == x) = some k := by
    rw [List.findIdx?_eq_some_iff_getElem]
    refine ⟨hk, by simpa [List.getD_eq_getElem?_getD, hk] using h, fun j hj => ?_⟩
    have h2 := hb j hj
    have hj' : j < zs.length := by omega
    simpa [List.getD_eq_getElem?_getD, hj'] using h2
  simp [idxOf, this]
theorem idxOf_none (zs : List Int) (x : Int) (h : ∀ j, j < zs.length → zs.getD j 0 ≠ x) : idxOf zs x = -1 := by
  have : zs.findIdx? (· == x) = none := by
    rw [List.findIdx?_eq_none_iff]
    intro y hy
    obtain ⟨j, hj, rfl⟩ := List.mem_iff_getElem.1 hy
    have h2 := h j hj
    simpa [List.getD_eq_getElem?_getD, hj] using h2
  simp [idxOf, this]
theorem idxOf_contains (zs : List Int) (x : Int) : decide (0 ≤ idxOf zs x) = zs.contains x := by
  unfold idxOf
  cases h : zs.findIdx? (· == x) with
  | some i =>
    obtain ⟨hk, hx, _⟩ := List.findIdx?_eq_some_iff_getElem.1 h
    have : x ∈ zs := by have := List.getElem_mem hk; simp at hx; rwa [← hx]
    simp [List.contains_iff_mem, this]
  | none =>
    rw [List.findIdx?_eq_none_iff] at h
    have : x ∉ zs := fun hm => by have := h x hm; simp at this
    simp [this]
set_option maxHeartbeats 400000 in
theorem index_any (b o n cap : Nat) (zs : List Int) (x : Int) (w : World) (hl : zs.length = n) (hc : ∀ i, i < n → w.cell? ⟨b, o + i, none⟩ = some (.int .i64 (zs.getD i 0))) (hm : n ≤ maxLen) :
    Calls Try.prog 75 #[.slice (some ⟨b, o, none⟩) n cap, .int .i64 x] w fun e w' => e = .returned (.int .i64 (idxOf zs x)) ∧ w = w' := by
  unfold maxLen at hm
  have HL := Lib.hid hl
  clear hl
  go_enter Try.func75, Try.ntmps75
  go_wp2
  go_loop [8] (fun i => ∃ k : Nat, k ≤ n ∧ (∀ j, j < k → zs.getD j 0 ≠ x) ∧ i = .int .i64 k) (fun i => n - (intOf i).toNat)
  case atStart => exact ⟨0, Nat.zero_le _, fun j hj => absurd hj (Nat.not_lt_zero j), rfl⟩
  case round =>
    obtain ⟨k, hk, hb, rfl⟩ := hrel
    have HB := Lib.hid hb
    clear hb
    by_cases hlt : k < n
    · have h0 := hc k hlt
      have HC := Lib.hid hc
      clear hc
      obtain ⟨y, hy⟩ : ∃ y, zs.getD k 0 = y := ⟨_, rfl⟩
      rw [hy] at h0
      have HY := Lib.hid hy
      clear hy
      by_cases he : x = y
      · have hq : (x == y) = true := by simpa using he
        have HE := Lib.hid he
        clear he
        go_wp2
        go_ret
        exact ⟨ret_int (idxOf_at zs x k (by rw [HL.out]; exact hlt) HB.out (HY.out.trans HE.out.symm)).symm, rfl⟩
      · have hq : (x == y) = false := by simpa using he
        have HE := Lib.hid he
        clear he
        go_wp2
        go_round
        case rel => exact ⟨k + 1, by omega, fun j hj => by
          by_cases hjk : j = k
          · rw [hjk, HY.out]; exact fun h => HE.out h.symm
          · exact HB.out j (by omega), by go_num⟩
        case measure => simp [intOf]; omega
    · have HC := Lib.hid hc
      clear hc
      go_wp2
      go_ret
      exact ⟨ret_int (idxOf_none zs x (fun j hj => HB.out j (by have := HL.out; omega))).symm, rfl⟩
set_option maxHeartbeats 400000 in
theorem contains_any (b o n cap : Nat) (zs : List Int) (x : Int) (w : World) (hl : zs.length = n) (hc : ∀ i, i < n → w.cell? ⟨b, o + i, none⟩ = some (.int .i64 (zs.getD i 0))) (hm : n ≤ maxLen) :
    Calls Try.prog 59 #[.slice (some ⟨b, o, none⟩) n cap, .int .i64 x] w fun e w' => e = .returned (.bool (zs.contains x)) ∧ w = w' := by
  have hi := index_any b o n cap zs x w hl hc hm
  have HD := Lib.hid (idxOf_contains zs x)
  have HI := Lib.hid hi
  clear hi hl hc hm
  generalize idxOf zs x = r at *
  go_enter Try.func59, Try.ntmps59
  go_wp2_with (go_at_call 75; refine HI.out.mono ?_; rintro e w' ⟨rfl, rfl⟩)
  go_ret
  exact ⟨ret_bool HD.out, rfl⟩
/-- Contains at an array of three. -/
theorem contains3 (b o cap : Nat) (x0 x1 x2 x : Int) (r : Bool) (w : World) (hr : [x0, x1, x2].contains x = r) (h0 : w.cell? ⟨b, o, none⟩ = some (.int .i64 x0)) (h1 : w.cell? ⟨b, o + 1, none⟩ = some (.int .i64 x1)) (h2 : w.cell? ⟨b, o + 2, none⟩ = some (.int .i64 x2)) :
    Calls Try.prog 59 #[.slice (some ⟨b, o, none⟩) 3 cap, .int .i64 x] w fun e w' => e = .returned (.bool r) ∧ w = w' := by
  subst hr
  refine contains_any b o 3 cap [x0, x1, x2] x w rfl (fun i hi => ?_) (by unfold maxLen; omega)
  match i, hi with
  | 0, _ => simpa using h0
  | 1, _ => simpa using h1
  | 2, _ => simpa using h2
set_option maxHeartbeats 4000000 in
theorem turn_any (x : Ent) (c : Cmd) (w : World) :
    Calls Try.prog 56 #[.agg #[.int .i64 x.vol, .int .i64 x.epoch, .int .i64 x.n0, .int .i64 x.n1, .int .i64 x.n2, .bool x.shut],
      .agg #[.int .i64 c.kind, .int .i64 c.vol, .int .i64 c.epoch, .int .i64 c.spot, .int .i64 c.node, .int .i64 c.n0, .int .i64 c.n1, .int .i64 c.n2]] w
      fun e w' => e = .returned (.tuple #[(turnV x c).val, errV (turnE x c)]) ∧ Below w.heap.size w w' := by
  obtain ⟨v, ep, n0, n1, n2, sh⟩ := x
  obtain ⟨k, cv, ce, cs, cn, c0, c1, c2⟩ := c
  by_cases h2 : k = 2
  · subst h2
    cases sh
    all_goals
      go_enter Try.func56, Try.ntmps56
      go_wp2
      refine bodyPost_ret (v := ?_) ?_ rfl ?_
      rotate_left
      focus (simp [results, Try.results56, go_sem]; exact rfl)
      exact ⟨by simp [turnV, turnE, turnX, Ent.val, errV, wrapI], (by repeat (first | (with_reducible exact Below.refl _ _) | (with_reducible refine Below.setCell ?_ ?_ _) | (with_reducible refine Below.alloc ?_ ?_ _) | (with_reducible refine Below.drewN ?_ _) | (with_reducible refine Below.drew ?_) | (with_reducible exact Nat.le_refl _) | (focus (simp only [World.size_alloc, World.size_setCell, World.size_drew, World.size_drewN]; omega)) | omega | exact Nat.le_refl _ | (focus (simp; done)) | (focus (simp; omega))))⟩
  by_cases h3 : k = 3
  · subst h3
    cases sh
    all_goals
      go_enter Try.func56, Try.ntmps56
      go_wp2
      refine bodyPost_ret (v := ?_) ?_ rfl ?_
      rotate_left
      focus (simp [results, Try.results56, go_sem]; exact rfl)
      exact ⟨by simp [turnV, turnE, turnX, Ent.val, errV, wrapI], (by repeat (first | (with_reducible exact Below.refl _ _) | (with_reducible refine Below.setCell ?_ ?_ _) | (with_reducible refine Below.alloc ?_ ?_ _) | (with_reducible refine Below.drewN ?_ _) | (with_reducible refine Below.drew ?_) | (with_reducible exact Nat.le_refl _) | (focus (simp only [World.size_alloc, World.size_setCell, World.size_drew, World.size_drewN]; omega)) | omega | exact Nat.le_refl _ | (focus (simp; done)) | (focus (simp; omega))))⟩
  by_cases h4 : k = 4
  · subst h4
    clear h2 h3
    by_cases hs : cs < 0 ∨ 3 ≤ cs
    · have hE : errNode ⟨v, ep, n0, n1, n2, sh⟩ ⟨4, cv, ce, cs, cn, c0, c1, c2⟩ = 1 := by
        unfold errNode; rw [if_pos]; rcases hs with h | h
        · exact .inl h
        · exact .inr (.inl h)
      rcases hs with hs | hs
      · go_enter Try.func56, Try.ntmps56
        go_wp2
        refine bodyPost_ret (v := ?_) ?_ rfl ?_
        rotate_left
        focus (simp [results, Try.results56, go_sem]; exact rfl)
        exact ⟨by simp [turnV, turnE, hE, Ent.val, errV, wrapI], (by repeat (first | (with_reducible exact Below.refl _ _) | (with_reducible refine Below.setCell ?_ ?_ _) | (with_reducible refine Below.alloc ?_ ?_ _) | (with_reducible refine Below.drewN ?_ _) | (with_reducible refine Below.drew ?_) | (with_reducible exact Nat.le_refl _) | (focus (simp only [World.size_alloc, World.size_setCell, World.size_drew, World.size_drewN]; omega)) | omega | exact Nat.le_refl _ | (focus (simp; done)) | (focus (simp; omega))))⟩
      · have hs' : ¬ cs < 0 := by omega
        go_enter Try.func56, Try.ntmps56
        go_wp2
        refine bodyPost_ret (v := ?_) ?_ rfl ?_
        rotate_left
        focus (simp [results, Try.results56, go_sem]; exact rfl)
        exact ⟨by simp [turnV, turnE, hE, Ent.val, errV, wrapI], (by repeat (first | (with_reducible exact Below.refl _ _) | (with_reducible refine Below.setCell ?_ ?_ _) | (with_reducible refine Below.alloc ?_ ?_ _) | (with_reducible refine Below.drewN ?_ _) | (with_reducible refine Below.drew ?_) | (with_reducible exact Nat.le_refl _) | (focus (simp only [World.size_alloc, World.size_setCell, World.size_drew, World.size_drewN]; omega)) | omega | exact Nat.le_refl _ | (focus (simp; done)) | (focus (simp; omega))))⟩
    · cases hp : placeB cn
      · have hE : errNode ⟨v, ep, n0, n1, n2, sh⟩ ⟨4, cv, ce, cs, cn, c0, c1, c2⟩ = 1 := by
          unfold errNode; rw [if_pos]; exact .inr (.inr hp)
        have hs1 : 0 ≤ cs := by omega
        have hs2 : cs < 3 := by omega
        clear hs
        go_enter Try.func56, Try.ntmps56
        go_wp2_with (go_at_call 78; refine (place_any _ _).mono ?_; rintro e w' ⟨rfl, rfl⟩)
        refine bodyPost_ret (v := ?_) ?_ rfl ?_
        rotate_left
        focus (simp [results, Try.results56, go_sem]; exact rfl)
        exact ⟨by simp [turnV, turnE, hE, Ent.val, errV, wrapI], (by repeat (first | (with_reducible exact Below.refl _ _) | (with_reducible refine Below.setCell ?_ ?_ _) | (with_reducible refine Below.alloc ?_ ?_ _) | (with_reducible refine Below.drewN ?_ _) | (with_reducible refine Below.drew ?_) | (with_reducible exact Nat.le_refl _) | (focus (simp only [World.size_alloc, World.size_setCell, World.size_drew, World.size_drewN]; omega)) | omega | exact Nat.le_refl _ | (focus (simp; done)) | (focus (simp; omega))))⟩
      · cases hc : [n0, n1, n2].contains cn
        · have hE : errNode ⟨v, ep, n0, n1, n2, sh⟩ ⟨4, cv, ce, cs, cn, c0, c1, c2⟩ = 0 := by
            unfold errNode
            rw [if_neg (by simp [hp]; omega), if_neg]
            show ¬ (n0 = cn ∨ n1 = cn ∨ n2 = cn)
            simp at hc
            omega
          have HC := Lib.hid hc
          clear hc
          have hs3 : cs = 0 ∨ cs = 1 ∨ cs = 2 := by omega
          clear hs
          rcases hs3 with rfl | rfl | rfl
          all_goals
            go_enter Try.func56, Try.ntmps56
            go_wp2_with (first
              | (go_at_call 78; refine (place_any _ _).mono ?_; rintro e w' ⟨rfl, rfl⟩)
              | (go_quiet ((go_at_call 59; exact quiet_of_eq (contains3 _ _ _ n0 n1 n2 _ _ _ HC.out (by go_simp) (by go_simp) (by go_simp))))))
            refine bodyPost_ret (v := ?_) ?_ rfl ?_
            rotate_left
            focus (simp [results, Try.results56, go_sem]; exact rfl)
            exact ⟨by simp [turnV, turnE, turnX, hE, Ent.val, errV, wrapI], (by repeat (first | (with_reducible exact Below.refl _ _) | (with_reducible refine Below.setCell ?_ ?_ _) | (with_reducible refine Below.alloc ?_ ?_ _) | (with_reducible refine Below.drewN ?_ _) | (with_reducible refine Below.drew ?_) | (with_reducible exact Nat.le_refl _) | (focus (simp only [World.size_alloc, World.size_setCell, World.size_drew, World.size_drewN]; omega)) | omega | exact Nat.le_refl _ | (focus (simp; done)) | (focus (simp; omega))))⟩
        · have hE : errNode ⟨v, ep, n0, n1, n2, sh⟩ ⟨4, cv, ce, cs, cn, c0, c1, c2⟩ = 8 := by
            unfold errNode
            rw [if_neg (by simp [hp]; omega), if_pos]
            show n0 = cn ∨ n1 = cn ∨ n2 = cn
            simp at hc
            omega
          have HC := Lib.hid hc
          clear hc
          have hs1 : 0 ≤ cs := by omega
          have hs2 : cs < 3 := by omega
          clear hs
          go_enter Try.func56, Try.ntmps56
          go_wp2_with (first
            | (go_at_call 78; refine (place_any _ _).mono ?_; rintro e w' ⟨rfl, rfl⟩)
            | (go_quiet ((go_at_call 59; exact quiet_of_eq (contains3 _ _ _ n0 n1 n2 _ _ _ HC.out (by go_simp) (by go_simp) (by go_simp))))))
          refine bodyPost_ret (v := ?_) ?_ rfl ?_
          rotate_left
          focus (simp [results, Try.results56, go_sem]; exact rfl)
          exact ⟨by simp [turnV, turnE, turnX, hE, Ent.val, errV, wrapI], (by repeat (first | (with_reducible exact Below.refl _ _) | (with_reducible refine Below.setCell ?_ ?_ _) | (with_reducible refine Below.alloc ?_ ?_ _) | (with_reducible refine Below.drewN ?_ _) | (with_reducible refine Below.drew ?_) | (with_reducible exact Nat.le_refl _) | (focus (simp only [World.size_alloc, World.size_setCell, World.size_drew, World.size_drewN]; omega)) | omega | exact Nat.le_refl _ | (focus (simp; done)) | (focus (simp; omega))))⟩
  · go_enter Try.func56, Try.ntmps56
    go_wp2
    refine bodyPost_ret (v := ?_) ?_ rfl ?_
    rotate_left
    focus (simp [results, Try.results56, go_sem]; exact rfl)
    exact ⟨by simp [turnV, turnE, turnX, h2, h3, h4, Ent.val, errV, wrapI], (by repeat (first | (with_reducible exact Below.refl _ _) | (with_reducible refine Below.setCell ?_ ?_ _) | (with_reducible refine Below.alloc ?_ ?_ _) | (with_reducible refine Below.drewN ?_ _) | (with_reducible refine Below.drew ?_) | (with_reducible exact Nat.le_refl _) | (focus (simp only [World.size_alloc, World.size_setCell, World.size_drew, World.size_drewN]; omega)) | omega | exact Nat.le_refl _ | (focus (simp; done)) | (focus (simp; omega))))⟩
end Go.Proofs.Ytigkcbnlbdiimaa
