/- corncribref27: Has, Load; the plain words of layer 27. -/
import Derived.Test.YtigkcbnlbdiimaaRef19g
import Derived.Test.YtigkcbnlbdiimaaOrderM
namespace Go.Proofs.Ytigkcbnlbdiimaa
open Go.RowKit
/-- Where an entry has a node; below 0: nowhere. -/
def hasI (x : Ent) (n : Int) : Int := if x.n0 = n then 0 else if x.n1 = n then 1 else if x.n2 = n then 2 else -1
def hasB (x : Ent) (n : Int) : Bool := x.n0 == n || x.n1 == n || x.n2 == n
theorem hasI_pos (x : Ent) (n : Int) : decide (0 ≤ hasI x n) = hasB x n := by
  unfold hasI hasB
  by_cases h0 : x.n0 = n
  · simp [h0]
  · by_cases h1 : x.n1 = n
    · simp [h0, h1]
    · by_cases h2 : x.n2 = n <;> simp [h0, h1, h2]
def loadN (es : List Ent) (n : Int) : Nat := es.countP fun x => hasB x n
theorem loadN_snoc (es : List Ent) (k : Nat) (x : Ent) (hx : es[k]? = some x) (n : Int) : loadN (es.take (k + 1)) n = loadN (es.take k) n + if hasB x n then 1 else 0 := by
  rw [take_snoc_get es k x hx]
  simp [loadN, List.countP_append, List.countP_cons]
theorem loadN_le (es : List Ent) (n : Int) : loadN es n ≤ es.length := List.countP_le_length
set_option maxRecDepth 100000 in
set_option maxHeartbeats 1000000 in
theorem has_any (x : Ent) (n : Int) (w : World) :
    Calls Try.prog 74 #[.agg #[.int .i64 x.vol, .int .i64 x.epoch, .int .i64 x.n0, .int .i64 x.n1, .int .i64 x.n2, .bool x.shut], .int .i64 n] w
      fun e w' => e = .returned (.int .i64 (hasI x n)) ∧ Below w.heap.size w w' := by
  obtain ⟨v, ep, a, b, c, s⟩ := x
  by_cases h0 : a = n
  · have HR := Lib.hid (show hasI ⟨v, ep, a, b, c, s⟩ n = 0 by simp [hasI, h0])
    have b0 : (a == n) = true := by simpa using h0
    clear h0
    go_enter Try.func74, Try.ntmps74
    go_wp2
    refine wp_loop_rounds 4 ?_
    rw [rounds_succ]
    go_wp2
    go_ret
    exact ⟨by rw [HR.out]; rfl, (by repeat (first | (with_reducible exact Below.refl _ _) | (with_reducible refine Below.setCell ?_ ?_ _) | (with_reducible refine Below.alloc ?_ ?_ _) | (with_reducible refine Below.drewN ?_ _) | (with_reducible refine Below.drew ?_) | (with_reducible exact Nat.le_refl _) | (focus (simp only [World.size_alloc, World.size_setCell, World.size_drew, World.size_drewN]; omega)) | omega | exact Nat.le_refl _ | (focus (simp; done)) | (focus (simp; omega))))⟩
  by_cases h1 : b = n
  · have HR := Lib.hid (show hasI ⟨v, ep, a, b, c, s⟩ n = 1 by simp [hasI, h0, h1])
    have b0 : (a == n) = false := by simpa using h0
    have b1 : (b == n) = true := by simpa using h1
    clear h0 h1
    go_enter Try.func74, Try.ntmps74
    go_wp2
    refine wp_loop_rounds 4 ?_
    rw [rounds_succ]
    go_wp2
    rw [rounds_succ]
    go_wp2
    go_ret
    exact ⟨by rw [HR.out]; rfl, (by repeat (first | (with_reducible exact Below.refl _ _) | (with_reducible refine Below.setCell ?_ ?_ _) | (with_reducible refine Below.alloc ?_ ?_ _) | (with_reducible refine Below.drewN ?_ _) | (with_reducible refine Below.drew ?_) | (with_reducible exact Nat.le_refl _) | (focus (simp only [World.size_alloc, World.size_setCell, World.size_drew, World.size_drewN]; omega)) | omega | exact Nat.le_refl _ | (focus (simp; done)) | (focus (simp; omega))))⟩
  by_cases h2 : c = n
  · have HR := Lib.hid (show hasI ⟨v, ep, a, b, c, s⟩ n = 2 by simp [hasI, h0, h1, h2])
    have b0 : (a == n) = false := by simpa using h0
    have b1 : (b == n) = false := by simpa using h1
    have b2 : (c == n) = true := by simpa using h2
    clear h0 h1 h2
    go_enter Try.func74, Try.ntmps74
    go_wp2
    refine wp_loop_rounds 4 ?_
    rw [rounds_succ]
    go_wp2
    rw [rounds_succ]
    go_wp2
    rw [rounds_succ]
    go_wp2
    go_ret
    exact ⟨by rw [HR.out]; rfl, (by repeat (first | (with_reducible exact Below.refl _ _) | (with_reducible refine Below.setCell ?_ ?_ _) | (with_reducible refine Below.alloc ?_ ?_ _) | (with_reducible refine Below.drewN ?_ _) | (with_reducible refine Below.drew ?_) | (with_reducible exact Nat.le_refl _) | (focus (simp only [World.size_alloc, World.size_setCell, World.size_drew, World.size_drewN]; omega)) | omega | exact Nat.le_refl _ | (focus (simp; done)) | (focus (simp; omega))))⟩
  · have HR := Lib.hid (show hasI ⟨v, ep, a, b, c, s⟩ n = -1 by simp [hasI, h0, h1, h2])
    have b0 : (a == n) = false := by simpa using h0
    have b1 : (b == n) = false := by simpa using h1
    have b2 : (c == n) = false := by simpa using h2
    clear h0 h1 h2
    go_enter Try.func74, Try.ntmps74
    go_wp2
    refine wp_loop_rounds 4 ?_
    rw [rounds_succ]
    go_wp2
    rw [rounds_succ]
    go_wp2
    rw [rounds_succ]
    go_wp2
    rw [rounds_succ]
    go_wp2
    go_ret
    exact ⟨by rw [HR.out]; rfl, (by repeat (first | (with_reducible exact Below.refl _ _) | (with_reducible refine Below.setCell ?_ ?_ _) | (with_reducible refine Below.alloc ?_ ?_ _) | (with_reducible refine Below.drewN ?_ _) | (with_reducible refine Below.drew ?_) | (with_reducible exact Nat.le_refl _) | (focus (simp only [World.size_alloc, World.size_setCell, World.size_drew, World.size_drewN]; omega)) | omega | exact Nat.le_refl _ | (focus (simp; done)) | (focus (simp; omega))))⟩
set_option maxRecDepth 100000 in
set_option maxHeartbeats 2000000 in
theorem rload_any (base : Nat) (v : Value) (es : List Ent) (n : Int) (w : World) (h : w.ownsRow base 128 6 v es.length (es.flatMap Ent.row)) (hfew : es.length ≤ 4096) :
    Calls Try.prog 46 #[v, .int .i64 n] w fun e w' => e = .returned (.int .i64 (loadN es n)) ∧ Below w.heap.size w w' := by
  have H := Lib.hid h
  obtain ⟨a0, cap0, rfl⟩ := ownsRow_len h
  clear h
  go_enter Try.func46, Try.ntmps46
  go_wp2_with fail
  go_loopw [5, 6] (fun c i wr => ∃ k : Nat, k ≤ es.length ∧ i = .int .i64 k ∧ c = .int .i64 (loadN (es.take k) n) ∧ Below w.heap.size w wr) (fun _ i _ => es.length - (intOf i).toNat)
  case atStart => exact ⟨0, Nat.zero_le _, rfl, by simp [loadN], Below.refl _ _⟩
  case round =>
    obtain ⟨k, hk, rfl, rfl, hbw⟩ := hrel
    have HBW := Lib.hid hbw
    have hzr := hbw.size
    by_cases hlt : k < es.length
    · obtain ⟨x, hx⟩ : ∃ x, es[k]? = some x := ⟨_, List.getElem?_eq_getElem hlt⟩
      obtain ⟨g3, cc3, e3, hg3, _, _, x0, x1, x2, x3, x4, x5⟩ := row_ent19 (ownsRow_below H.out hbw) k x hx
      obtain ⟨e3', -, e3''⟩ := slice_inj e3
      subst e3' e3''
      have HS := Lib.hid (loadN_snoc es k x hx n)
      have HP := Lib.hid (hasI_pos x n)
      have hle := loadN_le (es.take k) n
      rw [List.length_take] at hle
      have hle' : loadN (es.take k) n ≤ 4096 := by omega
      generalize loadN (es.take k) n = c at *
      clear hbw e3 hx hle
      have hk0 : (0 : Int) ≤ (k : Int) := by omega
      have hk1 : (k : Int) < (es.length : Int) := by omega
      have hc0 : (0 : Int) ≤ (c : Int) := by omega
      have hc1 : (c : Int) ≤ 4096 := by omega
      obtain ⟨xv, xe, xa, xb, xc, xs⟩ := x
      cases hb : hasB ⟨xv, xe, xa, xb, xc, xs⟩ n
      · have hi : decide (0 ≤ hasI ⟨xv, xe, xa, xb, xc, xs⟩ n) = false := by rw [HP.out]; exact hb
        rw [hb] at HS
        have HB := Lib.hid hb
        clear hb
        go_wp2_with fail
        refine (has_any ⟨xv, xe, xa, xb, xc, xs⟩ n _).mono ?_
        rintro e w4 ⟨rfl, hb4⟩
        generalize hasI ⟨xv, xe, xa, xb, xc, xs⟩ n = r at *
        have HB4 := Lib.hid (HBW.out.trans (hb4.mono hzr))
        clear hb4
        go_wp2_with fail
        go_roundw
        case rel => exact ⟨k + 1, by omega, by go_num, by rw [HS.out]; simp, HB4.out⟩
        case measure => simp [intOf]; omega
      · have hi : decide (0 ≤ hasI ⟨xv, xe, xa, xb, xc, xs⟩ n) = true := by rw [HP.out]; exact hb
        rw [hb] at HS
        have HB := Lib.hid hb
        clear hb
        go_wp2_with fail
        refine (has_any ⟨xv, xe, xa, xb, xc, xs⟩ n _).mono ?_
        rintro e w4 ⟨rfl, hb4⟩
        generalize hasI ⟨xv, xe, xa, xb, xc, xs⟩ n = r at *
        have HB4 := Lib.hid (HBW.out.trans (hb4.mono hzr))
        clear hb4
        go_wp2_with fail
        go_roundw
        case rel => exact ⟨k + 1, by omega, by go_num, by rw [HS.out]; simp, HB4.out⟩
        case measure => simp [intOf]; omega
    · have HK := Lib.hid (show es.take k = es from List.take_of_length_le (by omega))
      clear hbw
      go_wp2_with fail
      go_ret
      exact ⟨by rw [HK.out]; rfl, HBW.out⟩
end Go.Proofs.Ytigkcbnlbdiimaa
