/- place.order: the nodes in their order; cmp.Or, the closure, slices.SortFunc by the shelf. -/
import Derived.Test.YtigkcbnlbdiimaaPlaceMap
import Derived.Test.YtigkcbnlbdiimaaShelf
import Derived.Sort.Grow
namespace Go.Proofs.Ytigkcbnlbdiimaa
open Go.RowKit Go.Maps Go.Sort
def orI (p q : Int) : Int := if p = 0 then q else p
set_option maxRecDepth 100000 in
set_option maxHeartbeats 1000000 in
theorem or2_any (b : Nat) (p q : Int) (w : World) (h0 : w.cell? ⟨b, 0, none⟩ = some (.int .i64 p)) (h1 : w.cell? ⟨b, 1, none⟩ = some (.int .i64 q)) :
    Calls Try.prog 89 #[.slice (some ⟨b, 0, none⟩) 2 2] w fun e w' => e = .returned (.int .i64 (orI p q)) ∧ w = w' := by
  by_cases hp : p = 0
  · have hp' : (p != 0) = false := by simpa using hp
    by_cases hq : q = 0
    · have hq' : (q != 0) = false := by simpa using hq
      have HR := Lib.hid (show orI p q = 0 by rw [orI, if_pos hp, hq])
      clear hp hq
      go_enter Try.func89, Try.ntmps89
      go_wp2
      refine wp_loop_rounds 3 ?_
      rw [rounds_succ]
      go_wp2
      rw [rounds_succ]
      go_wp2
      rw [rounds_succ]
      go_wp2
      go_ret
      exact ⟨by rw [HR.out]; rfl, rfl⟩
    · have hq' : (q != 0) = true := by simpa using hq
      have HR := Lib.hid (show orI p q = q by rw [orI, if_pos hp])
      clear hp hq
      go_enter Try.func89, Try.ntmps89
      go_wp2
      refine wp_loop_rounds 3 ?_
      rw [rounds_succ]
      go_wp2
      rw [rounds_succ]
      go_wp2
      go_ret
      exact ⟨by rw [HR.out]; rfl, rfl⟩
  · have hp' : (p != 0) = true := by simpa using hp
    have HR := Lib.hid (show orI p q = p by rw [orI, if_neg hp])
    clear hp
    go_enter Try.func89, Try.ntmps89
    go_wp2
    refine wp_loop_rounds 3 ?_
    rw [rounds_succ]
    go_wp2
    go_ret
    exact ⟨by rw [HR.out]; rfl, rfl⟩
/-- A node as a number below 256. -/
def encN (i : Fin 256) : Value := .int .i64 (i.val : Int)
def cfP (f : Int → Int) (x y : Fin 256) : Int := orI (Lib.compareInt (f x.val) (f y.val)) (Lib.compareInt (x.val : Int) (y.val : Int))
def ltP (f : Int → Int) (a b : Int) : Bool := decide (f a < f b) || (f a == f b && decide (a < b))
theorem ltOf_cfP (f : Int → Int) (x y : Fin 256) : ltOf (cfP f) x y = ltP f x.val y.val := by
  unfold ltOf cfP orI ltP Lib.compareInt
  by_cases h1 : f x.val < f y.val
  · simp [h1]
  · by_cases h2 : f y.val < f x.val
    · have h3 : f x.val ≠ f y.val := by omega
      simp [h1, h2, h3]
    · have h3 : f x.val = f y.val := by omega
      by_cases h4 : x.val < y.val
      · simp [h3, h4]
      · by_cases h5 : y.val < x.val <;> simp [h3, h4, h5]
theorem swoP (f : Int → Int) : SWO (ltOf (cfP f)) where
  irrefl x := by rw [ltOf_cfP]; simp [ltP]
  trans x y z h1 h2 := by rw [ltOf_cfP] at *; simp [ltP] at *; omega
  ntrans x y z h1 h2 := by rw [ltOf_cfP] at *; simp [ltP] at *; omega
theorem totP (f : Int → Int) (x y : Fin 256) (h1 : ltOf (cfP f) x y = false) (h2 : ltOf (cfP f) y x = false) : x = y := by
  rw [ltOf_cfP] at *
  simp [ltP] at *
  apply Fin.ext
  omega
theorem MapIs.of_block {w w' : World} {b n : Nat} {f : Int → Int} (h : MapIs w b n f) (hb : w'.heap[b]? = w.heap[b]?) : MapIs w' b n f := by
  obtain ⟨D, ⟨es, clock, h1, h2⟩, h3⟩ := h
  exact ⟨D, ⟨es, clock, hb.trans h1, h2⟩, h3⟩
theorem sortWorld_block {α : Type} [Inhabited α] (enc : α → Value) (w : World) (blk off m k : Nat) (dk : Array α) (os : Array Obj) (hk : k < w.heap.size) (hne : k ≠ blk) : (Go.Proofs.sortWorld enc w blk off m dk os).heap[k]? = w.heap[k]? := by
  show ((w.heap.modify blk _) ++ os)[k]? = _
  rw [Array.getElem?_append_left (by simpa using hk), Array.getElem?_modify]
  simp [Ne.symm hne]
set_option maxRecDepth 100000 in
set_option maxHeartbeats 2000000 in
theorem cmp_any (f : Int → Int) (mb n bx : Nat) (x y : Fin 256) (w : World) (hm : MapIs w mb n f) (hb : w.cell? ⟨bx, 0, none⟩ = some (.map (some mb))) :
    Calls Try.prog 88 #[.int .i64 (x.val : Int), .int .i64 (y.val : Int), .pointer (some ⟨bx, 0, none⟩)] w
      fun e w' => e = .returned (.int .i64 (cfP f x y)) ∧ ∃ o, w' = w.alloc o := by
  have HM := Lib.hid hm
  clear hm
  have W0 := Lib.hid (wf_i64 (n := (x.val : Int)) (by have := x.isLt; omega) (by have := x.isLt; omega))
  have W1 := Lib.hid (wf_i64 (n := (y.val : Int)) (by have := y.isLt; omega) (by have := y.isLt; omega))
  have hx0 : (0 : Int) ≤ (x.val : Int) := by omega
  have HC := Lib.hid (show cfP f x y = orI (Lib.compareInt (f x.val) (f y.val)) (Lib.compareInt (x.val : Int) (y.val : Int)) from rfl)
  obtain ⟨xv, hxv⟩ : ∃ xv : Int, xv = (x.val : Int) := ⟨_, rfl⟩
  obtain ⟨yv, hyv⟩ : ∃ yv : Int, yv = (y.val : Int) := ⟨_, rfl⟩
  rw [← hxv] at W0 HC ⊢
  rw [← hyv] at W1 HC ⊢
  clear hxv hyv hx0
  go_enter Try.func88, Try.ntmps88
  go_wp2_with (first
    | (at_lookup; refine wpList_look _ rfl (.tmp 6) _ rfl mb n f rfl HM.out xv rfl W0.out ?_)
    | (at_lookup; refine wpList_look _ rfl (.tmp 9) _ rfl mb n f rfl HM.out yv rfl W1.out ?_)
    | (go_at_call 90; refine (Try.cmp_Compare_int _ _ _).mono ?_; rintro e w' ⟨rfl, rfl⟩)
    | (go_at_call 89; refine (or2_any _ (Lib.compareInt (f xv) (f yv)) (Lib.compareInt xv yv) _ (by go_simp) (by go_simp)).mono ?_; rintro e w'' ⟨rfl, rfl⟩))
  go_ret
  exact ⟨by rw [HC.out]; rfl, _, rfl⟩
theorem cmpLays (f : Int → Int) (mb n bx blk off size : Nat) (w : World) (hm : MapIs w mb n f) (hb : w.cell? ⟨bx, 0, none⟩ = some (.map (some mb))) (h1 : mb ≠ blk) (h2 : bx ≠ blk) (hbx : bx < w.heap.size) :
    CmpLays1 Try.prog 88 #[.pointer (some ⟨bx, 0, none⟩)] encN (cfP f) blk off size w := by
  intro m os dk hdk x y
  refine (cmp_any f mb n bx x y _ (hm.of_block (sortWorld_block _ w blk off m mb dk os hm.lt h1)) ?_).mono ?_
  · rw [World.cell?_of_block (a := ⟨bx, 0, none⟩) (sortWorld_block _ w blk off m bx dk os hbx h2)]
    exact hb
  · rintro e w' ⟨he, o, rfl⟩
    exact ⟨he, 0, #[o], by rw [alloc_eq_grow]; rfl⟩
end Go.Proofs.Ytigkcbnlbdiimaa
