/- corncriblaw07.alive. -/
import Derived.Test.YtcicnjlkcbimgaaDiskS
namespace Go.Proofs.Ytcicnjlkcbimgaa
open Go.RowKit
def al1 : Dk := ((Dk.new 100).create [97]).2
def al2 : Dk := (al1.append [97] [1]).2
def al3 : Dk := al2.crash ⟨0, []⟩
theorem al_0 : ((Dk.new 100).create [97]).1 = 0 := by decide
theorem al_1 : (al1.append [97] [1]).1 = 0 := by decide
theorem al_2 : al3.now.length = 0 := by decide
theorem al_3 : (al3.sync [97]).1 = 6 := by decide
theorem al_4 : (al3.sync [97]).2 = al3 := rfl
theorem reads_new (w : World) (us : List Value) (T n c B : Nat) (hn : us.length = n) (h : n ≤ maxLen) (hB : w.heap.size = B) : Reads (w.alloc (.cells us.toArray T)) 1 (.slice (some ⟨B, 0, none⟩) n c) n us := by
  subst hB
  exact ⟨by simp [hn], .inr ⟨_, _, rfl, h, World.news_of_block (heap_new w _)⟩⟩
theorem reads_no (w : World) (sz : Nat) : Reads w sz (.slice none 0 0) 0 [] := ⟨by simp, .inl ⟨rfl, rfl⟩⟩
set_option maxRecDepth 100000 in
set_option maxHeartbeats 2000000 in
theorem alive07 (w : World) : Calls Try.prog 8 #[] w fun e w' => e = .returned (.bool true) ∧ Below w.heap.size w w' := by
  go_enter Try.func8, Try.ntmps8
  go_wp2_with fail
  refine (new_ds 100 (by omega) _).mono ?_
  rintro e w1 ⟨rfl, hd1, hb1, hz1⟩
  have HP1 : ∀ k, k < w.heap.size → k < w1.heap.size := fun k hk => by omega
  have HD1 := Lib.hid hd1
  have HB1 := Lib.hid hb1
  clear hd1 hb1
  go_wp2_with fail
  refine (create_ds HD1.out HP1 (by omega) [97] (by decide)).mono ?_
  rintro e w2 ⟨rfl, hd2, hk2⟩
  rw [al_0]
  have hz2 := hk2.size
  have HB2 := Lib.hid (HB1.out.trans (hk2.below (B := w.heap.size) (by omega) fun k hk => hk))
  have HD2 := Lib.hid (show DS w2 (w.heap.size + 2) (fun k => k < w.heap.size) 1 al1 from hd2)
  clear hd2 hk2
  go_wp2_with fail
  refine (append_ds (HD2.out.below (by repeat (first | (with_reducible exact Below.refl _ _) | (with_reducible refine Below.setCell ?_ ?_ _) | (with_reducible refine Below.alloc ?_ ?_ _) | (with_reducible refine Below.drewN ?_ _) | (with_reducible refine Below.drew ?_) | (with_reducible exact Nat.le_refl _) | (focus (simp only [World.size_alloc, World.size_setCell, World.size_drew, World.size_drewN]; omega)) | omega | exact Nat.le_refl _ | (focus (simp; done)) | (focus (simp; omega))))) (fun k hk => by simp; omega) [97] _ [1] (by decide) (reads_new w2 [bv 1] _ 1 1 _ rfl (by unfold maxLen; omega) rfl)).mono ?_
  rintro e w3 ⟨rfl, hd3, hk3⟩
  have hz3 := hk3.size
  simp only [World.size_alloc] at hz3
  rw [al_1]
  have HB3 := Lib.hid ((HB2.out.alloc (by omega) _).trans (hk3.below (B := w.heap.size) (by simp; omega) fun k hk => hk))
  have HD3 := Lib.hid (show DS w3 (w.heap.size + 2) (fun k => k < w.heap.size) 1 al2 from hd3)
  clear hd3 hk3
  go_wp2_with fail
  refine (crash_ds HD3.out (fun k hk => by omega) (by omega) ⟨0, []⟩ none 0 (reads_no _ _) (fun a e => by cases e) (by decide) (by decide) (fun x hx => by cases hx)).mono ?_
  rintro e w4 ⟨rfl, hd4, hk4⟩
  have hz4 := hk4.size
  have HB4 := Lib.hid (HB3.out.trans (hk4.below (B := w.heap.size) (by omega) fun k hk => hk))
  have HD4 := Lib.hid (show DS w4 (w.heap.size + 2) (fun k => k < w.heap.size) 1 al3 from hd4)
  clear hd4 hk4
  go_wp2_with fail
  refine (sync_ds HD4.out (fun k hk => by omega) [97] (by decide)).mono ?_
  rintro e w5 ⟨rfl, hd5, hk5⟩
  have hz5 := hk5.size
  rw [al_3]
  have HB5 := Lib.hid (HB4.out.trans (hk5.below (B := w.heap.size) (by omega) fun k hk => hk))
  have HD5 := Lib.hid (show DS w5 (w.heap.size + 2) (fun k => k < w.heap.size) 1 al3 from hd5)
  clear hd5 hk5
  go_wp2_with fail
  refine (code0 _).mono ?_
  rintro e w6 ⟨rfl, rfl⟩
  go_wp2_with fail
  refine (code0 _).mono ?_
  rintro e w6 ⟨rfl, rfl⟩
  go_wp2_with fail
  refine (code0 _).mono ?_
  rintro e w6 ⟨rfl, rfl⟩
  go_wp2_with fail
  refine (code0 _).mono ?_
  rintro e w6 ⟨rfl, rfl⟩
  go_wp2_with fail
  refine (names_ds HD5.out).mono ?_
  rintro e w7 ⟨v, rfl, ho7, hb7⟩
  rw [al_2] at ho7
  obtain ⟨a7, c7, rfl⟩ := ownsRow_len ho7
  have HB7 := Lib.hid (HB5.out.trans (hb7.mono (by omega)))
  clear ho7 hb7
  go_wp2_with fail
  refine (code_any 6 (by omega) (by omega) _).mono ?_
  rintro e w8 ⟨rfl, rfl⟩
  go_wp2_with fail
  go_ret
  exact ⟨rfl, HB7.out⟩
end Go.Proofs.Ytcicnjlkcbimgaa
