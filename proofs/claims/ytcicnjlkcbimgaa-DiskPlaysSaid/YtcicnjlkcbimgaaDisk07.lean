/- corncriblaw07.Do (written by gendisk07.py). -/
import Derived.Test.YtcicnjlkcbimgaaDiskAct
import Derived.Test.YtcicnjlkcbimgaaDiskS
namespace Go.Proofs.Ytcicnjlkcbimgaa
open Go.RowKit
theorem DTo.from {w W w' : World} {d K : Nat} {P : Nat → Prop} {st : Dk} (h : DTo W w' d P K st) (hb : Below w.heap.size w W) : DTo w w' d P K st := ⟨h.1, (KP.of hb).trans h.2⟩
theorem DTo.same {w W : World} {d K : Nat} {P : Nat → Prop} {st : Dk} (h : DS w d P K st) (hb : Below w.heap.size w W) : DTo w W d P K st := ⟨h.below hb, KP.of hb⟩
/-- What a call answers. -/
def DoOut07 (w : World) (d : Nat) (P : Nat → Prop) (K : Nat) (xs : List UInt8) (n k : Int) (st : Dk) (e : Ending) (w' : World) : Prop :=
  ∃ v, e = .returned (.tuple #[v, .int .i64 n, .int .i64 k]) ∧ w'.ownsRow w.heap.size 5 1 v xs.length (xs.map bv) ∧ DTo w w' d P K st
theorem row_addr7 {w : World} {base n c : Nat} {a : Option Addr} {e : TypeId} {sz : Nat} {xs : List Value} (h : w.ownsRow base e sz (.slice a n c) n xs) : (a = none ∧ c = 0) ∨ ∃ g, a = some ⟨g, 0, none⟩ := by
  rcases h.2 with ⟨e, h0⟩ | ⟨g, _, _, e, _⟩
  · simp only [Value.slice.injEq] at e
    exact .inl ⟨e.1, e.2.2⟩
  · simp only [Value.slice.injEq] at e
    exact .inr ⟨g, e.1⟩
set_option maxRecDepth 100000 in
set_option maxHeartbeats 2000000 in
theorem do07_0 {d K : Nat} {P : Nat → Prop} {st : Dk} {w : World} (h : DS w d P K st) (hP : ∀ k, P k → k < w.heap.size) (hK : K < 1099511627776) (nm to : Nm) (ab af : Option Addr) (nb cb nf cf : Nat) (n m pn : Int) (hnm : nm.length ≤ maxLen)  :
    Calls Try.prog 26 #[(.pointer (some ⟨d, 0, none⟩)), .agg #[.int .i64 0, .string ⟨nm.toArray⟩, .string ⟨to.toArray⟩, .slice ab nb cb, .int .i64 n, .int .i64 m, .int .i64 pn, .slice af nf cf]] w (DoOut07 w d P (K + 1) [] 0 (st.create nm).1 (st.create nm).2) := by
  have hbx : Below w.heap.size w (w.alloc (.cells #[.int .i64 0, .string ⟨nm.toArray⟩, .string ⟨to.toArray⟩, .slice ab nb cb, .int .i64 n, .int .i64 m, .int .i64 pn, .slice af nf cf] 53)) := (Below.refl _ _).alloc (Nat.le_refl _) _
  have H := Lib.hid (h.below hbx)
  have HPP := Lib.hid (show ∀ k, P k → k < (w.alloc (.cells #[.int .i64 0, .string ⟨nm.toArray⟩, .string ⟨to.toArray⟩, .slice ab nb cb, .int .i64 n, .int .i64 m, .int .i64 pn, .slice af nf cf] 53)).heap.size from fun k hk => by have := hP k hk; simp; omega)
  have HBX := Lib.hid hbx
  clear h hP hbx
  go_enter Try.func26, Try.ntmps26
  go_wp2_with fail
  refine (create_ds H.out HPP.out hK nm hnm).mono ?_
  rintro e w2 ⟨rfl, hd⟩
  have HD := Lib.hid (hd)
  clear hd
  obtain ⟨r, hr⟩ : ∃ r, r = (st.create nm).1 := ⟨_, rfl⟩
  have hr15 : r ≤ 15 := by rw [hr]; exact create_le _ _
  rw [← hr]
  have HRR := Lib.hid hr
  clear hr
  go_wp2_with fail
  refine (code_any r (by omega) (by omega) _).mono ?_
  rintro e w3 ⟨rfl, rfl⟩
  go_wp2_with fail
  go_ret3
  exact ⟨.slice none 0 0, by rw [HRR.out]; rfl, World.ownsRow_nil _ _ _ _, HD.out.from HBX.out⟩
set_option maxRecDepth 100000 in
set_option maxHeartbeats 2000000 in
theorem do07_1 {d K : Nat} {P : Nat → Prop} {st : Dk} {w : World} (h : DS w d P K st) (hP : ∀ k, P k → k < w.heap.size) (hK : K < 1099511627776) (nm to : Nm) (ab af : Option Addr) (nb cb nf cf : Nat) (n m pn : Int) (hnm : nm.length ≤ maxLen) (b : List UInt8) (hbl : b.length = nb) (hr : Reads w 1 (.slice ab nb cb) nb (b.map bv)) :
    Calls Try.prog 26 #[(.pointer (some ⟨d, 0, none⟩)), .agg #[.int .i64 1, .string ⟨nm.toArray⟩, .string ⟨to.toArray⟩, .slice ab nb cb, .int .i64 n, .int .i64 m, .int .i64 pn, .slice af nf cf]] w (DoOut07 w d P (K + 1) [] 0 (st.append nm b).1 (st.append nm b).2) := by
  have hbx : Below w.heap.size w (w.alloc (.cells #[.int .i64 1, .string ⟨nm.toArray⟩, .string ⟨to.toArray⟩, .slice ab nb cb, .int .i64 n, .int .i64 m, .int .i64 pn, .slice af nf cf] 53)) := (Below.refl _ _).alloc (Nat.le_refl _) _
  have H := Lib.hid (h.below hbx)
  have HPP := Lib.hid (show ∀ k, P k → k < (w.alloc (.cells #[.int .i64 1, .string ⟨nm.toArray⟩, .string ⟨to.toArray⟩, .slice ab nb cb, .int .i64 n, .int .i64 m, .int .i64 pn, .slice af nf cf] 53)).heap.size from fun k hk => by have := hP k hk; simp; omega)
  have HBX := Lib.hid hbx
  clear h hP hbx
  have HB := Lib.hid hbl
  have HR := Lib.hid hr
  clear hbl hr
  go_enter Try.func26, Try.ntmps26
  go_wp2_with fail
  refine (append_ds H.out HPP.out nm _ b hnm (by rw [HB.out]; exact HR.out.below (by repeat (first | (with_reducible exact Below.refl _ _) | (with_reducible refine Below.setCell ?_ ?_ _) | (with_reducible refine Below.alloc ?_ ?_ _) | (with_reducible refine Below.drewN ?_ _) | (with_reducible refine Below.drew ?_) | (with_reducible exact Nat.le_refl _) | (focus (simp only [World.size_alloc, World.size_setCell, World.size_drew, World.size_drewN]; omega)) | omega | exact Nat.le_refl _ | (focus (simp; done)) | (focus (simp; omega)))))).mono ?_
  rintro e w2 ⟨rfl, hd⟩
  have HD := Lib.hid (hd.more (Nat.le_succ K))
  clear hd
  obtain ⟨r, hr⟩ : ∃ r, r = (st.append nm b).1 := ⟨_, rfl⟩
  have hr15 : r ≤ 15 := by rw [hr]; exact append_le _ _ _
  rw [← hr]
  have HRR := Lib.hid hr
  clear hr
  go_wp2_with fail
  refine (code_any r (by omega) (by omega) _).mono ?_
  rintro e w3 ⟨rfl, rfl⟩
  go_wp2_with fail
  go_ret3
  exact ⟨.slice none 0 0, by rw [HRR.out]; rfl, World.ownsRow_nil _ _ _ _, HD.out.from HBX.out⟩
set_option maxRecDepth 100000 in
set_option maxHeartbeats 2000000 in
theorem do07_2 {d K : Nat} {P : Nat → Prop} {st : Dk} {w : World} (h : DS w d P K st) (hP : ∀ k, P k → k < w.heap.size) (hK : K < 1099511627776) (nm to : Nm) (ab af : Option Addr) (nb cb nf cf : Nat) (n m pn : Int) (hnm : nm.length ≤ maxLen)  :
    Calls Try.prog 26 #[(.pointer (some ⟨d, 0, none⟩)), .agg #[.int .i64 2, .string ⟨nm.toArray⟩, .string ⟨to.toArray⟩, .slice ab nb cb, .int .i64 n, .int .i64 m, .int .i64 pn, .slice af nf cf]] w (DoOut07 w d P (K + 1) [] 0 (st.sync nm).1 (st.sync nm).2) := by
  have hbx : Below w.heap.size w (w.alloc (.cells #[.int .i64 2, .string ⟨nm.toArray⟩, .string ⟨to.toArray⟩, .slice ab nb cb, .int .i64 n, .int .i64 m, .int .i64 pn, .slice af nf cf] 53)) := (Below.refl _ _).alloc (Nat.le_refl _) _
  have H := Lib.hid (h.below hbx)
  have HPP := Lib.hid (show ∀ k, P k → k < (w.alloc (.cells #[.int .i64 2, .string ⟨nm.toArray⟩, .string ⟨to.toArray⟩, .slice ab nb cb, .int .i64 n, .int .i64 m, .int .i64 pn, .slice af nf cf] 53)).heap.size from fun k hk => by have := hP k hk; simp; omega)
  have HBX := Lib.hid hbx
  clear h hP hbx
  go_enter Try.func26, Try.ntmps26
  go_wp2_with fail
  refine (sync_ds H.out HPP.out nm hnm).mono ?_
  rintro e w2 ⟨rfl, hd⟩
  have HD := Lib.hid (hd.more (Nat.le_succ K))
  clear hd
  obtain ⟨r, hr⟩ : ∃ r, r = (st.sync nm).1 := ⟨_, rfl⟩
  have hr15 : r ≤ 15 := by rw [hr]; exact sync_le _ _
  rw [← hr]
  have HRR := Lib.hid hr
  clear hr
  go_wp2_with fail
  refine (code_any r (by omega) (by omega) _).mono ?_
  rintro e w3 ⟨rfl, rfl⟩
  go_wp2_with fail
  go_ret3
  exact ⟨.slice none 0 0, by rw [HRR.out]; rfl, World.ownsRow_nil _ _ _ _, HD.out.from HBX.out⟩
set_option maxRecDepth 100000 in
set_option maxHeartbeats 2000000 in
theorem do07_3 {d K : Nat} {P : Nat → Prop} {st : Dk} {w : World} (h : DS w d P K st) (hP : ∀ k, P k → k < w.heap.size) (hK : K < 1099511627776) (nm to : Nm) (ab af : Option Addr) (nb cb nf cf : Nat) (n m pn : Int) (hnm : nm.length ≤ maxLen)  :
    Calls Try.prog 26 #[(.pointer (some ⟨d, 0, none⟩)), .agg #[.int .i64 3, .string ⟨nm.toArray⟩, .string ⟨to.toArray⟩, .slice ab nb cb, .int .i64 n, .int .i64 m, .int .i64 pn, .slice af nf cf]] w (DoOut07 w d P (K + 1) [] 0 (st.syncNames).1 (st.syncNames).2) := by
  have hbx : Below w.heap.size w (w.alloc (.cells #[.int .i64 3, .string ⟨nm.toArray⟩, .string ⟨to.toArray⟩, .slice ab nb cb, .int .i64 n, .int .i64 m, .int .i64 pn, .slice af nf cf] 53)) := (Below.refl _ _).alloc (Nat.le_refl _) _
  have H := Lib.hid (h.below hbx)
  have HPP := Lib.hid (show ∀ k, P k → k < (w.alloc (.cells #[.int .i64 3, .string ⟨nm.toArray⟩, .string ⟨to.toArray⟩, .slice ab nb cb, .int .i64 n, .int .i64 m, .int .i64 pn, .slice af nf cf] 53)).heap.size from fun k hk => by have := hP k hk; simp; omega)
  have HBX := Lib.hid hbx
  clear h hP hbx
  go_enter Try.func26, Try.ntmps26
  go_wp2_with fail
  refine (syncNames_ds H.out HPP.out).mono ?_
  rintro e w2 ⟨rfl, hd⟩
  have HD := Lib.hid (hd.more (Nat.le_succ K))
  clear hd
  obtain ⟨r, hr⟩ : ∃ r, r = (st.syncNames).1 := ⟨_, rfl⟩
  have hr15 : r ≤ 15 := by rw [hr]; exact syncNames_le _
  rw [← hr]
  have HRR := Lib.hid hr
  clear hr
  go_wp2_with fail
  refine (code_any r (by omega) (by omega) _).mono ?_
  rintro e w3 ⟨rfl, rfl⟩
  go_wp2_with fail
  go_ret3
  exact ⟨.slice none 0 0, by rw [HRR.out]; rfl, World.ownsRow_nil _ _ _ _, HD.out.from HBX.out⟩
set_option maxRecDepth 100000 in
set_option maxHeartbeats 2000000 in
theorem do07_4 {d K : Nat} {P : Nat → Prop} {st : Dk} {w : World} (h : DS w d P K st) (hP : ∀ k, P k → k < w.heap.size) (hK : K < 1099511627776) (nm to : Nm) (ab af : Option Addr) (nb cb nf cf : Nat) (n m pn : Int) (hnm : nm.length ≤ maxLen) (hto : to.length ≤ maxLen) :
    Calls Try.prog 26 #[(.pointer (some ⟨d, 0, none⟩)), .agg #[.int .i64 4, .string ⟨nm.toArray⟩, .string ⟨to.toArray⟩, .slice ab nb cb, .int .i64 n, .int .i64 m, .int .i64 pn, .slice af nf cf]] w (DoOut07 w d P (K + 1) [] 0 (st.rename nm to).1 (st.rename nm to).2) := by
  have hbx : Below w.heap.size w (w.alloc (.cells #[.int .i64 4, .string ⟨nm.toArray⟩, .string ⟨to.toArray⟩, .slice ab nb cb, .int .i64 n, .int .i64 m, .int .i64 pn, .slice af nf cf] 53)) := (Below.refl _ _).alloc (Nat.le_refl _) _
  have H := Lib.hid (h.below hbx)
  have HPP := Lib.hid (show ∀ k, P k → k < (w.alloc (.cells #[.int .i64 4, .string ⟨nm.toArray⟩, .string ⟨to.toArray⟩, .slice ab nb cb, .int .i64 n, .int .i64 m, .int .i64 pn, .slice af nf cf] 53)).heap.size from fun k hk => by have := hP k hk; simp; omega)
  have HBX := Lib.hid hbx
  clear h hP hbx
  go_enter Try.func26, Try.ntmps26
  go_wp2_with fail
  refine (rename_ds H.out HPP.out hK nm to hnm hto).mono ?_
  rintro e w2 ⟨rfl, hd⟩
  have HD := Lib.hid (hd)
  clear hd
  obtain ⟨r, hr⟩ : ∃ r, r = (st.rename nm to).1 := ⟨_, rfl⟩
  have hr15 : r ≤ 15 := by rw [hr]; exact rename_le _ _ _
  rw [← hr]
  have HRR := Lib.hid hr
  clear hr
  go_wp2_with fail
  refine (code_any r (by omega) (by omega) _).mono ?_
  rintro e w3 ⟨rfl, rfl⟩
  go_wp2_with fail
  go_ret3
  exact ⟨.slice none 0 0, by rw [HRR.out]; rfl, World.ownsRow_nil _ _ _ _, HD.out.from HBX.out⟩
set_option maxRecDepth 100000 in
set_option maxHeartbeats 2000000 in
theorem do07_5 {d K : Nat} {P : Nat → Prop} {st : Dk} {w : World} (h : DS w d P K st) (hP : ∀ k, P k → k < w.heap.size) (hK : K < 1099511627776) (nm to : Nm) (ab af : Option Addr) (nb cb nf cf : Nat) (n m pn : Int) (hnm : nm.length ≤ maxLen)  :
    Calls Try.prog 26 #[(.pointer (some ⟨d, 0, none⟩)), .agg #[.int .i64 5, .string ⟨nm.toArray⟩, .string ⟨to.toArray⟩, .slice ab nb cb, .int .i64 n, .int .i64 m, .int .i64 pn, .slice af nf cf]] w (DoOut07 w d P (K + 1) [] 0 (st.remove nm).1 (st.remove nm).2) := by
  have hbx : Below w.heap.size w (w.alloc (.cells #[.int .i64 5, .string ⟨nm.toArray⟩, .string ⟨to.toArray⟩, .slice ab nb cb, .int .i64 n, .int .i64 m, .int .i64 pn, .slice af nf cf] 53)) := (Below.refl _ _).alloc (Nat.le_refl _) _
  have H := Lib.hid (h.below hbx)
  have HPP := Lib.hid (show ∀ k, P k → k < (w.alloc (.cells #[.int .i64 5, .string ⟨nm.toArray⟩, .string ⟨to.toArray⟩, .slice ab nb cb, .int .i64 n, .int .i64 m, .int .i64 pn, .slice af nf cf] 53)).heap.size from fun k hk => by have := hP k hk; simp; omega)
  have HBX := Lib.hid hbx
  clear h hP hbx
  go_enter Try.func26, Try.ntmps26
  go_wp2_with fail
  refine (remove_ds H.out HPP.out hK nm hnm).mono ?_
  rintro e w2 ⟨rfl, hd⟩
  have HD := Lib.hid (hd)
  clear hd
  obtain ⟨r, hr⟩ : ∃ r, r = (st.remove nm).1 := ⟨_, rfl⟩
  have hr15 : r ≤ 15 := by rw [hr]; exact remove_le _ _
  rw [← hr]
  have HRR := Lib.hid hr
  clear hr
  go_wp2_with fail
  refine (code_any r (by omega) (by omega) _).mono ?_
  rintro e w3 ⟨rfl, rfl⟩
  go_wp2_with fail
  go_ret3
  exact ⟨.slice none 0 0, by rw [HRR.out]; rfl, World.ownsRow_nil _ _ _ _, HD.out.from HBX.out⟩
set_option maxRecDepth 100000 in
set_option maxHeartbeats 2000000 in
theorem do07_6 {d K : Nat} {P : Nat → Prop} {st : Dk} {w : World} (h : DS w d P K st) (hP : ∀ k, P k → k < w.heap.size) (hK : K < 1099511627776) (nm to : Nm) (ab af : Option Addr) (nb cb nf cf : Nat) (n m pn : Int) (hnm : nm.length ≤ maxLen)  :
    Calls Try.prog 26 #[(.pointer (some ⟨d, 0, none⟩)), .agg #[.int .i64 6, .string ⟨nm.toArray⟩, .string ⟨to.toArray⟩, .slice ab nb cb, .int .i64 n, .int .i64 m, .int .i64 pn, .slice af nf cf]] w (DoOut07 w d P (K + 1) [] 0 (st.cut nm n).1 (st.cut nm n).2) := by
  have hbx : Below w.heap.size w (w.alloc (.cells #[.int .i64 6, .string ⟨nm.toArray⟩, .string ⟨to.toArray⟩, .slice ab nb cb, .int .i64 n, .int .i64 m, .int .i64 pn, .slice af nf cf] 53)) := (Below.refl _ _).alloc (Nat.le_refl _) _
  have H := Lib.hid (h.below hbx)
  have HPP := Lib.hid (show ∀ k, P k → k < (w.alloc (.cells #[.int .i64 6, .string ⟨nm.toArray⟩, .string ⟨to.toArray⟩, .slice ab nb cb, .int .i64 n, .int .i64 m, .int .i64 pn, .slice af nf cf] 53)).heap.size from fun k hk => by have := hP k hk; simp; omega)
  have HBX := Lib.hid hbx
  clear h hP hbx
  go_enter Try.func26, Try.ntmps26
  go_wp2_with fail
  refine (cut_ds H.out HPP.out nm n hnm).mono ?_
  rintro e w2 ⟨rfl, hd⟩
  have HD := Lib.hid (hd.more (Nat.le_succ K))
  clear hd
  obtain ⟨r, hr⟩ : ∃ r, r = (st.cut nm n).1 := ⟨_, rfl⟩
  have hr15 : r ≤ 15 := by rw [hr]; exact cut_le _ _ _
  rw [← hr]
  have HRR := Lib.hid hr
  clear hr
  go_wp2_with fail
  refine (code_any r (by omega) (by omega) _).mono ?_
  rintro e w3 ⟨rfl, rfl⟩
  go_wp2_with fail
  go_ret3
  exact ⟨.slice none 0 0, by rw [HRR.out]; rfl, World.ownsRow_nil _ _ _ _, HD.out.from HBX.out⟩
set_option maxRecDepth 100000 in
set_option maxHeartbeats 2000000 in
theorem do07_7 {d K : Nat} {P : Nat → Prop} {st : Dk} {w : World} (h : DS w d P K st) (hP : ∀ k, P k → k < w.heap.size) (hK : K < 1099511627776) (nm to : Nm) (ab af : Option Addr) (nb cb nf cf : Nat) (n m pn : Int) (hnm : nm.length ≤ maxLen) (hn : n ≤ 9223372036854775807) :
    Calls Try.prog 26 #[(.pointer (some ⟨d, 0, none⟩)), .agg #[.int .i64 7, .string ⟨nm.toArray⟩, .string ⟨to.toArray⟩, .slice ab nb cb, .int .i64 n, .int .i64 m, .int .i64 pn, .slice af nf cf]] w (DoOut07 w d P (K + 1) [] 0 (st.arm n).1 (st.arm n).2) := by
  have hbx : Below w.heap.size w (w.alloc (.cells #[.int .i64 7, .string ⟨nm.toArray⟩, .string ⟨to.toArray⟩, .slice ab nb cb, .int .i64 n, .int .i64 m, .int .i64 pn, .slice af nf cf] 53)) := (Below.refl _ _).alloc (Nat.le_refl _) _
  have H := Lib.hid (h.below hbx)
  have HPP := Lib.hid (show ∀ k, P k → k < (w.alloc (.cells #[.int .i64 7, .string ⟨nm.toArray⟩, .string ⟨to.toArray⟩, .slice ab nb cb, .int .i64 n, .int .i64 m, .int .i64 pn, .slice af nf cf] 53)).heap.size from fun k hk => by have := hP k hk; simp; omega)
  have HBX := Lib.hid hbx
  clear h hP hbx
  go_enter Try.func26, Try.ntmps26
  go_wp2_with fail
  refine (arm_ds H.out HPP.out n hn).mono ?_
  rintro e w2 ⟨rfl, hd⟩
  have HD := Lib.hid (hd.more (Nat.le_succ K))
  clear hd
  obtain ⟨r, hr⟩ : ∃ r, r = (st.arm n).1 := ⟨_, rfl⟩
  have hr15 : r ≤ 15 := by rw [hr]; exact arm_le _ _
  rw [← hr]
  have HRR := Lib.hid hr
  clear hr
  go_wp2_with fail
  refine (code_any r (by omega) (by omega) _).mono ?_
  rintro e w3 ⟨rfl, rfl⟩
  go_wp2_with fail
  go_ret3
  exact ⟨.slice none 0 0, by rw [HRR.out]; rfl, World.ownsRow_nil _ _ _ _, HD.out.from HBX.out⟩
set_option maxRecDepth 100000 in
set_option maxHeartbeats 2000000 in
theorem do07_9 {d K : Nat} {P : Nat → Prop} {st : Dk} {w : World} (h : DS w d P K st) (hP : ∀ k, P k → k < w.heap.size) (hK : K < 1099511627776) (nm to : Nm) (ab af : Option Addr) (nb cb nf cf : Nat) (n m pn : Int) (hnm : nm.length ≤ maxLen)  :
    Calls Try.prog 26 #[(.pointer (some ⟨d, 0, none⟩)), .agg #[.int .i64 9, .string ⟨nm.toArray⟩, .string ⟨to.toArray⟩, .slice ab nb cb, .int .i64 n, .int .i64 m, .int .i64 pn, .slice af nf cf]] w (DoOut07 w d P (K + 1) [] 0 (st.spoil nm n (byteOf m)).1 (st.spoil nm n (byteOf m)).2) := by
  have hbx : Below w.heap.size w (w.alloc (.cells #[.int .i64 9, .string ⟨nm.toArray⟩, .string ⟨to.toArray⟩, .slice ab nb cb, .int .i64 n, .int .i64 m, .int .i64 pn, .slice af nf cf] 53)) := (Below.refl _ _).alloc (Nat.le_refl _) _
  have H := Lib.hid (h.below hbx)
  have HPP := Lib.hid (show ∀ k, P k → k < (w.alloc (.cells #[.int .i64 9, .string ⟨nm.toArray⟩, .string ⟨to.toArray⟩, .slice ab nb cb, .int .i64 n, .int .i64 m, .int .i64 pn, .slice af nf cf] 53)).heap.size from fun k hk => by have := hP k hk; simp; omega)
  have HBX := Lib.hid hbx
  clear h hP hbx
  have hby : Value.int .u8 (m % 256) = .int .u8 (byteOf m).toNat := by
    unfold byteOf
    congr 1
    rw [UInt8.toNat_ofNat']
    omega
  go_enter Try.func26, Try.ntmps26
  go_wp2_with fail
  rw [hby]
  refine (spoil_ds H.out HPP.out nm n (byteOf m) hnm).mono ?_
  rintro e w2 ⟨rfl, hd⟩
  have HD := Lib.hid (hd.more (Nat.le_succ K))
  clear hd
  obtain ⟨r, hr⟩ : ∃ r, r = (st.spoil nm n (byteOf m)).1 := ⟨_, rfl⟩
  have hr15 : r ≤ 15 := by rw [hr]; exact spoil_le _ _ _ _
  rw [← hr]
  have HRR := Lib.hid hr
  clear hr
  go_wp2_with fail
  refine (code_any r (by omega) (by omega) _).mono ?_
  rintro e w3 ⟨rfl, rfl⟩
  go_wp2_with fail
  go_ret3
  exact ⟨.slice none 0 0, by rw [HRR.out]; rfl, World.ownsRow_nil _ _ _ _, HD.out.from HBX.out⟩
set_option maxRecDepth 100000 in
set_option maxHeartbeats 2000000 in
theorem do07_8 {d K : Nat} {P : Nat → Prop} {st : Dk} {w : World} (h : DS w d P K st) (hP : ∀ k, P k → k < w.heap.size) (hK : K < 1099511627776) (nm to : Nm) (ab af : Option Addr) (nb cb nf cf : Nat) (n m pn : Int) (hnm : nm.length ≤ maxLen) (fs : List DPick) (hfl : fs.length = nf) (hr : Reads w 2 (.slice af nf cf) nf (fs.flatMap DPick.row)) (hnf : nf ≤ 1000) (hn1 : -9223372036854775808 ≤ pn) (hn2 : pn ≤ 9223372036854775807) (hpk : ∀ x ∈ fs, -9223372036854775808 ≤ x.keep ∧ x.keep ≤ 9223372036854775807) :
    Calls Try.prog 26 #[(.pointer (some ⟨d, 0, none⟩)), .agg #[.int .i64 8, .string ⟨nm.toArray⟩, .string ⟨to.toArray⟩, .slice ab nb cb, .int .i64 n, .int .i64 m, .int .i64 pn, .slice af nf cf]] w (DoOut07 w d P (K + 1) [] 0 0 (st.crash ⟨pn, fs⟩)) := by
  have hbx : Below w.heap.size w (w.alloc (.cells #[.int .i64 8, .string ⟨nm.toArray⟩, .string ⟨to.toArray⟩, .slice ab nb cb, .int .i64 n, .int .i64 m, .int .i64 pn, .slice af nf cf] 53)) := (Below.refl _ _).alloc (Nat.le_refl _) _
  have H := Lib.hid (h.below hbx)
  have HPP := Lib.hid (show ∀ k, P k → k < (w.alloc (.cells #[.int .i64 8, .string ⟨nm.toArray⟩, .string ⟨to.toArray⟩, .slice ab nb cb, .int .i64 n, .int .i64 m, .int .i64 pn, .slice af nf cf] 53)).heap.size from fun k hk => by have := hP k hk; simp; omega)
  have HBX := Lib.hid hbx
  clear h hP hbx
  have HR := Lib.hid hr
  have HPK := Lib.hid hpk
  subst hfl
  clear hr hpk
  go_enter Try.func26, Try.ntmps26
  go_wp2_with fail
  refine (picks_any pn fs af fs.length cf _ rfl hnf (HR.out.below (by repeat (first | (with_reducible exact Below.refl _ _) | (with_reducible refine Below.setCell ?_ ?_ _) | (with_reducible refine Below.alloc ?_ ?_ _) | (with_reducible refine Below.drewN ?_ _) | (with_reducible refine Below.drew ?_) | (with_reducible exact Nat.le_refl _) | (focus (simp only [World.size_alloc, World.size_setCell, World.size_drew, World.size_drewN]; omega)) | omega | exact Nat.le_refl _ | (focus (simp; done)) | (focus (simp; omega)))))).mono ?_
  rintro e w2 ⟨v, rfl, hov, hb2⟩
  obtain ⟨av, cv, rfl⟩ := ownsRow_len hov
  have HOV := Lib.hid hov
  have HB2 := Lib.hid hb2
  have hz2 := hb2.size
  simp only [World.size_alloc] at hz2
  have HD2 := Lib.hid (H.out.later (R := fun k => P k ∨ (w.heap.size + 1 ≤ k ∧ k < w2.heap.size)) hb2 fun k hk => hk.imp id fun hk => by simp; omega)
  clear hov hb2
  go_wp2_with fail
  refine (crash_ds HD2.out (fun k hk => hk.elim (fun hk => by have := HPP.out k hk; simp at this; omega) fun hk => hk.2) (by omega) ⟨pn, fs⟩ av cv (reads_of_owns HOV.out) (fun g e => by
    subst e
    rcases row_addr7 HOV.out with ⟨e, _⟩ | ⟨g', e⟩
    · cases e
    · cases e
      have := HOV.out.lt g' rfl
      simp only [World.size_alloc] at this
      exact ⟨rfl, .inr this, this.2⟩) hn1 hn2 HPK.out).mono ?_
  rintro e w3 ⟨rfl, hd3, hk3⟩
  have HD3 := Lib.hid ((hd3.less (R := P) fun k hk => .inl hk).more (Nat.le_succ K))
  have HK3 := Lib.hid (hk3.mono (R := P) fun k _ hk => .inl hk)
  clear hd3 hk3
  go_wp2_with fail
  refine (code0 _).mono ?_
  rintro e w4 ⟨rfl, rfl⟩
  go_wp2_with fail
  go_ret3
  exact ⟨.slice none 0 0, rfl, World.ownsRow_nil _ _ _ _, HD3.out, (KP.of HBX.out).trans ((KP.of HB2.out).trans HK3.out)⟩
set_option maxRecDepth 100000 in
set_option maxHeartbeats 2000000 in
theorem do07_10 {d K : Nat} {P : Nat → Prop} {st : Dk} {w : World} (h : DS w d P K st) (hP : ∀ k, P k → k < w.heap.size) (hK : K < 1099511627776) (nm to : Nm) (ab af : Option Addr) (nb cb nf cf : Nat) (n m pn : Int) (hnm : nm.length ≤ maxLen) (hn : n ≤ 9223372036854775807) (hm : m ≤ 9223372036854775807) :
    Calls Try.prog 26 #[(.pointer (some ⟨d, 0, none⟩)), .agg #[.int .i64 10, .string ⟨nm.toArray⟩, .string ⟨to.toArray⟩, .slice ab nb cb, .int .i64 n, .int .i64 m, .int .i64 pn, .slice af nf cf]] w (DoOut07 w d P (K + 1) (st.read nm n m).2 0 (st.read nm n m).1 st) := by
  have hbx : Below w.heap.size w (w.alloc (.cells #[.int .i64 10, .string ⟨nm.toArray⟩, .string ⟨to.toArray⟩, .slice ab nb cb, .int .i64 n, .int .i64 m, .int .i64 pn, .slice af nf cf] 53)) := (Below.refl _ _).alloc (Nat.le_refl _) _
  have H := Lib.hid (h.below hbx)
  have HPP := Lib.hid (show ∀ k, P k → k < (w.alloc (.cells #[.int .i64 10, .string ⟨nm.toArray⟩, .string ⟨to.toArray⟩, .slice ab nb cb, .int .i64 n, .int .i64 m, .int .i64 pn, .slice af nf cf] 53)).heap.size from fun k hk => by have := hP k hk; simp; omega)
  have HBX := Lib.hid hbx
  clear h hP hbx
  go_enter Try.func26, Try.ntmps26
  go_wp2_with fail
  refine (read_ds H.out nm n m hnm hm hn).mono ?_
  rintro e w2 hR
  obtain ⟨r, hr⟩ : ∃ r, r = (st.read nm n m).1 := ⟨_, rfl⟩
  have hr15 : r ≤ 15 := by rw [hr]; exact read_le _ _ _ _
  rw [← hr] at hR ⊢
  have HRR := Lib.hid hr
  clear hr
  obtain ⟨v, rfl, hov, hb2⟩ := hR
  have HOV := Lib.hid hov
  have HB2 := Lib.hid hb2
  clear hov hb2
  go_wp2_with fail
  refine (code_any r (by omega) (by omega) _).mono ?_
  rintro e w3 ⟨rfl, rfl⟩
  go_wp2_with fail
  go_ret3
  exact ⟨v, by rw [HRR.out]; rfl, ownsRow_mono HOV.out (by simp), (DTo.same (H.out.more (Nat.le_succ K)) HB2.out).from HBX.out⟩
set_option maxRecDepth 100000 in
set_option maxHeartbeats 2000000 in
theorem do07_size {d K : Nat} {P : Nat → Prop} {st : Dk} {w : World} (h : DS w d P K st) (hP : ∀ k, P k → k < w.heap.size) (hK : K < 1099511627776) (nm to : Nm) (ab af : Option Addr) (nb cb nf cf : Nat) (n m pn : Int) (hnm : nm.length ≤ maxLen) (k : Int) (h0 : k ≠ 0) (h1 : k ≠ 1) (h2 : k ≠ 2) (h3 : k ≠ 3) (h4 : k ≠ 4) (h5 : k ≠ 5) (h6 : k ≠ 6) (h7 : k ≠ 7) (h8 : k ≠ 8) (h9 : k ≠ 9) (h10 : k ≠ 10) :
    Calls Try.prog 26 #[(.pointer (some ⟨d, 0, none⟩)), .agg #[.int .i64 k, .string ⟨nm.toArray⟩, .string ⟨to.toArray⟩, .slice ab nb cb, .int .i64 n, .int .i64 m, .int .i64 pn, .slice af nf cf]] w (DoOut07 w d P (K + 1) [] (st.size nm).2 (st.size nm).1 st) := by
  have hbx : Below w.heap.size w (w.alloc (.cells #[.int .i64 k, .string ⟨nm.toArray⟩, .string ⟨to.toArray⟩, .slice ab nb cb, .int .i64 n, .int .i64 m, .int .i64 pn, .slice af nf cf] 53)) := (Below.refl _ _).alloc (Nat.le_refl _) _
  have H := Lib.hid (h.below hbx)
  have HPP := Lib.hid (show ∀ k, P k → k < (w.alloc (.cells #[.int .i64 k, .string ⟨nm.toArray⟩, .string ⟨to.toArray⟩, .slice ab nb cb, .int .i64 n, .int .i64 m, .int .i64 pn, .slice af nf cf] 53)).heap.size from fun k hk => by have := hP k hk; simp; omega)
  have HBX := Lib.hid hbx
  clear h hP hbx
  go_enter Try.func26, Try.ntmps26
  go_wp2_with fail
  refine (size_ds H.out nm hnm).mono ?_
  rintro e w2 ⟨rfl, rfl⟩
  obtain ⟨r, hr⟩ : ∃ r, r = (st.size nm).1 := ⟨_, rfl⟩
  have hr15 : r ≤ 15 := by rw [hr]; exact size_le _ _
  rw [← hr]
  have HRR := Lib.hid hr
  clear hr
  go_wp2_with fail
  refine (code_any r (by omega) (by omega) _).mono ?_
  rintro e w3 ⟨rfl, rfl⟩
  go_wp2_with fail
  go_ret3
  exact ⟨.slice none 0 0, by rw [HRR.out]; rfl, World.ownsRow_nil _ _ _ _, (DTo.same (H.out.more (Nat.le_succ K)) (Below.refl _ _)).from HBX.out⟩
def Dk.ok (a : DAct) : Prop := a.name.length ≤ maxLen ∧ a.to.length ≤ maxLen ∧ a.n ≤ 9223372036854775807 ∧ a.m ≤ 9223372036854775807 ∧ a.p.files.length ≤ 1000 ∧ -9223372036854775808 ≤ a.p.names ∧ a.p.names ≤ 9223372036854775807 ∧ ∀ x ∈ a.p.files, -9223372036854775808 ≤ x.keep ∧ x.keep ≤ 9223372036854775807
/-- Any call. -/
theorem do07_any {d K : Nat} {P : Nat → Prop} {st : Dk} {w : World} (h : DS w d P K st) (hP : ∀ k, P k → k < w.heap.size) (hK : K < 1099511627776) (a : DAct) (ha : Dk.ok a) (ab af : Option Addr) (cb cf : Nat)
    (hrb : Reads w 1 (.slice ab a.b.length cb) a.b.length (a.b.map bv)) (hrf : Reads w 2 (.slice af a.p.files.length cf) a.p.files.length (a.p.files.flatMap DPick.row)) :
    Calls Try.prog 26 #[(.pointer (some ⟨d, 0, none⟩)), .agg #[.int .i64 a.kind, .string ⟨a.name.toArray⟩, .string ⟨a.to.toArray⟩, .slice ab a.b.length cb, .int .i64 a.n, .int .i64 a.m, .int .i64 a.p.names, .slice af a.p.files.length cf]] w
      (DoOut07 w d P (K + 1) (st.callB a) (st.callN a) (st.call a).1 (st.call a).2) := by
  obtain ⟨k, nm, to, b, n, m, pn, fs⟩ := a
  obtain ⟨h1, h2, h3, h4, h5, h6, h7, h8⟩ := ha
  simp only at *
  by_cases k0 : k = 0
  · subst k0
    exact do07_0 h hP hK nm to ab af b.length cb fs.length cf n m pn h1 
  by_cases k1 : k = 1
  · subst k1
    exact do07_1 h hP hK nm to ab af b.length cb fs.length cf n m pn h1 b rfl hrb
  by_cases k2 : k = 2
  · subst k2
    exact do07_2 h hP hK nm to ab af b.length cb fs.length cf n m pn h1 
  by_cases k3 : k = 3
  · subst k3
    exact do07_3 h hP hK nm to ab af b.length cb fs.length cf n m pn h1 
  by_cases k4 : k = 4
  · subst k4
    exact do07_4 h hP hK nm to ab af b.length cb fs.length cf n m pn h1 h2
  by_cases k5 : k = 5
  · subst k5
    exact do07_5 h hP hK nm to ab af b.length cb fs.length cf n m pn h1 
  by_cases k6 : k = 6
  · subst k6
    exact do07_6 h hP hK nm to ab af b.length cb fs.length cf n m pn h1 
  by_cases k7 : k = 7
  · subst k7
    exact do07_7 h hP hK nm to ab af b.length cb fs.length cf n m pn h1 h3
  by_cases k8 : k = 8
  · subst k8
    exact do07_8 h hP hK nm to ab af b.length cb fs.length cf n m pn h1 fs rfl hrf h5 h6 h7 h8
  by_cases k9 : k = 9
  · subst k9
    exact do07_9 h hP hK nm to ab af b.length cb fs.length cf n m pn h1 
  by_cases k10 : k = 10
  · subst k10
    exact do07_10 h hP hK nm to ab af b.length cb fs.length cf n m pn h1 h3 h4
  have e1 : st.callB ⟨k, nm, to, b, n, m, ⟨pn, fs⟩⟩ = [] := by unfold Dk.callB; rw [if_neg k10]
  have e2 : st.callN ⟨k, nm, to, b, n, m, ⟨pn, fs⟩⟩ = (st.size nm).2 := by unfold Dk.callN; exact if_neg (fun e => by have e1 : 0 ≤ k := e.1; have e2 : k ≤ 10 := e.2; omega)
  have e3 : st.call ⟨k, nm, to, b, n, m, ⟨pn, fs⟩⟩ = ((st.size nm).1, st) := by unfold Dk.call; simp only [k0, k1, k2, k3, k4, k5, k6, k7, k8, k9, k10, if_false]
  rw [e1, e2, e3]
  exact do07_size h hP hK nm to ab af b.length cb fs.length cf n m pn h1 k k0 k1 k2 k3 k4 k5 k6 k7 k8 k9 k10
end Go.Proofs.Ytcicnjlkcbimgaa
