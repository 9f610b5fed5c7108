import Derived.Test.YtmkhacgdejkimaaGreatDoorVlDiskNames
import Derived.Test.YtmkhacgdejkimaaGreatDoorVlDiskPicks
namespace Go.Proofs.YtmkhacgdejkimaaGreatDoor
open Go.RowKit
def DS (w : World) (d : Nat) (P : Nat → Prop) (K : Nat) (st : Dk) : Prop := ∃ F q, DiskAt w d F q st ∧ DkOk K st ∧ ∀ k, F k → ¬ P k ∧ k < w.heap.size
def KP (P : Nat → Prop) (w w' : World) : Prop := Keeps (fun k => ¬ P k) w w' 
theorem KP.refl (P : Nat → Prop) (w : World) : KP P w w := Keeps.refl _ _
theorem KP.trans {P : Nat → Prop} {a b c : World} (h : KP P a b) (k : KP P b c) : KP P a c := Keeps.trans h k fun _ _ e => e
theorem KP.mono {P R : Nat → Prop} {a b : World} (h : KP P a b) (hr : ∀ k, k < a.heap.size → R k → P k) : KP R a b := Keeps.mono h fun k hk e f => e (hr k hk f)
theorem KP.of {P : Nat → Prop} {a b : World} (h : Below a.heap.size a b) : KP P a b := keeps_below _ h
theorem KP.below {P : Nat → Prop} {a b : World} {B : Nat} (h : KP P a b) (hB : B ≤ a.heap.size) (hP : ∀ k, k < B → P k) : Below B a b := Keeps.below h hB fun k hk => by
  apply Classical.byContradiction
  intro e
  exact hk (hP k (by omega))
theorem KP.blk {P : Nat → Prop} {w w' : World} (h : KP P w w') {k : Nat} {x : Obj} (hb : w.heap[k]? = some x) (hp : P k) : w'.heap[k]? = some x := (h.block k (blk_lt hb) fun e => e hp).trans hb
theorem KP.row {P : Nat → Prop} {w w' : World} {base : Nat} {e : TypeId} {size : Nat} {v : Value} {n : Nat} {xs : List Value} (h : KP P w w') (hr : w.ownsRow base e size v n xs) (hp : ∀ k, v.ownBlock = some k → P k) : w'.ownsRow base e size v n xs :=
  ownsRow_keeps hr h fun k hk e => e (hp k hk)
theorem DS.ok {w : World} {d K : Nat} {P : Nat → Prop} {st : Dk} (h : DS w d P K st) : DkOk K st := by obtain ⟨_, _, _, h, _⟩ := h; exact h
theorem DS.later {w w' : World} {d K : Nat} {P R : Nat → Prop} {st : Dk} (h : DS w d P K st) (hb : Below w.heap.size w w') (hr : ∀ k, R k → P k ∨ w.heap.size ≤ k) : DS w' d R K st := by
  obtain ⟨F, q, h1, h2, h3⟩ := h
  exact ⟨F, q, h1.below hb, h2, fun k hk => ⟨fun e => (hr k e).elim (h3 k hk).1 fun e => by have := (h3 k hk).2; omega, Nat.lt_of_lt_of_le (h3 k hk).2 hb.size⟩⟩
theorem DS.below {w w' : World} {d K : Nat} {P : Nat → Prop} {st : Dk} (h : DS w d P K st) (hb : Below w.heap.size w w') : DS w' d P K st := h.later hb fun _ e => .inl e
theorem DS.less {w : World} {d K : Nat} {P R : Nat → Prop} {st : Dk} (h : DS w d P K st) (hr : ∀ k, R k → P k) : DS w d R K st := by
  obtain ⟨F, q, h1, h2, h3⟩ := h
  exact ⟨F, q, h1, h2, fun k hk => ⟨fun e => (h3 k hk).1 (hr k e), (h3 k hk).2⟩⟩
theorem DS.more {w : World} {d K L : Nat} {P : Nat → Prop} {st : Dk} (h : DS w d P K st) (hl : K ≤ L) : DS w d P L st := by
  obtain ⟨F, q, h1, h2, h3⟩ := h
  exact ⟨F, q, h1, h2.mono hl, h3⟩
def DTo (w w' : World) (d : Nat) (P : Nat → Prop) (K : Nat) (st : Dk) : Prop := DS w' d P K st ∧ KP P w w'
theorem DTo.of {w w' : World} {d K : Nat} {P F : Nat → Prop} {st : Dk} (hP : ∀ k, P k → k < w.heap.size) (hF : ∀ k, F k → ¬ P k ∧ k < w.heap.size) (h : DiskTo w w' d F st) (hok : DkOk K st) : DTo w w' d P K st := by
  obtain ⟨⟨q, h1⟩, h2⟩ := h
  exact ⟨⟨_, q, h1, hok, fun k hk => ⟨fun e => hk.1.elim (fun f => (hF k f).1 e) fun f => by have := hP k e; omega, hk.2⟩⟩, Keeps.mono h2 fun k _ f => (hF k f).1⟩
theorem DTo.more {w w' : World} {d K L : Nat} {P : Nat → Prop} {st : Dk} (h : DTo w w' d P K st) (hl : K ≤ L) : DTo w w' d P L st := ⟨h.1.more hl, h.2⟩
theorem new_ds (c : Nat) (hc : c ≤ 1073741824) (w : World) :
    Calls Tryz.prog 31 #[.int .i64 c] w fun e w' => e = .returned (.tuple #[(.pointer (some ⟨w.heap.size + 2, 0, none⟩)), .nilIface]) ∧ DS w' (w.heap.size + 2) (fun k => k < w.heap.size) 0 (Dk.new c) ∧ Below w.heap.size w w' ∧ w.heap.size + 2 < w'.heap.size := by
  refine (new_any c hc w).mono ?_
  rintro e w' ⟨he, ⟨q, h⟩, hb⟩
  exact ⟨he, ⟨_, q, h.trim, DkOk.new hc, fun k hk => ⟨by have := hk.1; omega, hk.2⟩⟩, hb, blk_lt h.blk⟩
section
variable {d K : Nat} {P : Nat → Prop} {st : Dk} {w : World} (h : DS w d P K st) (hP : ∀ k, P k → k < w.heap.size)
include h hP
theorem create_ds (hK : K < 1099511627776) (s : Nm) (hs : s.length ≤ maxLen) : Calls Tryz.prog 16 #[(.pointer (some ⟨d, 0, none⟩)), .string ⟨s.toArray⟩] w fun e w' => e = .returned (errV (st.create s).1) ∧ DTo w w' d P (K + 1) (st.create s).2 := by
  obtain ⟨F, q, h1, h2, h3⟩ := h
  exact (create_any d F q st s K w h1 h2 hK hs).mono fun e w' ⟨he, ht⟩ => ⟨he, .of hP h3 ht (h2.create s)⟩
theorem remove_ds (hK : K < 1099511627776) (s : Nm) (hs : s.length ≤ maxLen) : Calls Tryz.prog 92 #[(.pointer (some ⟨d, 0, none⟩)), .string ⟨s.toArray⟩] w fun e w' => e = .returned (errV (st.remove s).1) ∧ DTo w w' d P (K + 1) (st.remove s).2 := by
  obtain ⟨F, q, h1, h2, h3⟩ := h
  exact (remove_any d F q st s K w h1 h2 (Nat.le_of_lt hK) hs).mono fun e w' ⟨he, ht⟩ => ⟨he, .of hP h3 ht (h2.remove s)⟩
theorem rename_ds (hK : K < 1099511627776) (s t : Nm) (hs : s.length ≤ maxLen) (ht : t.length ≤ maxLen) : Calls Tryz.prog 95 #[(.pointer (some ⟨d, 0, none⟩)), .string ⟨s.toArray⟩, .string ⟨t.toArray⟩] w fun e w' => e = .returned (errV (st.rename s t).1) ∧ DTo w w' d P (K + 1) (st.rename s t).2 := by
  obtain ⟨F, q, h1, h2, h3⟩ := h
  exact (rename_any d F q st s t K w h1 h2 (Nat.le_of_lt hK) hs ht).mono fun e w' ⟨he, ht⟩ => ⟨he, .of hP h3 ht (h2.rename s t)⟩
theorem arm_ds (n : Int) (hn : n ≤ 9223372036854775807) : Calls Tryz.prog 44 #[(.pointer (some ⟨d, 0, none⟩)), .int .i64 n] w fun e w' => e = .returned (errV (st.arm n).1) ∧ DTo w w' d P K (st.arm n).2 := by
  obtain ⟨F, q, h1, h2, h3⟩ := h
  exact (arm_any d F q st n w h1).mono fun e w' ⟨he, ht⟩ => ⟨he, .of hP h3 ht (h2.arm n hn)⟩
theorem sync_ds (s : Nm) (hs : s.length ≤ maxLen) : Calls Tryz.prog 94 #[(.pointer (some ⟨d, 0, none⟩)), .string ⟨s.toArray⟩] w fun e w' => e = .returned (errV (st.sync s).1) ∧ DTo w w' d P K (st.sync s).2 := by
  obtain ⟨F, q, h1, h2, h3⟩ := h
  exact (sync_any d F q st s K w h1 h2 hs).mono fun e w' ⟨he, ht⟩ => ⟨he, .of hP h3 ht (h2.sync s)⟩
theorem append_ds (s : Nm) (vb : Value) (b : List UInt8) (hs : s.length ≤ maxLen) (hr : Reads w 1 vb b.length (b.map bv)) : Calls Tryz.prog 17 #[(.pointer (some ⟨d, 0, none⟩)), .string ⟨s.toArray⟩, vb] w fun e w' => e = .returned (errV (st.append s b).1) ∧ DTo w w' d P K (st.append s b).2 := by
  obtain ⟨F, q, h1, h2, h3⟩ := h
  exact (append_any d F q st s vb b K w h1 h2 hs hr).mono fun e w' ⟨he, ht⟩ => ⟨he, .of hP h3 ht (h2.append s b)⟩
theorem cut_ds (s : Nm) (n : Int) (hs : s.length ≤ maxLen) : Calls Tryz.prog 135 #[(.pointer (some ⟨d, 0, none⟩)), .string ⟨s.toArray⟩, .int .i64 n] w fun e w' => e = .returned (errV (st.cut s n).1) ∧ DTo w w' d P K (st.cut s n).2 := by
  obtain ⟨F, q, h1, h2, h3⟩ := h
  exact (cut_any d F q st s n K w h1 h2 hs).mono fun e w' ⟨he, ht⟩ => ⟨he, .of hP h3 ht (h2.cut s n)⟩
theorem syncNames_ds : Calls Tryz.prog 96 #[(.pointer (some ⟨d, 0, none⟩))] w fun e w' => e = .returned (errV st.syncNames.1) ∧ DTo w w' d P K st.syncNames.2 := by
  obtain ⟨F, q, h1, h2, h3⟩ := h
  exact (syncNames_any d F q st K w h1 h2).mono fun e w' ⟨he, ht⟩ => ⟨he, .of hP h3 ht h2.syncNames⟩
theorem crash_ds (hK : K ≤ 1099511627776) (p : DPicks) (af : Option Addr) (cf : Nat) (hp : Reads w 2 (.slice af p.files.length cf) p.files.length (p.files.flatMap DPick.row)) (hpF : ∀ a, af = some a → a.spot = none ∧ P a.block ∧ a.block < w.heap.size)
    (hn1 : -9223372036854775808 ≤ p.names) (hn2 : p.names ≤ 9223372036854775807) (hpk : ∀ x ∈ p.files, -9223372036854775808 ≤ x.keep ∧ x.keep ≤ 9223372036854775807) :
    Calls Tryz.prog 37 #[(.pointer (some ⟨d, 0, none⟩)), .agg #[.int .i64 p.names, .slice af p.files.length cf]] w fun e w' => e = .returned .nilIface ∧ DTo w w' d P K (st.crash p) := by
  obtain ⟨F, q, h1, h2, h3⟩ := h
  exact (crash_any d F q st p af cf K w h1 h2 hK hp (fun a ha => ⟨(hpF a ha).1, fun e => (h3 _ e).1 (hpF a ha).2.1, (hpF a ha).2.2⟩) hn1 hn2 hpk).mono fun e w' ⟨he, ht⟩ => ⟨he, .of hP h3 ht (h2.crash p)⟩
omit hP in
theorem size_ds (s : Nm) (hs : s.length ≤ maxLen) : Calls Tryz.prog 45 #[(.pointer (some ⟨d, 0, none⟩)), .string ⟨s.toArray⟩] w fun e w' => e = .returned (.tuple #[.int .i64 (st.size s).2, errV (st.size s).1]) ∧ w = w' := by
  obtain ⟨F, q, h1, h2, h3⟩ := h
  exact size_any d F q st s K w h1 h2 hs
omit hP in
omit hP in
theorem read_ds (s : Nm) (off n : Int) (hs : s.length ≤ maxLen) (hn2 : n ≤ 9223372036854775807) (ho2 : off ≤ 9223372036854775807) : Calls Tryz.prog 130 #[(.pointer (some ⟨d, 0, none⟩)), .string ⟨s.toArray⟩, .int .i64 off, .int .i64 n] w (ReadTo w (st.read s off n).1 (st.read s off n).2) := by
  obtain ⟨F, q, h1, h2, h3⟩ := h
  exact read_any d F q st s off n K w h1 h2 hs hn2 ho2
omit hP in
theorem names_ds : Calls Tryz.prog 34 #[(.pointer (some ⟨d, 0, none⟩))] w fun e w' => ∃ v, e = .returned v ∧ w'.ownsRow w.heap.size 9 1 v st.now.length ((namesOf st.now).map strV) ∧ Below w.heap.size w w' := by
  obtain ⟨F, q, h1, h2, h3⟩ := h
  exact names_any d F q st K w h1 h2
end
theorem code0 (w : World) : Calls Tryz.prog 14 #[.nilIface] w fun e w' => e = .returned (.int .i64 0) ∧ w = w' := code_any 0 (by omega) (by omega) w
end Go.Proofs.YtmkhacgdejkimaaGreatDoor
