/- DiskLasts: the plain law. -/
import Derived.Test.YtcicnjlkcbimgaaDiskPlain
namespace Go.Proofs.Ytcicnjlkcbimgaa
section
variable (a b c : List UInt8) (n : Int)
def lk0 : Dk := ((Dk.new 5000).create [120]).2
def lk1 : Dk := (lk0.append [120] a).2
def lk2 : Dk := ((lk1 a).sync [120]).2
def lk3 : Dk := (lk2 a).syncNames.2
def lk4 : Dk := ((lk3 a).arm n).2
def lk5 : Dk := ((lk4 a n).append [120] b).2
def lk6 : Dk := ((lk5 a b n).create [121]).2
def lk7 : Dk := ((lk6 a b n).append [121] c).2
def lk8 : Dk := ((lk7 a b c n).sync [121]).2
def lk9 : Dk := ((lk8 a b c n).rename [121] [122]).2
end
variable {a b c : List UInt8} {n : Int}
theorem lk0_eq : lk0 = ⟨5000, [([120], 0)], [], [⟨0, [], [120], 0⟩], [⟨[], 0⟩], -1⟩ := rfl
theorem lk1_eq (ha : a.length ≤ 300) : lk1 a = ⟨5000, [([120], 0)], [], [⟨0, [], [120], 0⟩], [⟨a, 0⟩], -1⟩ := by
  unfold lk1
  rw [lk0_eq]
  have h1 : ¬ 16777216 < a.length := by omega
  have h2 : ¬ 5000 < a.length := by omega
  simp [Dk.append, Dk.fnd, Dk.fileAt, Dk.used, Dk.setF, Dk.did, dirGet, h1, h2]
theorem lk2_eq (ha : a.length ≤ 300) : lk2 a = ⟨5000, [([120], 0)], [], [⟨0, [], [120], 0⟩], [⟨a, a.length⟩], -1⟩ := by
  unfold lk2
  rw [lk1_eq ha]
  simp [Dk.sync, Dk.fnd, Dk.fileAt, Dk.setF, Dk.did, dirGet]
theorem lk3_eq (ha : a.length ≤ 300) : (lk2 a).syncNames = (0, ⟨5000, [([120], 0)], [([120], 0)], [], [⟨a, a.length⟩], -1⟩) := by
  rw [lk2_eq ha]
  simp [Dk.syncNames, Dk.did]
theorem lk4_eq (ha : a.length ≤ 300) (hn : 0 ≤ n) : lk4 a n = ⟨5000, [([120], 0)], [([120], 0)], [], [⟨a, a.length⟩], n⟩ := by
  have h1 : ¬ n < 0 := by omega
  unfold lk4 lk3
  rw [lk3_eq ha]
  simp [Dk.arm, h1]
/-- What the disk is like ahead of the crash. -/
def lkAt (a b c : List UInt8) (n : Int) : Dk :=
  if n = 0 then ⟨5000, [([120], 0)], [([120], 0)], [], [⟨a, a.length⟩], 0⟩
  else if n = 1 then ⟨5000, [([120], 0)], [([120], 0)], [], [⟨a ++ b, a.length⟩], 0⟩
  else if n = 2 then ⟨5000, [([120], 0), ([121], 1)], [([120], 0)], [⟨0, [], [121], 1⟩], [⟨a ++ b, a.length⟩, ⟨[], 0⟩], 0⟩
  else if n = 3 then ⟨5000, [([120], 0), ([121], 1)], [([120], 0)], [⟨0, [], [121], 1⟩], [⟨a ++ b, a.length⟩, ⟨c, 0⟩], 0⟩
  else if n = 4 then ⟨5000, [([120], 0), ([121], 1)], [([120], 0)], [⟨0, [], [121], 1⟩], [⟨a ++ b, a.length⟩, ⟨c, c.length⟩], 0⟩
  else ⟨5000, [([120], 0), ([122], 1)], [([120], 0)], [⟨0, [], [121], 1⟩, ⟨1, [121], [122], 1⟩], [⟨a ++ b, a.length⟩, ⟨c, c.length⟩], n - 5⟩
theorem dead_append (d : Dk) (s : Nm) (x : List UInt8) (h : d.armed = 0) : (d.append s x).2 = d := by simp [Dk.append, Dk.fnd, h]
theorem dead_create (d : Dk) (s : Nm) (h : d.armed = 0) : (d.create s).2 = d := by simp [Dk.create, h]
theorem dead_sync (d : Dk) (s : Nm) (h : d.armed = 0) : (d.sync s).2 = d := by simp [Dk.sync, Dk.fnd, h]
theorem dead_rename (d : Dk) (s t : Nm) (h : d.armed = 0) : (d.rename s t).2 = d := by simp [Dk.rename, Dk.fnd, h]
theorem lk5_go (ha : a.length ≤ 300) (hb : b.length ≤ 300) (hn : 0 < n) : lk5 a b n = ⟨5000, [([120], 0)], [([120], 0)], [], [⟨a ++ b, a.length⟩], n - 1⟩ := by
  unfold lk5
  rw [lk4_eq ha (by omega)]
  have h1 : ¬ 16777216 < a.length + b.length := by omega
  have h2 : ¬ 5000 < a.length + b.length := by omega
  have h3 : n ≠ 0 := by omega
  simp [Dk.append, Dk.fnd, Dk.fileAt, Dk.used, Dk.setF, Dk.did, dirGet, h1, h2, h3, hn]
theorem lk6_go (ha : a.length ≤ 300) (hb : b.length ≤ 300) (hn : 1 < n) : lk6 a b n = ⟨5000, [([120], 0), ([121], 1)], [([120], 0)], [⟨0, [], [121], 1⟩], [⟨a ++ b, a.length⟩, ⟨[], 0⟩], n - 2⟩ := by
  unfold lk6
  rw [lk5_go ha hb (by omega)]
  have h1 : ¬ n - 1 = 0 := by omega
  have h2 : 0 < n - 1 := by omega
  have h3 : namedB [121] = true := by decide
  have h4 : dirPut [([120], 0)] [121] 1 = [([120], 0), ([121], 1)] := by decide
  simp [Dk.create, Dk.turn, Dk.did, dirGet, Deed.app, h1, h2, h3, h4]
  omega
theorem lk7_go (ha : a.length ≤ 300) (hb : b.length ≤ 300) (hc : c.length ≤ 300) (hn : 2 < n) : lk7 a b c n = ⟨5000, [([120], 0), ([121], 1)], [([120], 0)], [⟨0, [], [121], 1⟩], [⟨a ++ b, a.length⟩, ⟨c, 0⟩], n - 3⟩ := by
  unfold lk7
  rw [lk6_go ha hb (by omega)]
  have h1 : ¬ n - 2 = 0 := by omega
  have h2 : 0 < n - 2 := by omega
  have h3 : ¬ 16777216 < c.length := by omega
  have h4 : ¬ 5000 < a.length + b.length + c.length := by omega
  simp [Dk.append, Dk.fnd, Dk.fileAt, Dk.used, Dk.setF, Dk.did, dirGet, h1, h2, h3, h4]
  omega
theorem lk8_go (ha : a.length ≤ 300) (hb : b.length ≤ 300) (hc : c.length ≤ 300) (hn : 3 < n) : lk8 a b c n = ⟨5000, [([120], 0), ([121], 1)], [([120], 0)], [⟨0, [], [121], 1⟩], [⟨a ++ b, a.length⟩, ⟨c, c.length⟩], n - 4⟩ := by
  unfold lk8
  rw [lk7_go ha hb hc (by omega)]
  have h1 : ¬ n - 3 = 0 := by omega
  have h2 : 0 < n - 3 := by omega
  simp [Dk.sync, Dk.fnd, Dk.fileAt, Dk.setF, Dk.did, dirGet, h1, h2]
  omega
theorem lk9_go (ha : a.length ≤ 300) (hb : b.length ≤ 300) (hc : c.length ≤ 300) (hn : 4 < n) : lk9 a b c n = ⟨5000, [([120], 0), ([122], 1)], [([120], 0)], [⟨0, [], [121], 1⟩, ⟨1, [121], [122], 1⟩], [⟨a ++ b, a.length⟩, ⟨c, c.length⟩], n - 5⟩ := by
  unfold lk9
  rw [lk8_go ha hb hc (by omega)]
  have h1 : ¬ n - 4 = 0 := by omega
  have h2 : 0 < n - 4 := by omega
  have h3 : namedB [122] = true := by decide
  have h4 : dirPut (dirDel [([120], 0), ([121], 1)] [121]) [122] 1 = [([120], 0), ([122], 1)] := by decide
  simp [Dk.rename, Dk.fnd, Dk.turn, Dk.did, dirGet, Deed.app, h1, h2, h3, h4]
  omega
theorem lk9_eq (ha : a.length ≤ 300) (hb : b.length ≤ 300) (hc : c.length ≤ 300) (hn : 0 ≤ n) : lk9 a b c n = lkAt a b c n := by
  unfold lkAt
  by_cases h0 : n = 0
  · rw [if_pos h0]
    subst h0
    have e := lk4_eq (n := 0) ha hn
    unfold lk9 lk8 lk7 lk6 lk5
    rw [e, dead_append ⟨5000, [([120], 0)], [([120], 0)], [], [⟨a, a.length⟩], 0⟩ _ _ rfl, dead_create _ _ rfl, dead_append ⟨5000, [([120], 0)], [([120], 0)], [], [⟨a, a.length⟩], 0⟩ _ _ rfl, dead_sync _ _ rfl, dead_rename _ _ _ rfl]
  rw [if_neg h0]
  by_cases h1 : n = 1
  · rw [if_pos h1]
    have e := lk5_go (n := n) ha hb (by omega)
    have hz : n - 1 = 0 := by omega
    unfold lk9 lk8 lk7 lk6
    rw [e, dead_create _ _ hz, dead_append _ _ _ hz, dead_sync _ _ hz, dead_rename _ _ _ hz, hz]
  rw [if_neg h1]
  by_cases h2 : n = 2
  · rw [if_pos h2]
    have e := lk6_go (n := n) ha hb (by omega)
    have hz : n - 2 = 0 := by omega
    unfold lk9 lk8 lk7
    rw [e, dead_append _ _ _ hz, dead_sync _ _ hz, dead_rename _ _ _ hz, hz]
  rw [if_neg h2]
  by_cases h3 : n = 3
  · rw [if_pos h3]
    have e := lk7_go (n := n) ha hb hc (by omega)
    have hz : n - 3 = 0 := by omega
    unfold lk9 lk8
    rw [e, dead_sync _ _ hz, dead_rename _ _ _ hz, hz]
  rw [if_neg h3]
  by_cases h4 : n = 4
  · rw [if_pos h4]
    have e := lk8_go (n := n) ha hb hc (by omega)
    have hz : n - 4 = 0 := by omega
    unfold lk9
    rw [e, dead_rename _ _ _ hz, hz]
  rw [if_neg h4]
  exact lk9_go ha hb hc (by omega)
/-- What is read of x behind the crash. -/
structure LastsOk (a b s : List UInt8) : Prop where
  lo : a.length ≤ s.length
  hi : s.length ≤ a.length + b.length
  pre : s.take a.length = a
  mid : ∀ k, a.length ≤ k → k + 1 < s.length → s[k]? = b[k - a.length]?
theorem settle_lasts_ok (a b : List UInt8) (p : DPick) : LastsOk a b ((⟨a ++ b, a.length⟩ : DFile).settle p).b := by
  have hk : keepN ⟨a ++ b, a.length⟩ p ≤ b.length := by
    have : keepN ⟨a ++ b, a.length⟩ p ≤ (a ++ b).length - a.length := Nat.min_le_right _ _
    simpa using this
  have hl := settle_len ⟨a ++ b, a.length⟩ p (by simp)
  simp only at hl
  have hb : ∀ k, k + 1 < a.length + keepN ⟨a ++ b, a.length⟩ p ∨ k < a.length → ((⟨a ++ b, a.length⟩ : DFile).settle p).b[k]? = (a ++ b)[k]? := fun k hk' => by
    unfold DFile.settle
    dsimp only
    split
    · rename_i h0
      unfold xorAt
      rw [List.getElem?_set_ne (by rw [List.length_take, List.length_append]; omega), List.getElem?_take_of_lt (by omega)]
    · rw [List.getElem?_take_of_lt (by omega)]
  refine ⟨by omega, by omega, ?_, fun k h1 h2 => ?_⟩
  · apply List.ext_getElem?
    intro k
    by_cases h : k < a.length
    · rw [List.getElem?_take_of_lt h, hb k (.inr h), List.getElem?_append_left h]
    · rw [List.getElem?_eq_none (by rw [List.length_take]; omega), List.getElem?_eq_none (by omega)]
  · rw [hb k (.inl (by omega)), List.getElem?_append_right h1]
theorem lastsOk_no {a b s : List UInt8} (h : LastsOk a [] s) : LastsOk a b s := by
  have h2 := h.hi
  have h1 := h.lo
  simp at h2
  exact ⟨h1, by omega, h.pre, fun k h3 h4 => by omega⟩
theorem take_one {α : Type} (x : α) (k : Nat) : [x].take k = [] ∨ [x].take k = [x] := by
  cases k <;> simp
theorem take_two {α : Type} (x y : α) (k : Nat) : [x, y].take k = [] ∨ [x, y].take k = [x] ∨ ([x, y].take k = [x, y] ∧ 2 ≤ k) := by
  match k with
  | 0 => simp
  | 1 => simp
  | k + 2 => simp
/-- The law. -/
theorem lasts_law (p : DPicks) (ha : a.length ≤ 300) (hb : b.length ≤ 300) (hc : c.length ≤ 300) (hn : 0 ≤ n) :
    ∃ s, LastsOk a b s ∧ ((lk9 a b c n).crash p).size [120] = (0, s.length) ∧ ((lk9 a b c n).crash p).read [120] 0 s.length = (0, s) ∧ ((lk9 a b c n).armed == 0) = decide (n ≤ 5) ∧
      ((((lk9 a b c n).crash p).size [122]).1 = 6 ∨ (((lk9 a b c n).crash p).size [122] = (0, c.length) ∧ 4 < n ∧ 2 ≤ p.names)) := by
  rw [lk9_eq ha hb hc hn]
  have key : ∀ (st : Dk) (x : List UInt8), st.files[0]? = some ⟨a ++ x, a.length⟩ → (x = [] ∨ x = b) → dirGet (st.lastDir p) [120] = some 0 →
      ∃ s, LastsOk a b s ∧ (st.crash p).size [120] = (0, s.length) ∧ (st.crash p).read [120] 0 s.length = (0, s) := fun st x hf hx hg => by
    refine ⟨((⟨a ++ x, a.length⟩ : DFile).settle (p.at 0)).b, ?_, ?_⟩
    · rcases hx with rfl | rfl
      · exact lastsOk_no (settle_lasts_ok a [] (p.at 0))
      · exact settle_lasts_ok a x (p.at 0)
    · have hany : (st.lastDir p).any (fun y => y.2 == 0) = true := List.any_eq_true.2 ⟨_, get_mem hg, rfl⟩
      have hfd : (st.crash p).fnd [120] = (0, 0) := by
        unfold Dk.fnd Dk.crash
        simp [hg]
      have hfa : ((st.crash p).fileAt 0).b = ((⟨a ++ x, a.length⟩ : DFile).settle (p.at 0)).b := by
        unfold Dk.fileAt Dk.crash settleAll
        simp only [List.getElem?_mapIdx, hf, Option.map_some, Option.getD_some, hany, if_true]
      constructor
      · unfold Dk.size
        rw [hfd]
        simp [hfa]
      · unfold Dk.read
        rw [hfd]
        simp [hfa]
  have fin : ∀ (st : Dk), (dirGet (st.lastDir p) [122] = none → ((st.crash p).size [122]).1 = 6) := fun st h => by
    unfold Dk.size Dk.fnd Dk.crash
    simp [h]
  have fin2 : ∀ (st : Dk), st.files[1]? = some ⟨c, c.length⟩ → dirGet (st.lastDir p) [122] = some 1 → (st.crash p).size [122] = (0, c.length) := fun st hf h => by
    have hany : (st.lastDir p).any (fun y => y.2 == 1) = true := List.any_eq_true.2 ⟨_, get_mem h, rfl⟩
    have hk : keepN ⟨c, c.length⟩ (p.at 1) = 0 := by unfold keepN; simp
    have hl := settle_len ⟨c, c.length⟩ (p.at 1) (Nat.le_refl _)
    rw [hk] at hl
    have hfd : (st.crash p).fnd [122] = (0, 1) := by
      unfold Dk.fnd Dk.crash
      simp [h]
    have hfa : ((st.crash p).fileAt 1).b = ((⟨c, c.length⟩ : DFile).settle (p.at 1)).b := by
      unfold Dk.fileAt Dk.crash settleAll
      rw [List.getElem?_mapIdx, hf]
      simp only [Option.map_some, Option.getD_some, hany, if_true]
    unfold Dk.size
    rw [hfd]
    simp [hfa, hl]
  unfold lkAt
  by_cases h0 : n = 0
  · rw [if_pos h0]
    obtain ⟨s, h1, h2, h3⟩ := key ⟨5000, [([120], 0)], [([120], 0)], [], [⟨a, a.length⟩], 0⟩ [] (by simp) (.inl rfl) (by simp [Dk.lastDir, deedsApp, dirGet])
    exact ⟨s, h1, h2, h3, by simp [h0], .inl (fin _ (by simp [Dk.lastDir, deedsApp, dirGet]))⟩
  rw [if_neg h0]
  by_cases h1 : n = 1
  · rw [if_pos h1]
    obtain ⟨s, h1', h2, h3⟩ := key ⟨5000, [([120], 0)], [([120], 0)], [], [⟨a ++ b, a.length⟩], 0⟩ b rfl (.inr rfl) (by simp [Dk.lastDir, deedsApp, dirGet])
    exact ⟨s, h1', h2, h3, by simp [h1], .inl (fin _ (by simp [Dk.lastDir, deedsApp, dirGet]))⟩
  rw [if_neg h1]
  have d0 : (⟨0, [], [121], 1⟩ : Deed).app [([120], 0)] = [([120], 0), ([121], 1)] := by decide
  have d1 : (⟨1, [121], [122], 1⟩ : Deed).app [([120], 0), ([121], 1)] = [([120], 0), ([122], 1)] := by decide
  have one : ∀ (k : Nat), dirGet (deedsApp ([⟨0, [], [121], 1⟩].take k) [([120], 0)]) [120] = some 0 ∧ dirGet (deedsApp ([⟨0, [], [121], 1⟩].take k) [([120], 0)]) [122] = none := fun k => by
    rcases take_one (⟨0, [], [121], 1⟩ : Deed) k with e | e <;> rw [e] <;> simp only [deedsApp, List.foldl_nil, List.foldl_cons, d0] <;> decide
  by_cases h2 : n = 2
  · rw [if_pos h2]
    obtain ⟨s, h1', h2', h3⟩ := key ⟨5000, [([120], 0), ([121], 1)], [([120], 0)], [⟨0, [], [121], 1⟩], [⟨a ++ b, a.length⟩, ⟨[], 0⟩], 0⟩ b rfl (.inr rfl) (one _).1
    exact ⟨s, h1', h2', h3, by simp [h2], .inl (fin _ (one _).2)⟩
  rw [if_neg h2]
  by_cases h3 : n = 3
  · rw [if_pos h3]
    obtain ⟨s, h1', h2', h3'⟩ := key ⟨5000, [([120], 0), ([121], 1)], [([120], 0)], [⟨0, [], [121], 1⟩], [⟨a ++ b, a.length⟩, ⟨c, 0⟩], 0⟩ b rfl (.inr rfl) (one _).1
    exact ⟨s, h1', h2', h3', by simp [h3], .inl (fin _ (one _).2)⟩
  rw [if_neg h3]
  by_cases h4 : n = 4
  · rw [if_pos h4]
    obtain ⟨s, h1', h2', h3'⟩ := key ⟨5000, [([120], 0), ([121], 1)], [([120], 0)], [⟨0, [], [121], 1⟩], [⟨a ++ b, a.length⟩, ⟨c, c.length⟩], 0⟩ b rfl (.inr rfl) (one _).1
    exact ⟨s, h1', h2', h3', by simp [h4], .inl (fin _ (one _).2)⟩
  rw [if_neg h4]
  have hk2 : p.names.toNat ≥ 2 → 2 ≤ p.names := fun h => by omega
  have harm : ((n - 5 == 0) = decide (n ≤ 5)) := by
    rw [Bool.eq_iff_iff]
    simp
    omega
  rcases take_two (⟨0, [], [121], 1⟩ : Deed) ⟨1, [121], [122], 1⟩ p.names.toNat with e | e | ⟨e, e2⟩
  · have hd : (⟨5000, [([120], 0), ([122], 1)], [([120], 0)], [⟨0, [], [121], 1⟩, ⟨1, [121], [122], 1⟩], [⟨a ++ b, a.length⟩, ⟨c, c.length⟩], n - 5⟩ : Dk).lastDir p = [([120], 0)] := by simp only [Dk.lastDir, e, deedsApp, List.foldl_nil]
    obtain ⟨s, h1', h2', h3'⟩ := key ⟨5000, [([120], 0), ([122], 1)], [([120], 0)], [⟨0, [], [121], 1⟩, ⟨1, [121], [122], 1⟩], [⟨a ++ b, a.length⟩, ⟨c, c.length⟩], n - 5⟩ b rfl (.inr rfl) (by rw [hd]; decide)
    exact ⟨s, h1', h2', h3', harm, .inl (fin _ (by rw [hd]; decide))⟩
  · have hd : (⟨5000, [([120], 0), ([122], 1)], [([120], 0)], [⟨0, [], [121], 1⟩, ⟨1, [121], [122], 1⟩], [⟨a ++ b, a.length⟩, ⟨c, c.length⟩], n - 5⟩ : Dk).lastDir p = [([120], 0), ([121], 1)] := by simp only [Dk.lastDir, e, deedsApp, List.foldl_nil, List.foldl_cons, d0]
    obtain ⟨s, h1', h2', h3'⟩ := key ⟨5000, [([120], 0), ([122], 1)], [([120], 0)], [⟨0, [], [121], 1⟩, ⟨1, [121], [122], 1⟩], [⟨a ++ b, a.length⟩, ⟨c, c.length⟩], n - 5⟩ b rfl (.inr rfl) (by rw [hd]; decide)
    exact ⟨s, h1', h2', h3', harm, .inl (fin _ (by rw [hd]; decide))⟩
  · have hd : (⟨5000, [([120], 0), ([122], 1)], [([120], 0)], [⟨0, [], [121], 1⟩, ⟨1, [121], [122], 1⟩], [⟨a ++ b, a.length⟩, ⟨c, c.length⟩], n - 5⟩ : Dk).lastDir p = [([120], 0), ([122], 1)] := by simp only [Dk.lastDir, e, deedsApp, List.foldl_nil, List.foldl_cons, d0, d1]
    obtain ⟨s, h1', h2', h3'⟩ := key ⟨5000, [([120], 0), ([122], 1)], [([120], 0)], [⟨0, [], [121], 1⟩, ⟨1, [121], [122], 1⟩], [⟨a ++ b, a.length⟩, ⟨c, c.length⟩], n - 5⟩ b rfl (.inr rfl) (by rw [hd]; decide)
    exact ⟨s, h1', h2', h3', harm, .inr ⟨fin2 _ rfl (by rw [hd]; decide), by omega, hk2 e2⟩⟩
end Go.Proofs.Ytcicnjlkcbimgaa
