/- DiskPlays, plain: names lie in order behind whatever calls. No program in sight. -/
import Derived.Test.YtcicnjlkcbimgaaDiskAct
import Derived.WideShapes
import Derived.WideAt
namespace Go.Proofs.Ytcicnjlkcbimgaa
open Go.Maps Go.WideShapes Go.WideAt
def Srt (l : Dir) : Prop := l.Pairwise fun a b => bytesBefore a.1 b.1 = true
theorem before_le : ∀ a b : List UInt8, bytesBefore a b = true → a ≤ b
  | [], b, _ => List.nil_le b
  | _ :: _, [], h => by simp [bytesBefore] at h
  | a :: r, b :: s, h => by
    simp only [bytesBefore, Bool.or_eq_true, Bool.and_eq_true, decide_eq_true_eq, beq_iff_eq] at h
    rw [List.cons_le_cons_iff]
    rcases h with h | ⟨h, h2⟩
    · exact .inl h
    · exact .inr ⟨h, before_le r s h2⟩
theorem Srt.del {l : Dir} (h : Srt l) (s : Nm) : Srt (dirDel l s) := List.Pairwise.filter _ h
theorem Srt.ins {x : Nm × Nat} : ∀ {l : Dir}, Srt l → (∀ p ∈ l, p.1 ≠ x.1) → Srt (dirIns x l)
  | [], _, _ => List.pairwise_singleton _ _
  | y :: r, h, hx => by
    have hp := List.pairwise_cons.1 h
    unfold dirIns
    split
    · rename_i hb
      refine List.pairwise_cons.2 ⟨fun z hz => ?_, h⟩
      rcases List.mem_cons.1 hz with rfl | hz
      · exact hb
      · exact bytes_trans _ _ _ hb (hp.1 z hz)
    · rename_i hb
      refine List.pairwise_cons.2 ⟨fun z hz => ?_, Srt.ins hp.2 fun p hp => hx p (List.mem_cons_of_mem _ hp)⟩
      rcases mem_ins.1 hz with rfl | hz
      · rcases bytes_total y.1 z.1 (hx y List.mem_cons_self) with e | e
        · exact e
        · exact absurd e hb
      · exact hp.1 z hz
theorem Srt.put {l : Dir} (h : Srt l) (s : Nm) (f : Nat) : Srt (dirPut l s f) := Srt.ins (h.del s) fun p hp => (mem_del.1 hp).2
theorem Srt.app {l : Dir} (h : Srt l) (d : Deed) : Srt (d.app l) := by
  unfold Deed.app
  split
  · exact h.put _ _
  split
  · exact (h.del _).put _ _
  · exact h.del _
theorem Srt.apps : ∀ (ds : List Deed) {l : Dir}, Srt l → Srt (deedsApp ds l)
  | [], _, h => h
  | d :: ds, l, h => by
    show Srt (deedsApp ds (d.app l))
    exact Srt.apps ds (h.app d)
/-- Both directories of a disk lie in order. -/
def DkS (d : Dk) : Prop := Srt d.now ∧ Srt d.lasting ∧ ∀ x ∈ d.deeds, x.kind ≤ 2
theorem DkS.new (c : Nat) : DkS (Dk.new c) := ⟨List.Pairwise.nil, List.Pairwise.nil, fun _ h => absurd h List.not_mem_nil⟩
theorem DkS.turn {d : Dk} (h : DkS d) (x : Deed) (hx : x.kind ≤ 2) : DkS (d.turn x) := ⟨h.1.app x, h.2.1, fun y hy => by
  rcases List.mem_append.1 hy with hy | hy
  · exact h.2.2 y hy
  · obtain rfl : y = x := by simpa using hy
    exact hx⟩
theorem DkS.call {d : Dk} (h : DkS d) (a : DAct) : DkS (d.call a).2 := by
  unfold Dk.call
  split
  · unfold Dk.create
    split
    · exact h
    split
    · exact h
    split
    · exact h
    split
    · exact h
    · exact DkS.turn (d := { d with files := d.files ++ [⟨[], 0⟩] }) h _ (by show (0 : Nat) ≤ 2; omega)
  split
  · unfold Dk.append
    split
    · exact h
    split
    · exact h
    split
    · exact h
    · exact h
  split
  · unfold Dk.sync
    split
    · exact h
    · exact h
  split
  · unfold Dk.syncNames
    split
    · exact h
    · exact ⟨h.1, h.1, fun _ h => absurd h List.not_mem_nil⟩
  split
  · unfold Dk.rename
    split
    · exact h
    split
    · exact h
    · exact h.turn _ (by show (1 : Nat) ≤ 2; omega)
  split
  · unfold Dk.remove
    split
    · exact h
    · exact h.turn _ (by show (2 : Nat) ≤ 2; omega)
  split
  · unfold Dk.cut
    split
    · exact h
    split
    · exact h
    · exact h
  split
  · unfold Dk.arm
    split
    · exact h
    split
    · exact h
    · exact h
  split
  · exact ⟨h.2.1.apps _, h.2.1.apps _, fun _ h => absurd h List.not_mem_nil⟩
  split
  · unfold Dk.spoil
    split
    · exact h
    split
    · exact h
    · exact h
  split
  · exact h
  · exact h
theorem names_srt {l : Dir} (h : Srt l) : (l.map (·.1)).mergeSort (fun x y => decide (x ≤ y)) = l.map (·.1) := by
  refine List.mergeSort_of_pairwise ?_
  rw [List.pairwise_map]
  exact List.Pairwise.imp (fun {a b} e => by simpa using before_le a.1 b.1 e) h
/-- What a crash makes of the files, one of those that last behind the other. -/
def settleSome (p : DPicks) : List (Nm × Nat) → List DFile → List DFile
  | [], fs => fs
  | x :: r, fs => settleSome p r (fs.set x.2 (((fs[x.2]?.getD ⟨[], 0⟩)).settle (p.at x.2)))
theorem settleSome_snoc (p : DPicks) : ∀ (l : Dir) (x : Nm × Nat) (fs : List DFile), settleSome p (l ++ [x]) fs = (settleSome p l fs).set x.2 ((((settleSome p l fs)[x.2]?.getD ⟨[], 0⟩)).settle (p.at x.2))
  | [], _, _ => rfl
  | y :: r, x, fs => settleSome_snoc p r x _
theorem settleSome_get (p : DPicks) : ∀ (l : Dir) (fs : List DFile) (i : Nat), (settleSome p l fs)[i]? = (fs[i]?).map fun f => if l.any (fun x => x.2 == i) then f.settle (p.at i) else f
  | [], fs, i => by simp [settleSome]
  | x :: r, fs, i => by
    show (settleSome p r _)[i]? = _
    rw [settleSome_get p r, List.getElem?_set]
    by_cases hx : x.2 = i
    · subst hx
      by_cases hl : x.2 < fs.length
      · rw [if_pos rfl, if_pos hl, List.getElem?_eq_getElem hl]
        simp only [Option.map_some, Option.getD_some, List.any_cons, beq_self_eq_true, Bool.true_or, if_true]
        split
        · rw [settle_twice]
        · rfl
      · rw [if_pos rfl, if_neg hl, List.getElem?_eq_none (by omega)]
        rfl
    · have hb : (x.2 == i) = false := by simpa using hx
      rw [if_neg hx]
      simp only [List.any_cons, hb, Bool.false_or]
theorem settleSome_all (l : Dir) (p : DPicks) (fs : List DFile) : settleSome p l fs = settleAll l p fs := by
  apply List.ext_getElem?
  intro i
  rw [settleSome_get]
  unfold settleAll
  rw [List.getElem?_mapIdx]
theorem settleSome_len (p : DPicks) : ∀ (l : Dir) (fs : List DFile), (settleSome p l fs).length = fs.length
  | [], _ => rfl
  | x :: r, fs => by
    show (settleSome p r _).length = _
    rw [settleSome_len p r, List.length_set]
theorem settleSome_ok (p : DPicks) : ∀ (l : Dir) (fs : List DFile), (∀ f ∈ fs, f.lasts ≤ f.b.length ∧ f.b.length ≤ 16777216) → ∀ f ∈ settleSome p l fs, f.lasts ≤ f.b.length ∧ f.b.length ≤ 16777216
  | [], _, h => h
  | x :: r, fs, h => by
    refine settleSome_ok p r _ fun f hf => ?_
    rcases List.mem_or_eq_of_mem_set hf with hf | rfl
    · exact h f hf
    · have hb : (fs[x.2]?.getD ⟨[], 0⟩).lasts ≤ (fs[x.2]?.getD ⟨[], 0⟩).b.length ∧ (fs[x.2]?.getD ⟨[], 0⟩).b.length ≤ 16777216 := by
        cases e : fs[x.2]? with
        | none => simp
        | some g => exact h g (List.mem_of_getElem? e)
      have hk : keepN (fs[x.2]?.getD ⟨[], 0⟩) (p.at x.2) ≤ (fs[x.2]?.getD ⟨[], 0⟩).b.length - (fs[x.2]?.getD ⟨[], 0⟩).lasts := Nat.min_le_right _ _
      refine ⟨Nat.le_of_eq (settle_lasts _ _), ?_⟩
      rw [settle_len _ _ hb.1]
      omega
end Go.Proofs.Ytcicnjlkcbimgaa
