/- DiskRoom: the plain law. -/
import Derived.Test.YtcicnjlkcbimgaaDiskAct
namespace Go.Proofs.Ytcicnjlkcbimgaa
theorem sum_ins (g : Nm × Nat → Nat) (x : Nm × Nat) : ∀ l : Dir, ((dirIns x l).map g).sum = g x + (l.map g).sum
  | [] => by simp [dirIns]
  | y :: r => by
    unfold dirIns
    split
    · simp
    · simp only [List.map_cons, List.sum_cons, sum_ins g x r]
      omega
theorem sum_del (g : Nm × Nat → Nat) (s : Nm) : ∀ l : Dir, ((dirDel l s).map g).sum ≤ (l.map g).sum
  | [] => Nat.le_refl _
  | y :: r => by
    have := sum_del g s r
    unfold dirDel at this ⊢
    rw [List.filter_cons]
    split <;> simp only [List.map_cons, List.sum_cons] <;> omega
theorem sum_del_mem (g : Nm × Nat → Nat) (s : Nm) (f : Nat) : ∀ l : Dir, (s, f) ∈ l → ((dirDel l s).map g).sum + g (s, f) ≤ (l.map g).sum
  | [], h => by cases h
  | y :: r, h => by
    have h0 := sum_del g s r
    unfold dirDel at h0 ⊢
    rw [List.filter_cons]
    rcases List.mem_cons.1 h with h | h
    · subst h
      simp only [beq_self_eq_true, Bool.not_true, Bool.false_eq_true, if_false, List.map_cons, List.sum_cons]
      omega
    · have h1 := sum_del_mem g s f r h
      unfold dirDel at h1
      split <;> simp only [List.map_cons, List.sum_cons] <;> omega
theorem nodup_ins (x : Nm × Nat) : ∀ l : Dir, ((dirIns x l).map (·.2)).Nodup ↔ (x.2 ∉ l.map (·.2)) ∧ (l.map (·.2)).Nodup
  | [] => by simp [dirIns]
  | y :: r => by
    unfold dirIns
    split
    · simp only [List.map_cons, List.nodup_cons]
    · simp only [List.map_cons, List.nodup_cons, nodup_ins x r]
      have e : y.2 ∈ (dirIns x r).map (·.2) ↔ (y.2 = x.2 ∨ y.2 ∈ r.map (·.2)) := by
        simp only [List.mem_map]
        constructor
        · rintro ⟨p, hp, h⟩
          rcases mem_ins.1 hp with rfl | hp
          · exact .inl h.symm
          · exact .inr ⟨p, hp, h⟩
        · rintro (h | ⟨p, hp, h⟩)
          · exact ⟨x, mem_ins.2 (.inl rfl), h.symm⟩
          · exact ⟨p, mem_ins.2 (.inr hp), h⟩
      rw [e]
      simp only [List.mem_cons, not_or]
      constructor
      · rintro ⟨⟨h1, h2⟩, h3, h4⟩
        exact ⟨⟨fun e => h1 e.symm, h3⟩, h2, h4⟩
      · rintro ⟨⟨h1, h2⟩, h3, h4⟩
        exact ⟨⟨fun e => h1 e.symm, h3⟩, h2, h4⟩
theorem nodup_del {l : Dir} (s : Nm) (h : (l.map (·.2)).Nodup) : ((dirDel l s).map (·.2)).Nodup := h.sublist (List.filter_sublist.map _)
theorem file_once {l : Dir} {s : Nm} {f : Nat} (h : (l.map (·.2)).Nodup) (hm : (s, f) ∈ l) : f ∉ (dirDel l s).map (·.2) := by
  intro hc
  obtain ⟨p, hp, e⟩ := List.mem_map.1 hc
  obtain ⟨hp1, hp2⟩ := mem_del.1 hp
  have h' := List.nodup_iff_pairwise_ne.1 h
  rw [List.pairwise_map, List.pairwise_iff_getElem] at h'
  obtain ⟨i, hi, rfl⟩ := List.getElem_of_mem hp1
  obtain ⟨j, hj, e2⟩ := List.getElem_of_mem hm
  have hij : i ≠ j := fun e => by subst e; exact hp2 (by rw [e2])
  rcases Nat.lt_or_gt_of_ne hij with hlt | hlt
  · exact h' i j hi hj hlt (by rw [e2]; exact e)
  · exact h' j i hj hi hlt (by rw [e2]; exact e.symm)
/-- No more than has room, each file under one name. -/
structure Room (d : Dk) : Prop where
  used : d.used ≤ d.cap
  once : (d.now.map (·.2)).Nodup
theorem Room.new (c : Nat) : Room (Dk.new c) := ⟨Nat.zero_le _, List.nodup_nil⟩
theorem Room.did {d : Dk} (h : Room d) : Room d.did := ⟨h.used, h.once⟩
theorem used_le {d e : Dk} (hn : e.now = d.now) (hf : ∀ p ∈ d.now, (e.fileAt p.2).b.length ≤ (d.fileAt p.2).b.length) : e.used ≤ d.used := by
  unfold Dk.used
  rw [hn]
  have : ∀ l : Dir, (∀ p ∈ l, (e.fileAt p.2).b.length ≤ (d.fileAt p.2).b.length) → (l.map fun p => (e.fileAt p.2).b.length).sum ≤ (l.map fun p => (d.fileAt p.2).b.length).sum := fun l => by
    induction l with
    | nil => intro _; exact Nat.le_refl _
    | cons x l ih =>
      intro h
      have h1 := h x List.mem_cons_self
      have h2 := ih fun p hp => h p (List.mem_cons_of_mem _ hp)
      simp only [List.map_cons, List.sum_cons]
      omega
  exact this _ hf
theorem fileAt_set (d : Dk) (i j : Nat) (f : DFile) : (d.setF i f).fileAt j = if i = j ∧ i < d.files.length then f else d.fileAt j := by
  unfold Dk.fileAt Dk.setF
  simp only
  rw [List.getElem?_set]
  by_cases h : i = j
  · subst h
    by_cases hl : i < d.files.length
    · simp [hl]
    · simp [hl]
  · simp [h]
theorem Room.setLe {d : Dk} (h : Room d) (i : Nat) (f : DFile) (hf : f.b.length ≤ (d.fileAt i).b.length) : Room (d.setF i f) := by
  refine ⟨Nat.le_trans (used_le (d := d) rfl fun p _ => ?_) h.used, h.once⟩
  rw [fileAt_set]
  split
  · rename_i e
    rw [← e.1]
    exact hf
  · exact Nat.le_refl _
theorem Room.append {K : Nat} {d : Dk} (h : Room d) (hok : DkOk K d) (s : Nm) (b : List UInt8) : Room (d.append s b).2 := by
  unfold Dk.append
  split
  · exact h
  split
  · exact h
  split
  · exact h
  · rename_i hf _ hu
    have hi := hok.fnd hf
    have hm := get_mem (fnd_get hf).2
    refine Room.did ⟨?_, h.once⟩
    show ((d.setF (d.fnd s).2 ⟨(d.fileAt (d.fnd s).2).b ++ b, (d.fileAt (d.fnd s).2).lasts⟩).used ≤ d.cap)
    refine Nat.le_trans ?_ (Nat.le_of_not_lt hu)
    generalize (d.fnd s).2 = i at hi hm
    have key : ∀ l : Dir, (l.map (·.2)).Nodup → (l.map fun p => ((d.setF i ⟨(d.fileAt i).b ++ b, (d.fileAt i).lasts⟩).fileAt p.2).b.length).sum ≤ (l.map fun p => (d.fileAt p.2).b.length).sum + (if i ∈ l.map (·.2) then b.length else 0) := fun l => by
      induction l with
      | nil => intro _; exact Nat.le_refl _
      | cons x l ih =>
        intro hn
        simp only [List.map_cons, List.nodup_cons] at hn
        have h1 := ih hn.2
        simp only [List.map_cons, List.sum_cons, List.mem_cons]
        rw [fileAt_set]
        by_cases e : i = x.2
        · rw [if_neg (by rw [e]; exact hn.1)] at h1
          rw [if_pos ⟨e, hi⟩, if_pos (.inl e), ← e]
          simp only [List.length_append]
          omega
        · rw [if_neg (fun h => e h.1)]
          by_cases e2 : i ∈ l.map (·.2)
          · rw [if_pos e2] at h1
            rw [if_pos (.inr e2)]
            omega
          · rw [if_neg e2] at h1
            rw [if_neg (by rintro (h | h); exact e h; exact e2 h)]
            omega
    have := key d.now h.once
    rw [if_pos (List.mem_map.2 ⟨_, hm, rfl⟩)] at this
    exact this
theorem Room.create {K : Nat} {d : Dk} (h : Room d) (hok : DkOk K d) (s : Nm) : Room (d.create s).2 := by
  unfold Dk.create
  split
  · exact h
  split
  · exact h
  split
  · exact h
  split
  · exact h
  · rename_i _ _ hs _
    have hfa : ∀ j, (({ d with files := d.files ++ [⟨[], 0⟩] } : Dk).fileAt j).b.length = (d.fileAt j).b.length := fun j => by
      unfold Dk.fileAt
      simp only
      rw [List.getElem?_append]
      split
      · rfl
      · rename_i hj
        rw [List.getElem?_eq_none (by omega : d.files.length ≤ j)]
        by_cases e : j - d.files.length = 0
        · rw [e]; rfl
        · rw [List.getElem?_eq_none (by simp; omega)]
    refine Room.did ⟨?_, ?_⟩
    · show (((⟨0, [], s, d.files.length⟩ : Deed).app d.now).map fun p => (({ d with files := d.files ++ [⟨[], 0⟩] } : Dk).fileAt p.2).b.length).sum ≤ d.cap
      unfold Deed.app
      rw [if_pos rfl]
      simp only [hfa]
      unfold dirPut
      rw [sum_ins]
      have h1 := sum_del (fun p => (d.fileAt p.2).b.length) s d.now
      have h2 : (d.fileAt d.files.length).b.length = 0 := by unfold Dk.fileAt; rw [List.getElem?_eq_none (Nat.le_refl _)]; rfl
      have h3 := h.used
      unfold Dk.used at h3
      simp only [h2]
      omega
    · show (((⟨0, [], s, d.files.length⟩ : Deed).app d.now).map (·.2)).Nodup
      unfold Deed.app
      rw [if_pos rfl]
      unfold dirPut
      rw [nodup_ins]
      refine ⟨fun hc => ?_, nodup_del s h.once⟩
      obtain ⟨p, hp, e⟩ := List.mem_map.1 hc
      have := hok.fnow p (mem_del.1 hp).1
      simp only at e
      omega
theorem Room.rename {d : Dk} (h : Room d) (s t : Nm) : Room (d.rename s t).2 := by
  unfold Dk.rename
  split
  · exact h
  split
  · exact h
  · rename_i hf _
    have hm := get_mem (fnd_get hf).2
    generalize (d.fnd s).2 = i at hm
    refine Room.did ⟨?_, ?_⟩
    · show (((⟨1, s, t, i⟩ : Deed).app d.now).map fun p => (d.fileAt p.2).b.length).sum ≤ d.cap
      unfold Deed.app
      rw [if_neg (show ¬ (1 : Nat) = 0 by omega), if_pos rfl]
      unfold dirPut
      rw [sum_ins]
      have h1 := sum_del (fun p => (d.fileAt p.2).b.length) t (dirDel d.now s)
      have h2 := sum_del_mem (fun p => (d.fileAt p.2).b.length) s i d.now hm
      have h3 := h.used
      unfold Dk.used at h3
      simp only at h2 ⊢
      omega
    · show (((⟨1, s, t, i⟩ : Deed).app d.now).map (·.2)).Nodup
      unfold Deed.app
      rw [if_neg (show ¬ (1 : Nat) = 0 by omega), if_pos rfl]
      unfold dirPut
      rw [nodup_ins]
      refine ⟨fun hc => ?_, nodup_del t (nodup_del s h.once)⟩
      obtain ⟨p, hp, e⟩ := List.mem_map.1 hc
      exact file_once h.once hm (List.mem_map.2 ⟨p, (mem_del.1 hp).1, e⟩)
theorem Room.remove {d : Dk} (h : Room d) (s : Nm) : Room (d.remove s).2 := by
  unfold Dk.remove
  split
  · exact h
  · refine Room.did ⟨?_, ?_⟩
    · show (((⟨2, s, [], 0⟩ : Deed).app d.now).map fun p => (d.fileAt p.2).b.length).sum ≤ d.cap
      unfold Deed.app
      rw [if_neg (show ¬ (2 : Nat) = 0 by omega), if_neg (show ¬ (2 : Nat) = 1 by omega)]
      exact Nat.le_trans (sum_del _ _ _) h.used
    · show (((⟨2, s, [], 0⟩ : Deed).app d.now).map (·.2)).Nodup
      unfold Deed.app
      rw [if_neg (show ¬ (2 : Nat) = 0 by omega), if_neg (show ¬ (2 : Nat) = 1 by omega)]
      exact nodup_del s h.once
theorem Room.call {K : Nat} {d : Dk} (h : Room d) (hok : DkOk K d) (a : DAct) (h8 : a.kind ≠ 8) : Room (d.call a).2 := by
  unfold Dk.call
  split
  · exact h.create hok _
  split
  · exact h.append hok _ _
  split
  · unfold Dk.sync
    split
    · exact h
    · exact Room.did (h.setLe _ _ (Nat.le_refl _))
  split
  · unfold Dk.syncNames
    split
    · exact h
    · exact ⟨h.used, h.once⟩
  split
  · exact h.rename _ _
  split
  · exact h.remove _
  split
  · unfold Dk.cut
    split
    · exact h
    split
    · exact h
    · exact Room.did (h.setLe _ _ (by simp; omega))
  split
  · unfold Dk.arm
    split
    · exact h
    split
    · exact h
    · exact ⟨h.used, h.once⟩
  split
  · unfold Dk.spoil
    split
    · exact h
    split
    · exact h
    · exact h.setLe _ _ (by rw [xorAt_len]; exact Nat.le_refl _)
  split
  · exact h
  · exact h
theorem create_no {d : Dk} (s : Nm) (h : (d.create s).1 ≠ 0) : (d.create s).2 = d := by
  unfold Dk.create at h ⊢
  (repeat' split) <;> first | rfl | simp_all
theorem create_cap (d : Dk) (s : Nm) : (d.create s).2.cap = d.cap := by
  unfold Dk.create
  (repeat' split) <;> rfl
theorem append_no {d : Dk} (s : Nm) (b : List UInt8) (h : (d.append s b).1 ≠ 0) : (d.append s b).2 = d := by
  unfold Dk.append at h ⊢
  (repeat' split) <;> first | rfl | simp_all
theorem append_cap (d : Dk) (s : Nm) (b : List UInt8) : (d.append s b).2.cap = d.cap := by
  unfold Dk.append
  (repeat' split) <;> rfl
theorem sync_no {d : Dk} (s : Nm) (h : (d.sync s).1 ≠ 0) : (d.sync s).2 = d := by
  unfold Dk.sync at h ⊢
  (repeat' split) <;> first | rfl | simp_all
theorem sync_cap (d : Dk) (s : Nm) : (d.sync s).2.cap = d.cap := by
  unfold Dk.sync
  (repeat' split) <;> rfl
theorem syncNames_no {d : Dk}  (h : (d.syncNames).1 ≠ 0) : (d.syncNames).2 = d := by
  unfold Dk.syncNames at h ⊢
  (repeat' split) <;> first | rfl | simp_all
theorem syncNames_cap (d : Dk) : (d.syncNames).2.cap = d.cap := by
  unfold Dk.syncNames
  (repeat' split) <;> rfl
theorem rename_no {d : Dk} (s t : Nm) (h : (d.rename s t).1 ≠ 0) : (d.rename s t).2 = d := by
  unfold Dk.rename at h ⊢
  (repeat' split) <;> first | rfl | simp_all
theorem rename_cap (d : Dk) (s t : Nm) : (d.rename s t).2.cap = d.cap := by
  unfold Dk.rename
  (repeat' split) <;> rfl
theorem remove_no {d : Dk} (s : Nm) (h : (d.remove s).1 ≠ 0) : (d.remove s).2 = d := by
  unfold Dk.remove at h ⊢
  (repeat' split) <;> first | rfl | simp_all
theorem remove_cap (d : Dk) (s : Nm) : (d.remove s).2.cap = d.cap := by
  unfold Dk.remove
  (repeat' split) <;> rfl
theorem cut_no {d : Dk} (s : Nm) (n : Int) (h : (d.cut s n).1 ≠ 0) : (d.cut s n).2 = d := by
  unfold Dk.cut at h ⊢
  (repeat' split) <;> first | rfl | simp_all
theorem cut_cap (d : Dk) (s : Nm) (n : Int) : (d.cut s n).2.cap = d.cap := by
  unfold Dk.cut
  (repeat' split) <;> rfl
theorem arm_no {d : Dk} (n : Int) (h : (d.arm n).1 ≠ 0) : (d.arm n).2 = d := by
  unfold Dk.arm at h ⊢
  (repeat' split) <;> first | rfl | simp_all
theorem arm_cap (d : Dk) (n : Int) : (d.arm n).2.cap = d.cap := by
  unfold Dk.arm
  (repeat' split) <;> rfl
theorem spoil_no {d : Dk} (s : Nm) (n : Int) (x : UInt8) (h : (d.spoil s n x).1 ≠ 0) : (d.spoil s n x).2 = d := by
  unfold Dk.spoil at h ⊢
  (repeat' split) <;> first | rfl | simp_all
theorem spoil_cap (d : Dk) (s : Nm) (n : Int) (x : UInt8) : (d.spoil s n x).2.cap = d.cap := by
  unfold Dk.spoil
  (repeat' split) <;> rfl
/-- What was refused changed nothing. -/
theorem refused {d : Dk} {a : DAct} (h : (d.call a).1 ≠ 0) : (d.call a).2 = d := by
  by_cases h0 : a.kind = 0
  · have e : d.call a = d.create a.name := by unfold Dk.call; rw [if_pos h0]
    rw [e] at h ⊢; exact create_no _ h
  by_cases h1 : a.kind = 1
  · have e : d.call a = d.append a.name a.b := by unfold Dk.call; rw [if_neg h0, if_pos h1]
    rw [e] at h ⊢; exact append_no _ _ h
  by_cases h2 : a.kind = 2
  · have e : d.call a = d.sync a.name := by unfold Dk.call; rw [if_neg h0, if_neg h1, if_pos h2]
    rw [e] at h ⊢; exact sync_no _ h
  by_cases h3 : a.kind = 3
  · have e : d.call a = d.syncNames := by unfold Dk.call; rw [if_neg h0, if_neg h1, if_neg h2, if_pos h3]
    rw [e] at h ⊢; exact syncNames_no h
  by_cases h4 : a.kind = 4
  · have e : d.call a = d.rename a.name a.to := by unfold Dk.call; rw [if_neg h0, if_neg h1, if_neg h2, if_neg h3, if_pos h4]
    rw [e] at h ⊢; exact rename_no _ _ h
  by_cases h5 : a.kind = 5
  · have e : d.call a = d.remove a.name := by unfold Dk.call; rw [if_neg h0, if_neg h1, if_neg h2, if_neg h3, if_neg h4, if_pos h5]
    rw [e] at h ⊢; exact remove_no _ h
  by_cases h6 : a.kind = 6
  · have e : d.call a = d.cut a.name a.n := by unfold Dk.call; rw [if_neg h0, if_neg h1, if_neg h2, if_neg h3, if_neg h4, if_neg h5, if_pos h6]
    rw [e] at h ⊢; exact cut_no _ _ h
  by_cases h7 : a.kind = 7
  · have e : d.call a = d.arm a.n := by unfold Dk.call; rw [if_neg h0, if_neg h1, if_neg h2, if_neg h3, if_neg h4, if_neg h5, if_neg h6, if_pos h7]
    rw [e] at h ⊢; exact arm_no _ h
  by_cases h8 : a.kind = 8
  · have e : d.call a = (0, d.crash a.p) := by unfold Dk.call; rw [if_neg h0, if_neg h1, if_neg h2, if_neg h3, if_neg h4, if_neg h5, if_neg h6, if_neg h7, if_pos h8]
    rw [e] at h; exact absurd rfl h
  by_cases h9 : a.kind = 9
  · have e : d.call a = d.spoil a.name a.n (byteOf a.m) := by unfold Dk.call; rw [if_neg h0, if_neg h1, if_neg h2, if_neg h3, if_neg h4, if_neg h5, if_neg h6, if_neg h7, if_neg h8, if_pos h9]
    rw [e] at h ⊢; exact spoil_no _ _ _ h
  unfold Dk.call
  rw [if_neg h0, if_neg h1, if_neg h2, if_neg h3, if_neg h4, if_neg h5, if_neg h6, if_neg h7, if_neg h8, if_neg h9]
  split <;> rfl
theorem call_cap (d : Dk) (a : DAct) : (d.call a).2.cap = d.cap := by
  unfold Dk.call
  split
  · exact create_cap _ _
  split
  · exact append_cap _ _ _
  split
  · exact sync_cap _ _
  split
  · exact syncNames_cap _
  split
  · exact rename_cap _ _ _
  split
  · exact remove_cap _ _
  split
  · exact cut_cap _ _ _
  split
  · exact arm_cap _ _
  split
  · rfl
  split
  · exact spoil_cap _ _ _ _
  split <;> rfl
end Go.Proofs.Ytcicnjlkcbimgaa
