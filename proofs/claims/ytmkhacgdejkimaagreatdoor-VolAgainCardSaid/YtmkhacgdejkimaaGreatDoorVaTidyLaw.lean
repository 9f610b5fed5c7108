/- Package vol, plain: what tidying leaves behind a crash. No program in sight. -/
import Derived.Test.YtmkhacgdejkimaaGreatDoorVa19
import Derived.Test.YtmkhacgdejkimaaGreatDoorVa10
import Derived.Test.YtmkhacgdejkimaaGreatDoorVaDiskNames
namespace Go.Proofs.YtmkhacgdejkimaaGreatDoor
theorem mem_namesOf {l : Dir} {s : Nm} : s ∈ namesOf l ↔ s ∈ l.map (·.1) := (List.mergeSort_perm _ _).mem_iff
theorem tidyL_skip {o : Nm → Bool} {m : Bool} {d : Dk} {r : List Nm} : ∀ {a : List Nm}, (∀ s ∈ a, o s = false) → Dk.tidyL o (a ++ r) m d = Dk.tidyL o r m d
  | [], _ => rfl
  | s :: a, h => by
    show Dk.tidyL o (s :: (a ++ r)) m d = _
    rw [Dk.tidyL, if_neg (by rw [h s List.mem_cons_self]; simp)]
    exact tidyL_skip fun x hx => h x (List.mem_cons_of_mem _ hx)
theorem tidyL_one {S : Nm} {d : Dk} {l : List Nm} (hS : S ∈ l) (hnd : l.Nodup) (hr : (d.remove S).1 = 0) : Dk.tidyL (fun s => s == S) l false d = (d.remove S).2.syncNames := by
  obtain ⟨a, b, rfl⟩ := List.append_of_mem hS
  have hn := List.nodup_append.1 hnd
  have ha : ∀ s ∈ a, (s == S) = false := fun s hs => by
    have := hn.2.2 s hs S List.mem_cons_self
    simpa using this
  have hb : ∀ s ∈ b, (s == S) = false := fun s hs => by
    have := (List.nodup_cons.1 hn.2.1).1
    simp
    rintro rfl
    exact this hs
  rw [tidyL_skip (o := fun s => s == S) ha, Dk.tidyL, if_pos (by simp), if_neg (by rw [hr]; simp)]
  have := tidyL_skip (o := fun s => s == S) (m := true) (d := (d.remove S).2) (r := []) hb
  rw [List.append_nil] at this
  rw [this, Dk.tidyL, if_pos rfl]
def isShadow (v : Vl) (s : Nm) : Bool := s == sName v.num
theorem VD.tidied {x : Dk} {v : Vl} {ns : List Nd} (h : VD x v ns) : Dk.tidyL (isShadow v) (namesOf x.now) false x = (0, x) := by
  obtain ⟨f, g, hp⟩ := h.parts
  refine tidyL_none fun s hs => ?_
  have hs' := mem_namesOf.1 hs
  obtain ⟨p, hp1, rfl⟩ := List.mem_map.1 hs'
  have := hp.noS p hp1
  simpa [isShadow] using this
theorem cut_ok {c : Dk} {s : Nm} {f n : Nat} (ha : c.armed = -1) (hg : dirGet c.now s = some f) (hn : n ≤ (c.fileAt f).b.length) : c.cut s n = (0, c.setF f ⟨(c.fileAt f).b.take n, n⟩) := by
  have hf : c.fnd s = (0, f) := by unfold Dk.fnd; rw [if_neg (by rw [ha]; decide), hg]
  unfold Dk.cut
  rw [hf, if_neg (by simp), if_neg (by show ¬ ((n : Int) < 0 ∨ ((c.fileAt f).b.length : Int) < n); omega), did_off (by show c.armed = -1; exact ha)]
  simp
theorem Ends.cut {c : Dk} {v : Vl} {ns : List Nd} {t : List UInt8} (h : Ends c v ns t) : (c.cut v.file v.size).1 = 0 ∧ (c.mendT v t).now = c.now ∧ (c.mendT v t).armed = -1 := by
  obtain ⟨f, hf, hb⟩ := h.opens.data
  have hl : v.size ≤ (c.fileAt f).b.length := by
    rw [hb, List.length_append, superB_len, List.length_append, h.opens.size]
    omega
  have e := cut_ok h.armed hf hl
  refine ⟨by rw [e], ?_, ?_⟩
  · unfold Dk.mendT
    split
    · rfl
    · rw [e]; rfl
  · unfold Dk.mendT
    split
    · exact h.armed
    · rw [e]; exact h.armed
theorem nodup_names (v : Vl) : [v.file, mName v.num, sName v.num].Nodup := by
  have h1 : v.file ≠ mName v.num := v_ne_m _ _ _
  have h2 : v.file ≠ sName v.num := v_ne_s _ _ _
  have h3 := s_ne_m v.num
  simp [h1, h2, Ne.symm h3]
theorem Ends.tidied {c : Dk} {v : Vl} {ns : List Nd} {t : List UInt8} (h : Ends c v ns t) : ∃ c', Dk.tidyL (isShadow v) (namesOf (c.mendT v t).now) false (c.mendT v t) = (0, c') ∧ c'.now.length = 2 ∧ ∀ s ∈ namesOf (c.mendT v t).now, s = v.file ∨ s = mName v.num ∨ s = sName v.num := by
  obtain ⟨-, h2, h3⟩ := h.cut
  obtain ⟨y, hy⟩ : ∃ y, y = c.mendT v t := ⟨_, rfl⟩
  rw [← hy] at h2 h3 ⊢
  have hvs : v.file ≠ sName v.num := v_ne_s _ _ _
  have hsm := s_ne_m v.num
  rw [h2]
  rcases h.names with hn | hn
  · refine ⟨y, tidyL_none fun s hs => ?_, by rw [h2]; simpa using hn.length_eq, fun s hs => ?_⟩
    · have := hn.mem_iff.1 (mem_namesOf.1 hs)
      simp only [List.mem_cons, List.not_mem_nil, or_false] at this
      rcases this with rfl | rfl
      · simpa [isShadow] using hvs
      · simpa [isShadow] using Ne.symm hsm
    · have := hn.mem_iff.1 (mem_namesOf.1 hs)
      simp only [List.mem_cons, List.not_mem_nil, or_false] at this
      rcases this with e | e
      · exact .inl e
      · exact .inr (.inl e)
  · have hin : sName v.num ∈ c.now.map (·.1) := hn.mem_iff.2 (by simp)
    obtain ⟨p, hp1, hp2⟩ := List.mem_map.1 hin
    have hget : ∃ i, dirGet y.now (sName v.num) = some i := by
      cases hg : dirGet y.now (sName v.num) with
      | some i => exact ⟨i, rfl⟩
      | none => exact absurd hp2 (get_none hg p (by rw [h2]; exact hp1))
    obtain ⟨i, hi⟩ := hget
    have hf : y.fnd (sName v.num) = (0, i) := by unfold Dk.fnd; rw [if_neg (by rw [h3]; decide), hi]
    have hr : y.remove (sName v.num) = (0, { y with now := dirDel y.now (sName v.num), deeds := y.deeds ++ [⟨2, sName v.num, [], 0⟩] }) := by
      unfold Dk.remove
      rw [hf, if_neg (by simp)]
      congr 1
      unfold Dk.turn
      rw [did_off (by show y.armed = -1; exact h3)]
      rfl
    have hnd : (namesOf c.now).Nodup := by
      have h1 : (namesOf c.now).Perm (c.now.map (·.1)) := List.mergeSort_perm _ _
      exact (h1.trans hn).nodup_iff.2 (nodup_names v)
    refine ⟨{ y with now := dirDel y.now (sName v.num), lasting := dirDel y.now (sName v.num), deeds := [] }, ?_, ?_, fun s hs => ?_⟩
    · show Dk.tidyL (fun s => s == sName v.num) _ false y = _
      rw [tidyL_one (mem_namesOf.2 hin) hnd (by rw [hr]), hr]
      unfold Dk.syncNames
      rw [if_neg (by show ¬ y.armed = 0; rw [h3]; decide), did_off (by show y.armed = -1; exact h3)]
    · show (dirDel y.now (sName v.num)).length = 2
      have h5 : ((dirDel y.now (sName v.num)).map (·.1)).Perm [v.file, mName v.num] := by
        have h6 : (dirDel y.now (sName v.num)).map (·.1) = (y.now.map (·.1)).filter (fun s => !(s == sName v.num)) := by
          unfold dirDel
          rw [List.filter_map]
          rfl
        rw [h6, h2]
        refine (hn.filter _).trans ?_
        have e1 : (v.file == sName v.num) = false := by simpa using hvs
        have e2 : (mName v.num == sName v.num) = false := by simpa using Ne.symm hsm
        simp [e1, e2]
      simpa using h5.length_eq
    · have := hn.mem_iff.1 (mem_namesOf.1 hs)
      simpa using this
end Go.Proofs.YtmkhacgdejkimaaGreatDoor
