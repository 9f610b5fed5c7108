/- Package vol: a volume at rest is opened again; a volume is opened behind a crash. -/
import Derived.Test.YtmkhacgdejkimaaGreatDoorVa18
import Derived.Test.YtmkhacgdejkimaaGreatDoorVaTidyLaw
namespace Go.Proofs.YtmkhacgdejkimaaGreatDoor
open Go.RowKit
theorem c_len (v g : Nat) : (cName v g).length = (vName v g).length := by simp [cName, vName]
theorem cName_no {x : Dk} {v : Vl} (ha : x.armed ≠ 0) (hn : ∀ p ∈ x.now, p.1 = v.file ∨ p.1 = mName v.num ∨ p.1 = sName v.num) : (x.whole (cName v.num v.gen)).1 ≠ 0 := by
  have : dirGet x.now (cName v.num v.gen) = none := by
    cases e : dirGet x.now (cName v.num v.gen) with
    | none => rfl
    | some i =>
      rcases hn _ (get_mem e) with h | h | h
      · exact absurd h.symm (v_ne_c _ _ _ _)
      · exact absurd h (c_ne_m _ _ _)
      · exact absurd h (c_ne_s _ _ _)
  rw [whole_none ha this]
  simp
theorem ours_all {v : Vl} (hok : VOk v) {s : Nm} (hs : s = v.file ∨ s = mName v.num ∨ s = sName v.num) : OursAt v s (isShadow v s) ∧ s.length ≤ maxLen := by
  have h1 : v.file ≠ sName v.num := v_ne_s _ _ _
  have h2 := s_ne_m v.num
  rcases hs with rfl | rfl | rfl
  · have e : isShadow v v.file = false := by simpa [isShadow] using h1
    rw [e]
    exact ⟨ours_own hok.names (.inl ⟨rfl, .inl rfl⟩), hok.long.1⟩
  · have e : isShadow v (mName v.num) = false := by simpa [isShadow] using Ne.symm h2
    rw [e]
    exact ⟨ours_own hok.names (.inl ⟨rfl, .inr (.inr rfl)⟩), hok.long.2.2⟩
  · have e : isShadow v (sName v.num) = true := by simp [isShadow]
    rw [e]
    exact ⟨ours_own hok.names (.inr ⟨rfl, rfl⟩), hok.long.2.1⟩
def OpenTo (w : World) (dp : Nat) (P : Nat → Prop) (K : Nat) (d : Dk) (v : Vl) (e : Ending) (w' : World) : Prop :=
  ∃ vp, e = .returned (.tuple #[(.pointer (some ⟨vp, 0, none⟩)), .nilIface]) ∧ VS w' vp dp P K d v ∧ w.heap.size ≤ vp ∧ KP P w w'
theorem reopen {w : World} {dp K : Nat} {P : Nat → Prop} {x : Dk} {v : Vl} {ns : List Nd} (h : DS w dp P K x) (hP : ∀ k, P k → k < w.heap.size) (hK : K + 64 < 1099511627776) (hvd : VD x v ns) (hok : VOk v) (hn1 : NamesAt v.num 1) (hlen : v.idx.length ≤ 4096) :
    Calls Tryz.prog 39 #[(.pointer (some ⟨dp, 0, none⟩)), .int .i64 v.num, .int .i64 v.most] w (OpenTo w dp P (K + 64) x v) := by
  obtain ⟨f, g, hp⟩ := hvd.parts
  have hnm : ∀ p ∈ x.now, p.1 = v.file ∨ p.1 = mName v.num ∨ p.1 = sName v.num := fun p hq => by
    rcases hp.two with e | e <;> rw [e] at hq <;> simp only [List.mem_cons, List.not_mem_nil, or_false] at hq <;> rcases hq with rfl | rfl
    · exact .inl rfl
    · exact .inr (.inl rfl)
    · exact .inr (.inl rfl)
    · exact .inl rfl
  have hm : x.mendT v [] = x := if_pos rfl
  have ht := hvd.tidied
  have := open_none h hP hK hvd.opens hok hn1 (by rw [c_len]; exact hok.long.1) (cName_no hvd.opens.armed hnm) hvd.vi.ixOf hlen (fun e => absurd rfl e) (isShadow v) (fun s hs => ours_all hok (by
    rw [hm] at hs
    obtain ⟨p, hp1, rfl⟩ := List.mem_map.1 (mem_namesOf.1 hs)
    exact hnm p hp1)) (by rw [hm, ht])
  rw [hm, ht] at this
  exact this
end Go.Proofs.YtmkhacgdejkimaaGreatDoor
