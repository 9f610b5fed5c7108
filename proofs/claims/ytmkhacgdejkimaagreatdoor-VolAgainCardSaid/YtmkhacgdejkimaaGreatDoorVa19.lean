/- Joined texts: LastsLaw, LastsLaw2. -/
import Derived.Test.YtmkhacgdejkimaaGreatDoorVa10
import Derived.Test.YtmkhacgdejkimaaGreatDoorVaTornLaw
/- Package vol, plain: a disk that stops under a volume's call, and a crash behind it. No program in sight. -/
namespace Go.Proofs.YtmkhacgdejkimaaGreatDoor
section
variable {x : Dk} {k : Nat}
end
structure Ends (c : Dk) (v : Vl) (ns : List Nd) (t : List UInt8) : Prop where
  opens : Opens c v ns t
  armed : c.armed = -1
  gen : v.gen = 1
  names : (c.now.map (·.1)).Perm [v.file, mName v.num] ∨ (c.now.map (·.1)).Perm [v.file, mName v.num, sName v.num]
structure Parts (x : Dk) (v : Vl) (ns : List Nd) (f g : Nat) : Prop where
  fg : f ≠ g
  len : x.now.length = 2
  gf : dirGet x.now v.file = some f
  gg : dirGet x.now (mName v.num) = some g
  bf : (x.fileAt f).b = superB v.num 1 ++ ndsB ns
  bg : (x.fileAt g).b = manB v.num 1 v.epoch v.shut
  lf : f < x.files.length
  lg : g < x.files.length
  two : x.now = [(v.file, f), (mName v.num, g)] ∨ x.now = [(mName v.num, g), (v.file, f)]
theorem VD.parts {x : Dk} {v : Vl} {ns : List Nd} (h : VD x v ns) : ∃ f g, Parts x v ns f g := by
  obtain ⟨g, hg, hgb⟩ := h.man
  obtain ⟨f, g', hfg, hl, hf, hg', hfb, hgb'⟩ := h.vi.now
  obtain rfl : g = g' := Option.some.inj (hg.symm.trans hg')
  exact ⟨f, g, hfg, hl, hf, hg, hfb, hgb, fileAt_lt (by rw [hfb]; intro e; have := congrArg List.length e; rw [List.length_append, superB_len] at this; simp at this),
    fileAt_lt (by intro e; rw [e] at hgb'; simp at hgb'), two_mem hl hf hg (v_ne_m _ _ _)⟩
theorem Parts.perm {x : Dk} {v : Vl} {ns : List Nd} {f g : Nat} (h : Parts x v ns f g) : (x.now.map (·.1)).Perm [v.file, mName v.num] := by
  rcases h.two with e | e <;> rw [e]
  · exact List.Perm.refl _
  · exact List.Perm.swap _ _ _
theorem Parts.noS {x : Dk} {v : Vl} {ns : List Nd} {f g : Nat} (h : Parts x v ns f g) : ∀ p ∈ x.now, p.1 ≠ sName v.num := fun p hp => by
  have hvs : v.file ≠ sName v.num := v_ne_s _ _ _
  have hsm := s_ne_m v.num
  rcases h.two with e | e <;> rw [e] at hp <;> simp only [List.mem_cons, List.not_mem_nil, or_false] at hp <;> rcases hp with rfl | rfl
  · exact hvs
  · exact fun e => hsm e.symm
  · exact fun e => hsm e.symm
  · exact hvs
end Go.Proofs.YtmkhacgdejkimaaGreatDoor

/- Package vol, plain: any call on a disk that may stop under way. No program in sight. -/
namespace Go.Proofs.YtmkhacgdejkimaaGreatDoor
theorem Ends.rest {x : Dk} {v : Vl} {ns : List Nd} (h : VD x v ns) : Ends x v ns [] := by
  obtain ⟨f, g, hp⟩ := h.parts
  exact ⟨h.opens, h.vi.armed, h.vi.gen, .inl hp.perm⟩
end Go.Proofs.YtmkhacgdejkimaaGreatDoor
