import Derived.Test.YtmkhacgdejkimaaGreatDoorVl10
import Derived.Test.YtmkhacgdejkimaaGreatDoorVlTornLaw
namespace Go.Proofs.YtmkhacgdejkimaaGreatDoor
def Dk.arms (x : Dk) (k : Nat) : Dk := { x with armed := (k : Int) }
section
variable {x : Dk} {k : Nat}
theorem arms_did : (x.arms (k + 1)).did = x.arms k := by
 unfold Dk.did Dk.arms
 simp only
 rw [if_pos (by omega)]
 congr 1
 omega
theorem arms_fnd (ha : x.armed = -1) (s : Nm) : (x.arms (k + 1)).fnd s = x.fnd s := by
 unfold Dk.fnd
 rw [if_neg (by show ¬ ((k + 1 : Nat) : Int) = 0; omega), if_neg (by rw [ha]; decide)]
 rfl
theorem append_arms0 (s : Nm) (b : List UInt8) : (x.arms 0).append s b = (12, x.arms 0) := rfl
theorem sync_arms0 (s : Nm) : (x.arms 0).sync s = (12, x.arms 0) := rfl
theorem create_arms0 (s : Nm) : (x.arms 0).create s = (12, x.arms 0) := rfl
theorem rename_arms0 (s t : Nm) : (x.arms 0).rename s t = (12, x.arms 0) := rfl
theorem syncNames_arms0 : (x.arms 0).syncNames = (12, x.arms 0) := rfl
theorem append_arms (ha : x.armed = -1) {s : Nm} {b : List UInt8} {y : Dk} (h : x.append s b = (0, y)) : (x.arms (k + 1)).append s b = (0, y.arms k) := by
 unfold Dk.append at h ⊢
 rw [arms_fnd ha]
 split at h
 ·rename_i h1
  exact absurd (congrArg Prod.fst h) h1
 rename_i h1
 rw [if_neg h1]
 split at h
 ·cases h
 rename_i h2
 split at h
 ·cases h
 rename_i h3
 rw [if_neg (show ¬ 16777216 < ((x.arms (k + 1)).fileAt (x.fnd s).2).b.length + b.length from h2), if_neg (show ¬ (x.arms (k + 1)).cap < (x.arms (k + 1)).used + b.length from h3)]
 obtain rfl : y = x.setF (x.fnd s).2 ⟨(x.fileAt (x.fnd s).2).b ++ b, (x.fileAt (x.fnd s).2).lasts⟩ := (congrArg Prod.snd h).symm.trans (did_off (by show x.armed = -1; exact ha))
 congr 1
 exact arms_did (x := x.setF (x.fnd s).2 ⟨(x.fileAt (x.fnd s).2).b ++ b, (x.fileAt (x.fnd s).2).lasts⟩)
theorem sync_arms (ha : x.armed = -1) {s : Nm} {y : Dk} (h : x.sync s = (0, y)) : (x.arms (k + 1)).sync s = (0, y.arms k) := by
 unfold Dk.sync at h ⊢
 rw [arms_fnd ha]
 split at h
 ·rename_i h1
  exact absurd (congrArg Prod.fst h) h1
 rename_i h1
 rw [if_neg h1]
 obtain rfl : y = x.setF (x.fnd s).2 ⟨(x.fileAt (x.fnd s).2).b, (x.fileAt (x.fnd s).2).b.length⟩ := (congrArg Prod.snd h).symm.trans (did_off (by show x.armed = -1; exact ha))
 congr 1
 exact arms_did (x := x.setF (x.fnd s).2 ⟨(x.fileAt (x.fnd s).2).b, (x.fileAt (x.fnd s).2).b.length⟩)
theorem create_arms (ha : x.armed = -1) {s : Nm} {y : Dk} (h : x.create s = (0, y)) : (x.arms (k + 1)).create s = (0, y.arms k) := by
 unfold Dk.create at h ⊢
 rw [if_neg (by rw [ha]; decide)] at h
 rw [if_neg (by show ¬ ((k + 1 : Nat) : Int) = 0; omega)]
 split at h
 ·cases h
 rename_i h1
 rw [if_neg h1]
 split at h
 ·cases h
 rename_i h2
 rw [if_neg (show ¬ (dirGet (x.arms (k + 1)).now s).isSome = true from h2)]
 split at h
 ·cases h
 rename_i h3
 rw [if_neg (show ¬ 64 ≤ (x.arms (k + 1)).now.length from h3)]
 obtain rfl : y = { x with files := x.files ++ [⟨[], 0⟩], now := (⟨0, [], s, x.files.length⟩ : Deed).app x.now, deeds := x.deeds ++ [⟨0, [], s, x.files.length⟩] } := (congrArg Prod.snd h).symm.trans (did_off (by show x.armed = -1; exact ha))
 congr 1
 exact arms_did (x := { x with files := x.files ++ [⟨[], 0⟩], now := (⟨0, [], s, x.files.length⟩ : Deed).app x.now, deeds := x.deeds ++ [⟨0, [], s, x.files.length⟩] })
theorem rename_arms (ha : x.armed = -1) {s t : Nm} {y : Dk} (h : x.rename s t = (0, y)) : (x.arms (k + 1)).rename s t = (0, y.arms k) := by
 unfold Dk.rename at h ⊢
 rw [arms_fnd ha]
 split at h
 ·rename_i h1
  exact absurd (congrArg Prod.fst h) h1
 rename_i h1
 rw [if_neg h1]
 split at h
 ·cases h
 rename_i h2
 rw [if_neg h2]
 obtain rfl : y = { x with now := (⟨1, s, t, (x.fnd s).2⟩ : Deed).app x.now, deeds := x.deeds ++ [⟨1, s, t, (x.fnd s).2⟩] } := (congrArg Prod.snd h).symm.trans (did_off (by show x.armed = -1; exact ha))
 congr 1
 exact arms_did (x := { x with now := (⟨1, s, t, (x.fnd s).2⟩ : Deed).app x.now, deeds := x.deeds ++ [⟨1, s, t, (x.fnd s).2⟩] })
theorem syncNames_arms (ha : x.armed = -1) {y : Dk} (h : x.syncNames = (0, y)) : (x.arms (k + 1)).syncNames = (0, y.arms k) := by
 unfold Dk.syncNames at h ⊢
 rw [if_neg (by rw [ha]; decide)] at h
 rw [if_neg (by show ¬ ((k + 1 : Nat) : Int) = 0; omega)]
 obtain rfl : y = { x with lasting := x.now, deeds := [] } := (congrArg Prod.snd h).symm.trans (did_off (by show x.armed = -1; exact ha))
 congr 1
 exact arms_did (x := { x with lasting := x.now, deeds := [] })
end
theorem crash_arms (x : Dk) (k : Nat) (p : DPicks) : (x.arms k).crash p = x.crash p := rfl
structure Ends (c : Dk) (v : Vl) (ns : List Nd) (t : List UInt8) : Prop where
 opens : Opens c v ns t
 armed : c.armed = -1
 gen : v.gen = 1
 names : (c.now.map (·.1)).Perm [v.file, mName v.num] ∨ (c.now.map (·.1)).Perm [v.file, mName v.num, sName v.num]
theorem settleAll_at {D : Dir} {p : DPicks} {fs : List DFile} {i : Nat} {x : DFile} (h : fs[i]? = some x) (hs : x.lasts = x.b.length) : (settleAll D p fs)[i]? = some x := by
 unfold settleAll
 rw [List.getElem?_mapIdx, h]
 simp only [Option.map_some]
 split
 ·rw [settle_same hs]
 ·rfl
theorem settle_tail (b N : List UInt8) (q : DPick) : ∃ k, k ≤ N.length ∧ ((⟨b ++ N, b.length⟩ : DFile).settle q).b = b ++ (if 0 < k then xorAt (N.take k) (k - 1) q.turn else []) := by
 obtain ⟨k, hk⟩ : ∃ k, k = keepN ⟨b ++ N, b.length⟩ q := ⟨_, rfl⟩
 have hl : k ≤ N.length := by rw [hk]; unfold keepN; simp; omega
 refine ⟨k, hl, ?_⟩
 unfold DFile.settle
 rw [← hk]
 simp only
 have ht : (b ++ N).take (b.length + k) = b ++ N.take k := by
  rw [List.take_append, List.take_of_length_le (by omega), Nat.add_sub_cancel_left]
 rw [ht]
 by_cases h0 : 0 < k
 ·rw [if_pos h0, if_pos h0]
  have hlen : (b ++ N.take k).length - 1 = b.length + (k - 1) := by rw [List.length_append, List.length_take]; omega
  rw [hlen]
  unfold xorAt
  rw [List.set_append_right _ _ (by omega), Nat.add_sub_cancel_left, List.getElem?_append_right (by omega), Nat.add_sub_cancel_left]
 ·obtain rfl : k = 0 := by omega
  simp
theorem fileAt_some {x : Dk} {i : Nat} (h : i < x.files.length) : x.files[i]? = some (x.fileAt i) := by
 unfold Dk.fileAt
 rw [List.getElem?_eq_getElem h]
 rfl
theorem fileAt_sync {x : Dk} (hs : ∀ y ∈ x.files, y.lasts = y.b.length) {i : Nat} (h : i < x.files.length) : (x.fileAt i).lasts = (x.fileAt i).b.length := hs _ (by
 have := fileAt_some h
 exact List.mem_of_getElem? this)
structure Parts (x : Dk) (v : Vl) (ns : List Nd) (f g : Nat) : Prop where
 fg : f ≠ g
 len : x.now.length = 2
 gf : dirGet x.now v.file = some f
 gg : dirGet x.now (mName v.num) = some g
 bf : (x.fileAt f).b = superB v.num 1 ++ ndsB ns
 bg : (x.fileAt g).b = manB v.num 1 v.epoch v.shut
 lf : f < x.files.length
 lg : g < x.files.length
 two : x.now = [(v.file, f), (mName v.num, g)] ∨ x.now = [(mName v.num, g), (v.file, f)]
theorem VD.parts {x : Dk} {v : Vl} {ns : List Nd} (h : VD x v ns) : ∃ f g, Parts x v ns f g := by
 obtain ⟨g, hg, hgb⟩ := h.man
 obtain ⟨f, g', hfg, hl, hf, hg', hfb, hgb'⟩ := h.vi.now
 obtain rfl : g = g' := Option.some.inj (hg.symm.trans hg')
 exact ⟨f, g, hfg, hl, hf, hg, hfb, hgb, fileAt_lt (by rw [hfb]; intro e; have := congrArg List.length e; rw [List.length_append, superB_len] at this; simp at this),
  fileAt_lt (by intro e; rw [e] at hgb'; simp at hgb'), two_mem hl hf hg (v_ne_m _ _ _)⟩
theorem Parts.perm {x : Dk} {v : Vl} {ns : List Nd} {f g : Nat} (h : Parts x v ns f g) : (x.now.map (·.1)).Perm [v.file, mName v.num] := by
 rcases h.two with e | e <;> rw [e]
 ·exact List.Perm.refl _
 ·exact List.Perm.swap _ _ _
theorem Parts.noS {x : Dk} {v : Vl} {ns : List Nd} {f g : Nat} (h : Parts x v ns f g) : ∀ p ∈ x.now, p.1 ≠ sName v.num := fun p hp => by
 have hvs : v.file ≠ sName v.num := v_ne_s _ _ _
 have hsm := s_ne_m v.num
 rcases h.two with e | e <;> rw [e] at hp <;> simp only [List.mem_cons, List.not_mem_nil, or_false] at hp <;> rcases hp with rfl | rfl
 ·exact hvs
 ·exact fun e => hsm e.symm
 ·exact fun e => hsm e.symm
 ·exact hvs
theorem ins_perm (a : Nm × Nat) : ∀ l : Dir, (dirIns a l).Perm (a :: l)
 | [] => List.Perm.refl _
 | y :: r => by
  unfold dirIns
  split
  ·exact List.Perm.refl _
  ·exact ((ins_perm a r).cons y).trans (List.Perm.swap _ _ _)
theorem crash_old {x : Dk} {v : Vl} {ns : List Nd} {f g : Nat} (h : VD x v ns) (hp : Parts x v ns f g) {c : Dk} {D : Dir} {fs : List DFile} (hc : c = ⟨x.cap, D, D, [], fs, -1⟩) (hD : D = x.now ∨ ∃ N, D = dirPut x.now (sName v.num) N) (hf : fs[f]? = some (x.fileAt f)) (hg : fs[g]? = some (x.fileAt g)) : Ends c v ns [] := by
 have hvm : v.file ≠ mName v.num := v_ne_m _ _ _
 have hvs : v.file ≠ sName v.num := v_ne_s _ _ _
 have hsm := s_ne_m v.num
 have e := h.vi.gen
 have d1 : dirGet D v.file = some f := by
  rcases hD with rfl | ⟨N, rfl⟩
  ·exact hp.gf
  ·rw [get_put_other _ _ hvs]; exact hp.gf
 have d2 : dirGet D (mName v.num) = some g := by
  rcases hD with rfl | ⟨N, rfl⟩
  ·exact hp.gg
  ·rw [get_put_other _ _ (fun e => hsm e.symm)]; exact hp.gg
 subst hc
 refine ⟨⟨by show (-1 : Int) ≠ 0; decide, h.vi.num, by omega, h.vi.epoch, ⟨g, d2, ?_⟩, ⟨f, d1, ?_⟩, .inl rfl, h.vi.ok, h.vi.size⟩, rfl, e, ?_⟩
 ·show (Dk.fileAt ⟨x.cap, D, D, [], fs, -1⟩ g).b = _
  rw [e]
  unfold Dk.fileAt
  rw [hg]
  exact hp.bg
 ·show (Dk.fileAt ⟨x.cap, D, D, [], fs, -1⟩ f).b = _
  rw [e]
  unfold Dk.fileAt
  rw [hf]
  rw [List.append_nil]
  exact hp.bf
 ·rcases hD with rfl | ⟨N, rfl⟩
  ·exact .inl hp.perm
  ·refine .inr ?_
   show ((dirPut x.now (sName v.num) N).map (·.1)).Perm _
   unfold dirPut
   rw [del_none hp.noS]
   refine ((ins_perm _ _).map _).trans ?_
   show (sName v.num :: x.now.map (·.1)).Perm _
   refine (hp.perm.cons _).trans ?_
   exact (List.Perm.swap _ _ _).trans ((List.Perm.swap _ _ _).cons _)
theorem crash_new {x : Dk} {v : Vl} {ns : List Nd} {f g : Nat} (h : VD x v ns) (hp : Parts x v ns f g) {c : Dk} {fs : List DFile} {N e : Nat} {s : Bool} (hc : c = ⟨x.cap, dirPut x.now (mName v.num) N, dirPut x.now (mName v.num) N, [], fs, -1⟩) (he : e ≤ 2147483647) (hf : fs[f]? = some (x.fileAt f)) (hg : fs[N]? = some ⟨manB v.num 1 e s, (manB v.num 1 e s).length⟩) : Ends c { v with epoch := e, shut := s } ns [] := by
 have hvm : v.file ≠ mName v.num := v_ne_m _ _ _
 have e0 := h.vi.gen
 have d1 : dirGet (dirPut x.now (mName v.num) N) v.file = some f := by rw [get_put_other _ _ hvm]; exact hp.gf
 subst hc
 refine ⟨⟨by show (-1 : Int) ≠ 0; decide, h.vi.num, by show 1 ≤ v.gen ∧ v.gen ≤ _; omega, he, ⟨N, get_put_same _ _ _, ?_⟩, ⟨f, d1, ?_⟩, .inl rfl, h.vi.ok, h.vi.size⟩, rfl, e0, ?_⟩
 ·show (Dk.fileAt ⟨x.cap, _, _, [], fs, -1⟩ N).b = manB v.num v.gen e s
  rw [e0]
  unfold Dk.fileAt
  rw [hg]
  rfl
 ·show (Dk.fileAt ⟨x.cap, _, _, [], fs, -1⟩ f).b = superB v.num v.gen ++ _
  rw [e0]
  unfold Dk.fileAt
  rw [hf, List.append_nil]
  exact hp.bf
 ·refine .inl ?_
  show ((dirPut x.now (mName v.num) N).map (·.1)).Perm _
  unfold dirPut
  refine ((ins_perm _ _).map _).trans ?_
  have hb1 : (v.file == mName v.num) = false := by simpa using hvm
  have : dirDel x.now (mName v.num) = [(v.file, f)] := by
   rcases hp.two with q | q <;> rw [q] <;> simp [dirDel, hb1]
  rw [this]
  exact List.Perm.swap _ _ _
theorem crash_write {x : Dk} {v : Vl} {ns : List Nd} {f g : Nat} (h : VD x v ns) (hp : Parts x v ns f g) {n : Nd} (hn : NdOk n) (p : DPicks) {v' : Vl} (hv' : v' = { v with idx := ixPut v.idx (posOf v.size n), size := v.size + ndSize n.data.length }) :
  ∃ vX nsX t, Ends ((x.setF f ⟨(x.fileAt f).b ++ ndBytes n, (x.fileAt f).b.length⟩).crash p) vX nsX t ∧ ((vX = v ∧ nsX = ns) ∨ (vX = v' ∧ nsX = ns ++ [n])) := by
 have e := h.vi.gen
 obtain ⟨y, hy⟩ : ∃ y, y = x.setF f ⟨(x.fileAt f).b ++ ndBytes n, (x.fileAt f).b.length⟩ := ⟨_, rfl⟩
 rw [← hy]
 have hld : y.lastDir p = x.now := by
  unfold Dk.lastDir
  rw [hy]
  show deedsApp (x.deeds.take _) x.lasting = _
  rw [h.deeds, h.last, List.take_nil]
  rfl
 have hany : x.now.any (fun q => q.2 == f) = true := by
  rw [List.any_eq_true]
  exact ⟨_, get_mem hp.gf, by simp⟩
 obtain ⟨k, hk, hst⟩ := settle_tail (x.fileAt f).b (ndBytes n) (p.at f)
 obtain ⟨t, ht⟩ : ∃ t, t = if 0 < k then xorAt ((ndBytes n).take k) (k - 1) (p.at f).turn else [] := ⟨_, rfl⟩
 rw [← ht] at hst
 have hto := torn hn k (p.at f).turn hk ht
 have hff : ((y.crash p).fileAt f).b = superB v.num 1 ++ (ndsB ns ++ t) := by
  unfold Dk.fileAt Dk.crash
  show ((settleAll (y.lastDir p) p y.files)[f]?.getD ⟨[], 0⟩).b = _
  rw [hld]
  unfold settleAll
  rw [List.getElem?_mapIdx]
  have : y.files[f]? = some ⟨(x.fileAt f).b ++ ndBytes n, (x.fileAt f).b.length⟩ := by
   rw [hy]
   show (x.files.set f _)[f]? = _
   rw [List.getElem?_set_self hp.lf]
  rw [this]
  simp only [Option.map_some, hany, if_true, Option.getD_some]
  rw [hst, hp.bf, List.append_assoc]
 have hgg : ((y.crash p).fileAt g).b = manB v.num 1 v.epoch v.shut := by
  unfold Dk.fileAt Dk.crash
  show ((settleAll (y.lastDir p) p y.files)[g]?.getD ⟨[], 0⟩).b = _
  have : y.files[g]? = some (x.fileAt g) := by
   rw [hy]
   show (x.files.set f _)[g]? = _
   rw [List.getElem?_set_ne hp.fg]
   exact fileAt_some hp.lg
  rw [settleAll_at this (fileAt_sync h.sync hp.lg)]
  exact hp.bg
 have hnow : (y.crash p).now = x.now := hld
 rcases hto with e1 | e1 | e1
 ·refine ⟨v, ns, [], ⟨⟨by show (-1 : Int) ≠ 0; decide, h.vi.num, by omega, h.vi.epoch, ⟨g, by rw [hnow]; exact hp.gg, by rw [e]; exact hgg⟩, ⟨f, by rw [hnow]; exact hp.gf, by rw [e, hff, e1]⟩, .inl rfl, h.vi.ok, h.vi.size⟩, rfl, e, .inl (by rw [hnow]; exact hp.perm)⟩, .inl ⟨rfl, rfl⟩⟩
 ·subst hv'
  refine ⟨{ v with idx := ixPut v.idx (posOf v.size n), size := v.size + ndSize n.data.length }, ns ++ [n], [], ⟨⟨by show (-1 : Int) ≠ 0; decide, h.vi.num, by show 1 ≤ v.gen ∧ v.gen ≤ _; omega, h.vi.epoch, ⟨g, by rw [hnow]; exact hp.gg, by show _ = manB v.num v.gen v.epoch v.shut; rw [e]; exact hgg⟩, ⟨f, by rw [hnow]; exact hp.gf, by
   show _ = superB v.num v.gen ++ _
   rw [e, hff, e1, ndsB_append]
   simp [ndsB]⟩, .inl rfl, ?_, ?_⟩, rfl, e, .inl (by rw [hnow]; exact hp.perm)⟩, .inr ⟨rfl, rfl⟩⟩
  ·intro m hm
   rcases List.mem_append.1 hm with hm | hm
   ·exact h.vi.ok m hm
   ·obtain rfl : m = n := by simpa using hm
    exact hn
  ·show v.size + ndSize n.data.length = 16 + (ndsB (ns ++ [n])).length
   rw [ndsB_append, List.length_append, h.vi.size]
   have : (ndsB [n]).length = ndSize n.data.length := by simp [ndsB, ndBytes_len]
   omega
 ·exact ⟨v, ns, t, ⟨⟨by show (-1 : Int) ≠ 0; decide, h.vi.num, by omega, h.vi.epoch, ⟨g, by rw [hnow]; exact hp.gg, by rw [e]; exact hgg⟩, ⟨f, by rw [hnow]; exact hp.gf, by rw [e]; exact hff⟩, .inr e1, h.vi.ok, h.vi.size⟩, rfl, e, .inl (by rw [hnow]; exact hp.perm)⟩, .inl ⟨rfl, rfl⟩⟩
theorem Ends.rest {x : Dk} {v : Vl} {ns : List Nd} (h : VD x v ns) : Ends x v ns [] := by
 obtain ⟨f, g, hp⟩ := h.parts
 exact ⟨h.opens, h.vi.armed, h.vi.gen, .inl hp.perm⟩
theorem append_eq {x : Dk} {v : Vl} {ns : List Nd} {f g : Nat} (h : VD x v ns) (hp : Parts x v ns f g) {n : Nd} (hcap : v.size + ndSize n.data.length + 24 ≤ 1048576) :
  x.append v.file (ndBytes n) = (0, x.setF f ⟨(x.fileAt f).b ++ ndBytes n, (x.fileAt f).b.length⟩) := by
 have hflen : (x.fileAt f).b.length = v.size := by rw [hp.bf, List.length_append, superB_len, h.vi.size]
 have ha : x.armed ≠ 0 := by rw [h.vi.armed]; decide
 have hfnd : x.fnd v.file = (0, f) := by unfold Dk.fnd; rw [if_neg ha, hp.gf]
 have hu := used_two hp.len hp.gf hp.gg (v_ne_m _ _ _)
 have hb := ndBytes_len n
 rw [hflen, hp.bg, manB_len] at hu
 unfold Dk.append
 rw [hfnd, if_neg (by simp), if_neg (by rw [hflen, hb]; omega), if_neg (by rw [hu, hb, h.vi.cap]; omega)]
 rw [did_off (by show x.armed = -1; exact h.vi.armed), fileAt_sync h.sync hp.lf]
def Stops (v : Vl) (ns : List Nd) (sz : Nat) (r : Nat × Dk × Vl) (q : Nat × Rv) : Prop :=
 (∃ k' x' v' ns', r = (q.1, x'.arms k', v') ∧ VD x' v' ns' ∧ Rv.of v' ns' = q.2 ∧ v'.size ≤ v.size + sz ∧ ns'.length ≤ ns.length + 1 ∧ v'.num = v.num) ∨
 (∃ d' v', r = (12, d', v') ∧ ∀ p, ∃ vX nsX t, Ends (d'.crash p) vX nsX t ∧ (Rv.of { vX with idx := ixOf nsX } nsX = Rv.of v ns ∨ Rv.of { vX with idx := ixOf nsX } nsX = q.2))
theorem Rv.of_idx {x : Dk} {v : Vl} {ns : List Nd} (h : VI x v ns) : Rv.of { v with idx := ixOf ns } ns = Rv.of v ns := by rw [h.ixOf]
theorem write_stops {x : Dk} {v : Vl} {ns : List Nd} (h : VD x v ns) (k : Nat) {n : Nd} (hk : n.key < 18446744073709551616) (hck : n.cookie < 4294967296) (hc : ndCheck n = 0) (hcap : v.size + ndSize n.data.length + 56 ≤ 1048576) :
  Stops v ns (ndSize n.data.length) (v.write (x.arms k) n) ((Rv.of v ns).write n) := by
 obtain ⟨f, g, hp⟩ := h.parts
 obtain ⟨d', v', ns', e1, e2, e3, e4, e5⟩ := h.vi.write_r hk hck hc (by omega)
 cases hr : v.room n.key (ndSize n.data.length) with
 | false =>
  have ea : ∀ d, v.write d n = (11, d, v) := fun d => by
   unfold Vl.write
   rw [if_neg (by rw [hc]; simp), if_pos hr]
  rw [ea] at e1
  have q1 : ((Rv.of v ns).write n).1 = 11 := (congrArg Prod.fst e1).symm
  refine .inl ⟨k, x, v, ns, ?_, h, ?_, by omega, by omega, rfl⟩
  ·rw [ea, q1]
  ·unfold Rv.write at q1 ⊢
   split at q1
   ·rename_i h1
    rw [if_pos h1]
   ·cases q1
 | true =>
  have hck2 := ndCheck_ok hc
  have hnd : NdOk n := ⟨hk, hck, hck2.1, hck2.2⟩
  obtain ⟨d2, v2, w1, w2, w3⟩ := h.vi.write hk hck hc hr (by omega)
  have hc0 : ((Rv.of v ns).write n).1 = 0 := (congrArg Prod.fst (e1.symm.trans w1))
  obtain ⟨rfl, rfl⟩ : d' = d2 ∧ v' = v2 := by
   have := congrArg Prod.snd (e1.symm.trans w1)
   exact ⟨congrArg Prod.fst this, congrArg Prod.snd this⟩
  have hns : Rv.of v' (ns ++ [n]) = ((Rv.of v ns).write n).2 := by
   unfold Rv.write at hc0 ⊢
   split at hc0
   ·cases hc0
   ·rename_i h1
    rw [if_neg h1, w3]
    rfl
  have hap := append_eq h hp (n := n) (by omega)
  have hfnd : x.fnd v.file = (0, f) := by unfold Dk.fnd; rw [if_neg (by rw [h.vi.armed]; decide), hp.gf]
  have hsy := app_sync (s := v.file) (b := ndBytes n) h.vi.armed (by rw [hap]) (by rw [hfnd]; exact hp.lf)
  rw [hap, hfnd] at hsy
  simp only at hsy
  obtain ⟨y1, hy1⟩ : ∃ y1, y1 = x.setF f ⟨(x.fileAt f).b ++ ndBytes n, (x.fileAt f).b.length⟩ := ⟨_, rfl⟩
  obtain ⟨y2, hy2⟩ : ∃ y2, y2 = x.setF f ⟨(x.fileAt f).b ++ ndBytes n, ((x.fileAt f).b ++ ndBytes n).length⟩ := ⟨_, rfl⟩
  rw [← hy1] at hap hsy
  rw [← hy2] at hsy
  have hd' : d' = y2 := by
   unfold Vl.write at w1
   rw [if_neg (by rw [hc]; simp), if_neg (by rw [hr]; simp), hap, if_neg (by simp), hsy] at w1
   exact (congrArg (fun q => q.2.1) w1).symm
  have hvv : v' = { v with idx := ixPut v.idx (posOf v.size n), size := v.size + ndSize n.data.length } := w3
  have hvd : VD d' v' (ns ++ [n]) := by
   obtain ⟨g1, g2, g3, g4, g5, g6⟩ := h.write n
   rw [w1] at g1 g2 g3 g5 g6
   exact ⟨w2, ⟨g4, by rw [hvv]; exact g5, by rw [hvv]; exact g6⟩, g1, g2, g3⟩
  have hwr : ∀ d, v.write d n = if (d.append v.file (ndBytes n)).1 ≠ 0 then ((d.append v.file (ndBytes n)).1, (d.append v.file (ndBytes n)).2, v) else
    (((d.append v.file (ndBytes n)).2.sync v.file).1, ((d.append v.file (ndBytes n)).2.sync v.file).2, v') := fun d => by
   unfold Vl.write
   rw [if_neg (by rw [hc]; simp), if_neg (by rw [hr]; simp), ← hvv]
  match k with
  | 0 =>
   refine .inr ⟨x.arms 0, v, ?_, fun p => ⟨v, ns, [], ?_, .inl (Rv.of_idx h.vi)⟩⟩
   ·rw [hwr, append_arms0, if_pos (by simp)]
   ·rw [crash_arms, h.crash]
    exact Ends.rest h
  | 1 =>
   refine .inr ⟨y1.arms 0, v', ?_, fun p => ?_⟩
   ·rw [hwr, append_arms h.vi.armed hap, if_neg (by simp), sync_arms0]
   ·obtain ⟨vX, nsX, t, q1, q2⟩ := crash_write h hp hnd p hvv
    rw [← hy1] at q1
    rw [crash_arms]
    refine ⟨vX, nsX, t, q1, ?_⟩
    rcases q2 with ⟨rfl, rfl⟩ | ⟨rfl, rfl⟩
    ·exact .inl (Rv.of_idx h.vi)
    ·refine .inr ?_
     rw [Rv.of_idx w2]
     exact hns
  | k + 2 =>
   refine .inl ⟨k, d', v', ns ++ [n], ?_, hvd, hns, by rw [hvv]; exact Nat.le_refl _, by simp, by rw [hvv]⟩
   have ha1 : y1.armed = -1 := by rw [hy1]; exact h.vi.armed
   rw [hwr, append_arms h.vi.armed hap, if_neg (by simp), sync_arms ha1 hsy, hc0, hd']
theorem lay_steps {x : Dk} {v : Vl} {ns : List Nd} {f g : Nat} (h : VD x v ns) (hp : Parts x v ns f g) (e : Nat) (s : Bool) (hcap : v.size + 48 ≤ 1048576) :
  ∃ x1 x2 x3 x4 x5, x.create (sName v.num) = (0, x1) ∧ x1.append (sName v.num) (manB v.num v.gen e s) = (0, x2) ∧ x2.sync (sName v.num) = (0, x3) ∧ x3.rename (sName v.num) (mName v.num) = (0, x4) ∧ x4.syncNames = (0, x5) ∧
   x1 = { x with files := x.files ++ [⟨[], 0⟩], now := dirPut x.now (sName v.num) x.files.length, deeds := [⟨0, [], sName v.num, x.files.length⟩] } ∧
   x2 = { x with files := x.files ++ [⟨manB v.num v.gen e s, 0⟩], now := dirPut x.now (sName v.num) x.files.length, deeds := [⟨0, [], sName v.num, x.files.length⟩] } ∧
   x3 = { x with files := x.files ++ [⟨manB v.num v.gen e s, (manB v.num v.gen e s).length⟩], now := dirPut x.now (sName v.num) x.files.length, deeds := [⟨0, [], sName v.num, x.files.length⟩] } ∧
   x4 = { x with files := x.files ++ [⟨manB v.num v.gen e s, (manB v.num v.gen e s).length⟩], now := dirPut x.now (mName v.num) x.files.length, deeds := [⟨0, [], sName v.num, x.files.length⟩, ⟨1, sName v.num, mName v.num, x.files.length⟩] } ∧
   x5 = { x with files := x.files ++ [⟨manB v.num v.gen e s, (manB v.num v.gen e s).length⟩], now := dirPut x.now (mName v.num) x.files.length, lasting := dirPut x.now (mName v.num) x.files.length, deeds := [] } := by
 have hflen : (x.fileAt f).b.length = v.size := by rw [hp.bf, List.length_append, superB_len, h.vi.size]
 have ha : x.armed ≠ 0 := by rw [h.vi.armed]; decide
 have hno := hp.noS
 have hsn : dirGet x.now (sName v.num) = none := by
  cases e : dirGet x.now (sName v.num) with
  | none => rfl
  | some y => exact absurd rfl (hno _ (get_mem e))
 have hu := used_two hp.len hp.gf hp.gg (v_ne_m _ _ _)
 rw [hflen, hp.bg, manB_len] at hu
 have hml := manB_len v.num v.gen e s
 obtain ⟨B, hB⟩ : ∃ B, B = manB v.num v.gen e s := ⟨_, rfl⟩
 rw [← hB] at hml ⊢
 obtain ⟨N, hN⟩ : ∃ N, N = x.files.length := ⟨_, rfl⟩
 obtain ⟨S, hS⟩ : ∃ S, S = sName v.num := ⟨_, rfl⟩
 have hnm : namedB S = true := by rw [hS]; exact named_s h.vi.num.2
 have hnm2 := named_m h.vi.num.2
 rw [← hS] at hsn hno ⊢
 rw [← hN]
 have hlen := hp.len
 have har := h.vi.armed
 have hin : ∀ p ∈ x.now, p.2 < N := fun p hq => by
  rw [hN]
  rcases hp.two with e | e <;> rw [e] at hq <;> simp only [List.mem_cons, List.not_mem_nil, or_false] at hq <;> rcases hq with rfl | rfl
  ·exact hp.lf
  ·exact hp.lg
  ·exact hp.lg
  ·exact hp.lf
 obtain ⟨x1, hx1⟩ : ∃ x1 : Dk, x1 = { x with files := x.files ++ [⟨[], 0⟩], now := dirPut x.now S N, deeds := [⟨0, [], S, N⟩] } := ⟨_, rfl⟩
 have c1 : x.create S = (0, x1) := by
  unfold Dk.create
  rw [if_neg ha, if_neg (by rw [hnm]; simp), if_neg (by rw [hsn]; simp), if_neg (by omega)]
  congr 1
  unfold Dk.turn
  rw [did_off (by show x.armed = -1; exact har), hx1]
  show ({ x with files := _, now := _, deeds := x.deeds ++ _ } : Dk) = _
  rw [h.deeds, hN]
  rfl
 have a1 : x1.armed = -1 := by rw [hx1]; exact har
 have g1 : dirGet x1.now S = some N := by rw [hx1]; exact get_put_same _ _ _
 have h1f : ∀ y : Dk, y.armed = -1 → y.now = x1.now → y.fnd S = (0, N) := fun y hy hn => by
  unfold Dk.fnd
  rw [if_neg (by rw [hy]; decide), hn, g1]
 have h1n : x1.fileAt N = ⟨[], 0⟩ := by
  rw [hx1, hN]
  unfold Dk.fileAt
  simp
 have u1 : x1.used = x.used := by
  unfold Dk.used
  have : x1.now = dirIns (S, N) x.now := by rw [hx1]; show dirPut _ _ _ = _; unfold dirPut; rw [del_none hno]
  rw [this, sum_ins]
  show (x1.fileAt N).b.length + _ = _
  rw [h1n]
  simp only [List.length_nil, Nat.zero_add]
  congr 1
  refine List.map_congr_left fun p hq => ?_
  have : x1.fileAt p.2 = x.fileAt p.2 := by
   rw [hx1]
   unfold Dk.fileAt
   simp only [List.getElem?_append_left (show p.2 < x.files.length by have := hin p hq; omega)]
  rw [this]
 have c2 : x1.append S B = (0, { x with files := x.files ++ [⟨B, 0⟩], now := dirPut x.now S N, deeds := [⟨0, [], S, N⟩] }) := by
  unfold Dk.append
  have hcap1 : x1.cap = x.cap := by rw [hx1]
  rw [h1f x1 a1 rfl, if_neg (by simp), if_neg (by rw [h1n]; simp; omega), if_neg (by rw [u1, hcap1, hu, hml, h.vi.cap]; omega)]
  rw [did_off (by show x1.armed = -1; exact a1), h1n, hx1, hN]
  unfold Dk.setF
  simp only [set_last, List.nil_append]
 obtain ⟨x2, hx2⟩ : ∃ x2 : Dk, x2 = { x with files := x.files ++ [⟨B, 0⟩], now := dirPut x.now S N, deeds := [⟨0, [], S, N⟩] } := ⟨_, rfl⟩
 rw [← hx2] at c2
 have a2 : x2.armed = -1 := by rw [hx2]; exact har
 have h2n : x2.fileAt N = ⟨B, 0⟩ := by
  rw [hx2, hN]
  unfold Dk.fileAt
  simp
 obtain ⟨x3, hx3⟩ : ∃ x3 : Dk, x3 = { x with files := x.files ++ [⟨B, B.length⟩], now := dirPut x.now S N, deeds := [⟨0, [], S, N⟩] } := ⟨_, rfl⟩
 have c3 : x2.sync S = (0, x3) := by
  unfold Dk.sync
  rw [h1f x2 a2 (by rw [hx2, hx1]), if_neg (by simp), h2n, did_off (by show x2.armed = -1; exact a2), hx2, hx3, hN]
  unfold Dk.setF
  simp only [set_last]
 have a3 : x3.armed = -1 := by rw [hx3]; exact har
 obtain ⟨x4, hx4⟩ : ∃ x4 : Dk, x4 = { x with files := x.files ++ [⟨B, B.length⟩], now := dirPut x.now (mName v.num) N, deeds := [⟨0, [], S, N⟩, ⟨1, S, mName v.num, N⟩] } := ⟨_, rfl⟩
 have c4 : x3.rename S (mName v.num) = (0, x4) := by
  unfold Dk.rename
  rw [h1f x3 a3 (by rw [hx3, hx1]), if_neg (by simp), if_neg (by rw [hnm2]; simp)]
  congr 1
  unfold Dk.turn
  rw [did_off (by show x3.armed = -1; exact a3), hx3, hx4]
  have e2 : (⟨1, S, mName v.num, N⟩ : Deed).app (dirPut x.now S N) = dirPut x.now (mName v.num) N := by
   show dirPut (dirDel (dirPut x.now S N) S) (mName v.num) N = _
   congr 1
   unfold dirPut
   rw [del_none hno, del_ins N hno]
  show ({ x with files := _, now := (⟨1, S, mName v.num, N⟩ : Deed).app (dirPut x.now S N), deeds := _ } : Dk) = _
  rw [e2]
  rfl
 have a4 : x4.armed = -1 := by rw [hx4]; exact har
 refine ⟨x1, x2, x3, x4, _, c1, c2, c3, c4, ?_, hx1, hx2, hx3, hx4, rfl⟩
 unfold Dk.syncNames
 rw [if_neg (by rw [a4]; decide), did_off (by show x4.armed = -1; exact a4), hx4]
theorem lay_stops {x : Dk} {v : Vl} {ns : List Nd} (h : VD x v ns) (k : Nat) (e : Nat) (s : Bool) (he : e ≤ 2147483647) (hcap : v.size + 48 ≤ 1048576) :
  (∃ k' x', (x.arms k).lay v.num v.gen e s = (0, x'.arms k') ∧ VD x' { v with epoch := e, shut := s } ns) ∨
  (∃ d', (x.arms k).lay v.num v.gen e s = (12, d') ∧ ∀ p, ∃ vX, Ends (d'.crash p) vX ns [] ∧ (vX = v ∨ vX = { v with epoch := e, shut := s })) := by
 obtain ⟨f, g, hp⟩ := h.parts
 obtain ⟨x1, x2, x3, x4, x5, c1, c2, c3, c4, c5, h1, h2, h3, h4, h5⟩ := lay_steps h hp e s hcap
 have har := h.vi.armed
 have a1 : x1.armed = -1 := by rw [h1]; exact har
 have a2 : x2.armed = -1 := by rw [h2]; exact har
 have a3 : x3.armed = -1 := by rw [h3]; exact har
 have a4 : x4.armed = -1 := by rw [h4]; exact har
 have hsn : dirGet x.now (sName v.num) = none := by
  cases e : dirGet x.now (sName v.num) with
  | none => rfl
  | some y => exact absurd rfl (hp.noS _ (get_mem e))
 have hr : rightV v.num v.gen e = true := by
  have h1 := h.vi.num
  have h2 := h.vi.gen
  unfold rightV
  simp
  omega
 have hl : ∀ k, (x.arms k).lay v.num v.gen e s = (x.arms k).layTo v.num v.gen e s := fun k => by
  unfold Dk.lay
  rw [if_neg (by rw [hr]; simp), if_neg (by
   show ¬ (dirGet x.now (sName v.num)).isSome = true
   rw [hsn]; simp)]
 -- the old directory, or the shadow in it
 have hold : ∀ (F : DFile) (p : DPicks) (y : Dk), y = { x with files := x.files ++ [F], now := dirPut x.now (sName v.num) x.files.length, deeds := [⟨0, [], sName v.num, x.files.length⟩] } → Ends (y.crash p) v ns [] := fun F p y hy => by
  have hD : y.lastDir p = x.now ∨ ∃ N, y.lastDir p = dirPut x.now (sName v.num) N := by
   unfold Dk.lastDir
   rw [hy]
   show deedsApp ([_].take _) x.lasting = _ ∨ ∃ N, deedsApp ([_].take _) x.lasting = _
   rw [h.last]
   cases p.names.toNat with
   | zero => exact .inl rfl
   | succ j => exact .inr ⟨x.files.length, by simp [deedsApp, Deed.app]⟩
  refine crash_old h hp (D := y.lastDir p) (fs := settleAll (y.lastDir p) p y.files) (by unfold Dk.crash; rw [hy]) hD ?_ ?_
  ·refine settleAll_at ?_ (fileAt_sync h.sync hp.lf)
   rw [hy]
   show (x.files ++ [F])[f]? = _
   rw [List.getElem?_append_left hp.lf]
   exact fileAt_some hp.lf
  ·refine settleAll_at ?_ (fileAt_sync h.sync hp.lg)
   rw [hy]
   show (x.files ++ [F])[g]? = _
   rw [List.getElem?_append_left hp.lg]
   exact fileAt_some hp.lg
 match k with
 | 0 =>
  refine .inr ⟨x.arms 0, ?_, fun p => ⟨v, ?_, .inl rfl⟩⟩
  ·rw [hl]
   unfold Dk.layTo Dk.fresh
   rw [create_arms0, if_pos (by simp), if_pos (by simp)]
  ·rw [crash_arms, h.crash]
   exact Ends.rest h
 | 1 =>
  refine .inr ⟨x1.arms 0, ?_, fun p => ⟨v, by rw [crash_arms]; exact hold _ p _ h1, .inl rfl⟩⟩
  rw [hl]
  unfold Dk.layTo Dk.fresh
  rw [create_arms har c1, append_arms0]
  simp
 | 2 =>
  refine .inr ⟨x2.arms 0, ?_, fun p => ⟨v, by rw [crash_arms]; exact hold _ p _ h2, .inl rfl⟩⟩
  rw [hl]
  unfold Dk.layTo Dk.fresh
  rw [create_arms har c1]
  simp only [append_arms a1 c2, sync_arms0]
  simp
 | 3 =>
  refine .inr ⟨x3.arms 0, ?_, fun p => ⟨v, by rw [crash_arms]; exact hold _ p _ h3, .inl rfl⟩⟩
  rw [hl]
  unfold Dk.layTo Dk.fresh
  rw [create_arms har c1]
  simp only [append_arms a1 c2, sync_arms a2 c3]
  simp [rename_arms0]
 | 4 =>
  refine .inr ⟨x4.arms 0, ?_, fun p => ?_⟩
  ·rw [hl]
   unfold Dk.layTo Dk.fresh
   rw [create_arms har c1]
   simp only [append_arms a1 c2, sync_arms a2 c3]
   simp [rename_arms a3 c4, syncNames_arms0]
  ·rw [crash_arms]
   have gf : ∀ D, (settleAll D p x4.files)[f]? = some (x.fileAt f) := fun D => by
    refine settleAll_at ?_ (fileAt_sync h.sync hp.lf)
    rw [h4]
    show (x.files ++ [_])[f]? = _
    rw [List.getElem?_append_left hp.lf]
    exact fileAt_some hp.lf
   have gg : ∀ D, (settleAll D p x4.files)[g]? = some (x.fileAt g) := fun D => by
    refine settleAll_at ?_ (fileAt_sync h.sync hp.lg)
    rw [h4]
    show (x.files ++ [_])[g]? = _
    rw [List.getElem?_append_left hp.lg]
    exact fileAt_some hp.lg
   have hc : x4.crash p = ⟨x.cap, x4.lastDir p, x4.lastDir p, [], settleAll (x4.lastDir p) p x4.files, -1⟩ := by
    unfold Dk.crash
    rw [h4]
   have hle : x4.lastDir p = deedsApp (([⟨0, [], sName v.num, x.files.length⟩, ⟨1, sName v.num, mName v.num, x.files.length⟩] : List Deed).take p.names.toNat) x.now := by
    unfold Dk.lastDir
    rw [h4]
    show deedsApp _ x.lasting = _
    rw [h.last]
   by_cases h2 : p.names.toNat ≤ 1
   ·refine ⟨v, crash_old h hp hc ?_ (gf _) (gg _), .inl rfl⟩
    rw [hle]
    match hm : p.names.toNat, h2 with
    | 0, _ => exact .inl rfl
    | 1, _ => exact .inr ⟨x.files.length, rfl⟩
   ·have hD : x4.lastDir p = dirPut x.now (mName v.num) x.files.length := by
     rw [hle, List.take_of_length_le (by show 2 ≤ _; omega)]
     show dirPut (dirDel (dirPut x.now (sName v.num) x.files.length) (sName v.num)) (mName v.num) x.files.length = _
     congr 1
     unfold dirPut
     rw [del_none hp.noS, del_ins _ hp.noS]
    rw [hD] at hc
    refine ⟨_, crash_new h hp hc he (gf _) ?_, .inr rfl⟩
    refine settleAll_at ?_ rfl
    rw [h4, h.vi.gen]
    show (x.files ++ [_])[x.files.length]? = _
    simp
 | k + 5 =>
  obtain ⟨d', l1, l2⟩ := h.lay e s he hcap
  refine .inl ⟨k, x5, ?_, ?_⟩
  ·rw [hl]
   unfold Dk.layTo Dk.fresh
   rw [create_arms har c1]
   simp only [append_arms a1 c2, sync_arms a2 c3]
   simp [rename_arms a3 c4, syncNames_arms a4 c5]
  ·have := lay_last_eq h.vi e s he hcap
   rw [← h5] at this
   rw [l1] at this
   cases this
   exact l2
theorem arms_read {x : Dk} {k : Nat} (ha : x.armed = -1) (s : Nm) (o n : Int) : (x.arms (k + 1)).read s o n = x.read s o n := by
 unfold Dk.read
 rw [arms_fnd ha]
 rfl
theorem act_stops {x : Dk} {v : Vl} {ns : List Nd} (h : VD x v ns) (k : Nat) (a : VAct) (hk : a.n.key < 18446744073709551616) (hck : a.n.cookie < 4294967296) (hcap : v.size + ndSize a.n.data.length + 56 ≤ 1048576) :
  Stops v ns (ndSize a.n.data.length) (v.act (x.arms k) a) ((Rv.of v ns).act a) := by
 have h9 : 32 ≤ ndSize a.n.data.length := by unfold ndSize; omega
 have hstay : ∀ e, Stops v ns (ndSize a.n.data.length) (e, x.arms k, v) (e, Rv.of v ns) := fun e => .inl ⟨k, x, v, ns, rfl, h, rfl, by omega, by omega, rfl⟩
 unfold Vl.act Rv.act
 split
 ·unfold Vl.put Rv.put
  split
  ·exact hstay 1
  split
  ·exact hstay _
  rename_i hc
  have hsh : (Rv.of v ns).shut = v.shut := rfl
  rw [hsh]
  split
  ·exact hstay 10
  ·have hx := h.vi.idx a.n.key
   have hn := newest_last ns 16 a.n.key
   show Stops v ns _ (match ixFind v.idx a.n.key with | some p => (if p.gone = true then 7 else 8, x.arms k, v) | none => v.write (x.arms k) a.n) (match lastOf ns a.n.key with | some o => (if o.gone = true then 7 else 8, Rv.of v ns) | none => (Rv.of v ns).write a.n)
   rw [hx, ← hn]
   cases newest ns 16 a.n.key with
   | none => exact write_stops h k hk hck (by omega) hcap
   | some x => exact hstay _
 split
 ·unfold Vl.del Rv.del
  rw [h.vi.look]
  split
  ·exact hstay _
  have hsh : (Rv.of v ns).shut = v.shut := rfl
  rw [hsh]
  split
  ·exact hstay 10
  ·have := write_stops h k (n := ⟨a.n.key, a.n.cookie, true, []⟩) hk hck rfl (by
    show v.size + ndSize 0 + 56 ≤ 1048576
    have : ndSize 0 = 32 := rfl
    omega)
   rcases this with ⟨k', x', v', ns', q1, q2, q3, q4, q5, q6⟩ | q
   ·refine .inl ⟨k', x', v', ns', q1, q2, q3, Nat.le_trans q4 ?_, q5, q6⟩
    show v.size + ndSize 0 ≤ _
    have : ndSize 0 = 32 := rfl
    omega
   ·exact .inr q
 split
 ·obtain ⟨g1, g2⟩ := h.vi.gets a.n.key a.n.cookie
  match k with
  | 0 =>
   by_cases hf : (v.find a.n.key a.n.cookie).1 = 0
   ·refine .inr ⟨x.arms 0, v, ?_, fun p => ⟨v, ns, [], ?_, .inl (Rv.of_idx h.vi)⟩⟩
    ·unfold Vl.get
     rw [if_neg (by omega)]
     rfl
    ·rw [crash_arms, h.crash]
     exact Ends.rest h
   ·have : (v.get (x.arms 0) a.n.key a.n.cookie).1 = (Rv.of v ns).look a.n.key a.n.cookie := by
     unfold Vl.get
     rw [if_pos hf]
     exact h.vi.look _ _
    rw [this]
    exact hstay _
  | k + 1 =>
   have e : v.get (x.arms (k + 1)) a.n.key a.n.cookie = v.get x a.n.key a.n.cookie := by
    unfold Vl.get
    simp only [arms_read h.vi.armed]
   rw [e, g1]
   exact hstay _
 split
 ·exact hstay 0
 split
 ·unfold Vl.set Rv.set
  split
  ·exact hstay 1
  have he : (Rv.of v ns).epoch = v.epoch := rfl
  rw [he]
  split
  ·exact hstay 13
  ·rcases lay_stops h k a.m.toNat a.n.gone (by omega) (by omega) with ⟨k', x', q1, q2⟩ | ⟨d', q1, q2⟩
   ·rw [q1, if_neg (by simp)]
    exact .inl ⟨k', x', _, ns, rfl, q2, rfl, by show v.size ≤ _; omega, by omega, rfl⟩
   ·rw [q1, if_pos (by simp)]
    refine .inr ⟨d', v, rfl, fun p => ?_⟩
    obtain ⟨vX, q3, q4⟩ := q2 p
    refine ⟨vX, ns, [], q3, ?_⟩
    have hx := h.vi.ixOf
    rcases q4 with rfl | rfl
    ·exact .inl (Rv.of_idx h.vi)
    ·refine .inr ?_
     show Rv.of { v with epoch := _, shut := _, idx := ixOf ns } ns = _
     rw [hx]
     rfl
 ·exact hstay 0
theorem ixPut_le : ∀ (l : List Ps) (p : Ps), (ixPut l p).length ≤ l.length + 1
 | [], _ => Nat.le_refl _
 | q :: r, p => by
  have := ixPut_le r p
  unfold ixPut
  split
  ·simp; omega
  split <;> simp
theorem Rv.act_cases (v : Rv) (a : VAct) : (v.act a).2 = v ∨ (∃ n, v.size + ndSize n.data.length ≤ v.most ∧ (v.act a).2 = { v with l := ixPut v.l (posOf v.size n), d := v.d ++ [n], size := v.size + ndSize n.data.length }) ∨ (∃ e s, (v.act a).2 = { v with epoch := e, shut := s }) := by
 have hw2 : ∀ n, (v.write n).2 = v ∨ (∃ m, v.size + ndSize m.data.length ≤ v.most ∧ (v.write n).2 = { v with l := ixPut v.l (posOf v.size m), d := v.d ++ [m], size := v.size + ndSize m.data.length }) ∨ (∃ e s, (v.write n).2 = { v with epoch := e, shut := s }) := fun n => by
  unfold Rv.write
  split
  ·exact .inl rfl
  ·rename_i h
   exact .inr (.inl ⟨n, by have := fun e => h (.inl e); omega, rfl⟩)
 unfold Rv.act
 split
 ·unfold Rv.put
  split
  ·exact .inl rfl
  split
  ·exact .inl rfl
  split
  ·exact .inl rfl
  split
  ·exact .inl rfl
  ·exact hw2 _
 split
 ·unfold Rv.del
  split
  ·exact .inl rfl
  split
  ·exact .inl rfl
  ·exact hw2 _
 split
 ·exact .inl rfl
 split
 ·exact .inl rfl
 split
 ·unfold Rv.set
  split
  ·exact .inl rfl
  split
  ·exact .inl rfl
  ·exact .inr (.inr ⟨_, _, rfl⟩)
 ·exact .inl rfl
theorem Rv.act_diff (v : Rv) (a : VAct) : (v.act a).2 = v ∨ (v.act a).2.epoch ≠ v.epoch ∨ ((v.act a).2.epoch = v.epoch ∧ (v.act a).2.size ≠ v.size) ∨ ((v.act a).2.epoch = v.epoch ∧ (v.act a).2.size = v.size ∧ (v.act a).2.shut ≠ v.shut) := by
 rcases v.act_cases a with h | ⟨n, h1, h2⟩ | ⟨e, s, h⟩
 ·exact .inl h
 ·rw [h2]
  refine .inr (.inr (.inl ⟨rfl, ?_⟩))
  show v.size + ndSize n.data.length ≠ v.size
  have : 32 ≤ ndSize n.data.length := by unfold ndSize; omega
  omega
 ·rw [h]
  by_cases h1 : e = v.epoch
  ·subst h1
   by_cases h2 : s = v.shut
   ·subst h2
    exact .inl rfl
   ·exact .inr (.inr (.inr ⟨rfl, rfl, h2⟩))
  ·exact .inr (.inl h1)
theorem Rv.act_room {v : Rv} (h : v.size ≤ v.most) (a : VAct) : (v.act a).2.size ≤ (v.act a).2.most := by
 rcases v.act_cases a with e | ⟨n, h1, h2⟩ | ⟨_, _, e⟩
 ·rw [e]; exact h
 ·rw [h2]; exact h1
 ·rw [e]; exact h
theorem Rv.act_len (v : Rv) (a : VAct) : (v.act a).2.l.length ≤ v.l.length + 1 ∧ (v.act a).2.num = v.num ∧ (v.act a).2.most = v.most := by
 rcases v.act_cases a with e | ⟨n, h1, h2⟩ | ⟨_, _, e⟩
 ·rw [e]; exact ⟨by omega, rfl, rfl⟩
 ·rw [h2]; exact ⟨ixPut_le _ _, rfl, rfl⟩
 ·rw [e]; exact ⟨Nat.le_succ _, rfl, rfl⟩
theorem Rv.act_no12 (v : Rv) (a : VAct) : (v.act a).1 ≠ 12 := by
 have hw : ∀ n, (v.write n).1 ≠ 12 := fun n => by
  unfold Rv.write
  split <;> simp
 have hc : ∀ n, ndCheck n ≠ 12 := fun n => by
  unfold ndCheck
  split
  ·simp
  split <;> simp
 have hl : ∀ k c, v.look k c ≠ 12 := fun k c => by
  unfold Rv.look
  split
  ·simp
  split
  ·simp
  split <;> simp
 unfold Rv.act
 split
 ·unfold Rv.put
  split
  ·simp
  split
  ·exact hc _
  split
  ·simp
  split
  ·split <;> simp
  ·exact hw _
 split
 ·unfold Rv.del
  split
  ·exact hl _ _
  split
  ·simp
  ·exact hw _
 split
 ·exact hl _ _
 split
 ·simp
 split
 ·unfold Rv.set
  split
  ·simp
  split <;> simp
 ·simp
theorem get_told {x : Dk} {v : Vl} {ns : List Nd} (h : VD x v ns) (k : Nat) (key cookie : Nat) (ht : ∀ key cookie, (v.get x key cookie).2.1 = false) : (v.get (x.arms k) key cookie).2.1 = false := by
 match k with
 | 0 =>
  unfold Vl.get
  split
  ·rfl
  ·rw [if_pos (by show (12 : Nat) ≠ 0; simp)]
 | k + 1 =>
  have e : v.get (x.arms (k + 1)) key cookie = v.get x key cookie := by
   unfold Vl.get
   simp only [arms_read h.vi.armed]
  rw [e]
  exact ht _ _
theorem Stops.code {v : Vl} {ns : List Nd} {sz : Nat} {r : Nat × Dk × Vl} {q : Nat × Rv} (h : Stops v ns sz r q) (hq : q.1 ≤ 17) : r.1 ≤ 17 := by
 rcases h with ⟨_, _, _, _, e, _⟩ | ⟨_, _, e, _⟩
 ·rw [e]; exact hq
 ·rw [e]; show 12 ≤ 17; omega
end Go.Proofs.YtmkhacgdejkimaaGreatDoor
