/- Package disk, plain: names, files, deeds, calls, a crash. No program in sight. -/
import Derived.Maps.Views
import Derived.Maps.Ext
namespace Go.Proofs.YtfpjfoajonbndaaGreatDoor
open Go.Maps
abbrev Nm := List UInt8
abbrev Dir := List (Nm × Nat)
structure DFile where
  b : List UInt8
  lasts : Nat
structure Deed where
  kind : Nat
  frm : Nm
  to : Nm
  file : Nat
def dirIns (x : Nm × Nat) : Dir → Dir
  | [] => [x]
  | y :: r => if bytesBefore x.1 y.1 then x :: y :: r else y :: dirIns x r
def dirDel (l : Dir) (s : Nm) : Dir := l.filter fun p => !(p.1 == s)
def dirPut (l : Dir) (s : Nm) (f : Nat) : Dir := dirIns (s, f) (dirDel l s)
def dirGet (l : Dir) (s : Nm) : Option Nat := (l.find? fun p => p.1 == s).map (·.2)
/-- What the program's map reads as: a name leads to its file's block. -/
def dirD (g : Nat → Nat) (l : Dir) : DataW Unit := .map (l.map fun p => (.string p.1, .lit (.int .i64 (g p.2))))
theorem dirD_ins (g : Nat → Nat) (x : Nm × Nat) : ∀ l : Dir, (dirIns x l).map (fun p => ((Lit.string p.1, DataW.lit (.int .i64 (g p.2))) : Lit × DataW Unit)) = DataW.insert (.string x.1, .lit (.int .i64 (g x.2))) (l.map fun p => (.string p.1, .lit (.int .i64 (g p.2))))
  | [] => rfl
  | y :: r => by
    simp only [dirIns, List.map_cons, DataW.insert]
    by_cases h : bytesBefore x.1 y.1 = true
    · rw [if_pos h]
      exact (if_pos (show (Lit.string x.1).before (.string y.1) = true from h)).symm
    · rw [if_neg h, List.map_cons, dirD_ins g x r]
      exact (if_neg (show ¬ (Lit.string x.1).before (.string y.1) = true from h)).symm
theorem dirD_filter (g : Nat → Nat) (s : Nm) (l : Dir) : (dirDel l s).map (fun p => ((Lit.string p.1, DataW.lit (.int .i64 (g p.2))) : Lit × DataW Unit)) = (l.map fun p => (.string p.1, .lit (.int .i64 (g p.2)))).filter fun p => !p.1.sameKey (.string s) := by
  unfold dirDel
  rw [List.filter_map]
  rfl
theorem dirD_del (g : Nat → Nat) (l : Dir) (s : Nm) : dirD g (dirDel l s) = (dirD g l).del (.string s) := by
  unfold dirD DataW.del
  rw [dirD_filter]
theorem dirD_put (g : Nat → Nat) (l : Dir) (s : Nm) (f : Nat) : dirD g (dirPut l s f) = (dirD g l).put (.string s) (.lit (.int .i64 (g f))) := by
  unfold dirD DataW.put dirPut
  rw [dirD_ins, dirD_filter]
theorem dirD_get (g : Nat → Nat) (l : Dir) (s : Nm) (z : DataW Unit) : (dirD g l).atKey (.string s) z = match dirGet l s with | some f => .lit (.int .i64 (g f)) | none => z := by
  unfold dirD DataW.atKey dirGet
  simp only [List.find?_map]
  have e : ((fun p : Lit × DataW Unit => p.1.sameKey (.string s)) ∘ fun p : Nm × Nat => (Lit.string p.1, DataW.lit (.int .i64 (g p.2)))) = fun p => p.1 == s := rfl
  rw [e]
  cases l.find? (fun p => p.1 == s) <;> rfl
theorem dirD_has (g : Nat → Nat) (l : Dir) (s : Nm) : Maps.has (dirD g l) (.string s) = (dirGet l s).isSome := by
  unfold dirD dirGet
  rw [has_eq, List.any_map, Option.isSome_map, Bool.eq_iff_iff, List.find?_isSome, List.any_eq_true]
  rfl
theorem dirD_size (g : Nat → Nat) (l : Dir) : Maps.size (dirD g l) = l.length := by
  unfold dirD
  rw [size_eq, List.length_map]
theorem dirD_congr {g g' : Nat → Nat} {l : Dir} (h : ∀ p ∈ l, g p.2 = g' p.2) : dirD g l = dirD g' l := by
  unfold dirD
  congr 1
  exact List.map_congr_left fun p hp => by rw [h p hp]
theorem mem_ins {x y : Nm × Nat} : ∀ {l : Dir}, y ∈ dirIns x l ↔ y = x ∨ y ∈ l
  | [] => by simp [dirIns]
  | z :: r => by
    unfold dirIns
    split
    · simp
    · rw [List.mem_cons, mem_ins, List.mem_cons]
      constructor
      · rintro (h | h | h) <;> simp [h]
      · rintro (h | h | h) <;> simp [h]
theorem len_ins (x : Nm × Nat) : ∀ l : Dir, (dirIns x l).length = l.length + 1
  | [] => rfl
  | y :: r => by
    unfold dirIns
    split
    · rfl
    · rw [List.length_cons, len_ins x r, List.length_cons]
theorem mem_del {l : Dir} {s : Nm} {p : Nm × Nat} : p ∈ dirDel l s ↔ p ∈ l ∧ p.1 ≠ s := by
  unfold dirDel
  rw [List.mem_filter]
  simp
theorem mem_put {l : Dir} {s : Nm} {f : Nat} {p : Nm × Nat} : p ∈ dirPut l s f ↔ p = (s, f) ∨ (p ∈ l ∧ p.1 ≠ s) := by
  unfold dirPut
  rw [mem_ins, mem_del]
theorem len_del (l : Dir) (s : Nm) : (dirDel l s).length ≤ l.length := List.length_filter_le _ _
theorem len_put (l : Dir) (s : Nm) (f : Nat) : (dirPut l s f).length ≤ l.length + 1 := by
  unfold dirPut
  rw [len_ins]
  have := len_del l s
  omega
theorem get_mem {l : Dir} {s : Nm} {f : Nat} (h : dirGet l s = some f) : (s, f) ∈ l := by
  unfold dirGet at h
  obtain ⟨p, hp, rfl⟩ := Option.map_eq_some_iff.1 h
  have h1 := List.find?_some hp
  have h2 := List.mem_of_find?_eq_some hp
  simp at h1
  rw [← h1]
  exact h2
theorem get_none {l : Dir} {s : Nm} (h : dirGet l s = none) : ∀ p ∈ l, p.1 ≠ s := by
  unfold dirGet at h
  rw [Option.map_eq_none_iff, List.find?_eq_none] at h
  intro p hp e
  exact h p hp (by simp [e])
theorem find_ins_miss {f : Nm × Nat → Bool} {x : Nm × Nat} (hx : f x = false) : ∀ l : Dir, (dirIns x l).find? f = l.find? f
  | [] => by simp [dirIns, hx]
  | y :: r => by
    unfold dirIns
    split
    · rw [List.find?_cons, hx]
    · rw [List.find?_cons, List.find?_cons, find_ins_miss hx r]
theorem find_ins_hit {f : Nm × Nat → Bool} {x : Nm × Nat} (hx : f x = true) : ∀ l : Dir, (∀ p ∈ l, f p = false) → (dirIns x l).find? f = some x
  | [], _ => by simp [dirIns, hx]
  | y :: r, h => by
    unfold dirIns
    split
    · rw [List.find?_cons, hx]
    · rw [List.find?_cons, h y List.mem_cons_self]
      exact find_ins_hit hx r fun p hp => h p (List.mem_cons_of_mem _ hp)
theorem find_del {f : Nm × Nat → Bool} {s : Nm} (h : ∀ p : Nm × Nat, f p = true → p.1 ≠ s) (l : Dir) : (dirDel l s).find? f = l.find? f := by
  unfold dirDel
  induction l with
  | nil => rfl
  | cons y r ih =>
    rw [List.filter_cons]
    by_cases hy : y.1 = s
    · have hfy : f y = false := by
        cases e : f y
        · rfl
        · exact absurd hy (h y e)
      simp [hy, hfy, ih]
    · simp [hy, List.find?_cons, ih]
theorem get_del_same (l : Dir) (s : Nm) : dirGet (dirDel l s) s = none := by
  unfold dirGet
  rw [Option.map_eq_none_iff, List.find?_eq_none]
  intro p hp
  simp [(mem_del.1 hp).2]
theorem get_del_other (l : Dir) {s t : Nm} (h : t ≠ s) : dirGet (dirDel l s) t = dirGet l t := by
  unfold dirGet
  rw [find_del]
  intro p hp
  simp at hp
  rw [hp]
  exact h
theorem get_put_same (l : Dir) (s : Nm) (f : Nat) : dirGet (dirPut l s f) s = some f := by
  unfold dirGet dirPut
  rw [find_ins_hit (by simp)]
  · rfl
  · intro p hp
    simp [(mem_del.1 hp).2]
theorem get_put_other (l : Dir) {s t : Nm} (f : Nat) (h : t ≠ s) : dirGet (dirPut l s f) t = dirGet l t := by
  have h' : ((s == t) = false) := by simp [Ne.symm h]
  have := get_del_other l h
  unfold dirGet at this ⊢
  unfold dirPut
  rw [find_ins_miss (by exact h'), this]
/-- A deed of names: 0 create, 1 rename, else remove. -/
def Deed.app (d : Deed) (l : Dir) : Dir :=
  if d.kind = 0 then dirPut l d.to d.file else if d.kind = 1 then dirPut (dirDel l d.frm) d.to d.file else dirDel l d.frm
def deedsApp (ds : List Deed) (l : Dir) : Dir := ds.foldl (fun l d => d.app l) l
theorem app_mem {d : Deed} {l : Dir} {p : Nm × Nat} (h : p ∈ d.app l) : p ∈ l ∨ (d.kind ≤ 1 ∧ p = (d.to, d.file)) := by
  unfold Deed.app at h
  split at h
  · rcases mem_put.1 h with h | h
    · exact .inr ⟨by omega, h⟩
    · exact .inl h.1
  · split at h
    · rcases mem_put.1 h with h | h
      · exact .inr ⟨by omega, h⟩
      · exact .inl (mem_del.1 h.1).1
    · exact .inl (mem_del.1 h).1
theorem app_len (d : Deed) (l : Dir) : (d.app l).length ≤ l.length + 1 := by
  unfold Deed.app
  split
  · exact len_put _ _ _
  · split
    · have := len_put (dirDel l d.frm) d.to d.file
      have := len_del l d.frm
      omega
    · have := len_del l d.frm
      omega
structure Dk where
  cap : Nat
  now : Dir
  lasting : Dir
  deeds : List Deed
  files : List DFile
  armed : Int
def Dk.new (c : Nat) : Dk := ⟨c, [], [], [], [], -1⟩
def okc (c : UInt8) : Bool := (97 ≤ c.toNat && c.toNat ≤ 122) || (48 ≤ c.toNat && c.toNat ≤ 57) || c.toNat == 46
def namedB (s : Nm) : Bool := !s.isEmpty && decide (s.length ≤ 32) && s.all okc
def Dk.did (d : Dk) : Dk := { d with armed := if 0 < d.armed then d.armed - 1 else d.armed }
def Dk.turn (d : Dk) (x : Deed) : Dk := ({ d with now := x.app d.now, deeds := d.deeds ++ [x] } : Dk).did
def Dk.fileAt (d : Dk) (i : Nat) : DFile := d.files[i]?.getD ⟨[], 0⟩
def Dk.used (d : Dk) : Nat := (d.now.map fun p => (d.fileAt p.2).b.length).sum
def Dk.setF (d : Dk) (i : Nat) (f : DFile) : Dk := { d with files := d.files.set i f }
/-- A call of a name: 12 down, 6 none. -/
def Dk.fnd (d : Dk) (s : Nm) : Nat × Nat := if d.armed = 0 then (12, 0) else match dirGet d.now s with | none => (6, 0) | some i => (0, i)
def Dk.create (d : Dk) (s : Nm) : Nat × Dk :=
  if d.armed = 0 then (12, d) else if namedB s = false then (1, d) else if (dirGet d.now s).isSome then (8, d) else if 64 ≤ d.now.length then (11, d) else
  (0, ({ d with files := d.files ++ [⟨[], 0⟩] } : Dk).turn ⟨0, [], s, d.files.length⟩)
def Dk.append (d : Dk) (s : Nm) (b : List UInt8) : Nat × Dk :=
  if (d.fnd s).1 ≠ 0 then ((d.fnd s).1, d) else
  if 16777216 < (d.fileAt (d.fnd s).2).b.length + b.length then (2, d) else if d.cap < d.used + b.length then (11, d) else
  (0, (d.setF (d.fnd s).2 ⟨(d.fileAt (d.fnd s).2).b ++ b, (d.fileAt (d.fnd s).2).lasts⟩).did)
def Dk.read (d : Dk) (s : Nm) (off n : Int) : Nat × List UInt8 :=
  if (d.fnd s).1 ≠ 0 then ((d.fnd s).1, []) else
  if off < 0 ∨ n < 0 then (1, []) else if ((d.fileAt (d.fnd s).2).b.length : Int) < off + n then (3, []) else
  (0, ((d.fileAt (d.fnd s).2).b.drop off.toNat).take n.toNat)
def Dk.size (d : Dk) (s : Nm) : Nat × Nat := if (d.fnd s).1 ≠ 0 then ((d.fnd s).1, 0) else (0, (d.fileAt (d.fnd s).2).b.length)
def Dk.sync (d : Dk) (s : Nm) : Nat × Dk :=
  if (d.fnd s).1 ≠ 0 then ((d.fnd s).1, d) else (0, (d.setF (d.fnd s).2 ⟨(d.fileAt (d.fnd s).2).b, (d.fileAt (d.fnd s).2).b.length⟩).did)
def Dk.syncNames (d : Dk) : Nat × Dk := if d.armed = 0 then (12, d) else (0, ({ d with lasting := d.now, deeds := [] } : Dk).did)
def Dk.rename (d : Dk) (s t : Nm) : Nat × Dk :=
  if (d.fnd s).1 ≠ 0 then ((d.fnd s).1, d) else if namedB t = false then (1, d) else (0, d.turn ⟨1, s, t, (d.fnd s).2⟩)
def Dk.remove (d : Dk) (s : Nm) : Nat × Dk := if (d.fnd s).1 ≠ 0 then ((d.fnd s).1, d) else (0, d.turn ⟨2, s, [], 0⟩)
def Dk.cut (d : Dk) (s : Nm) (n : Int) : Nat × Dk :=
  if (d.fnd s).1 ≠ 0 then ((d.fnd s).1, d) else if n < 0 ∨ ((d.fileAt (d.fnd s).2).b.length : Int) < n then (1, d) else
  (0, (d.setF (d.fnd s).2 ⟨(d.fileAt (d.fnd s).2).b.take n.toNat, n.toNat⟩).did)
def Dk.arm (d : Dk) (n : Int) : Nat × Dk := if d.armed = 0 then (12, d) else if n < 0 then (1, d) else (0, { d with armed := n })
def xorAt (l : List UInt8) (i : Nat) (x : UInt8) : List UInt8 := l.set i (l[i]?.getD 0 ^^^ x)
def Dk.spoil (d : Dk) (s : Nm) (off : Int) (x : UInt8) : Nat × Dk :=
  if (d.fnd s).1 ≠ 0 then ((d.fnd s).1, d) else if off < 0 ∨ ((d.fileAt (d.fnd s).2).b.length : Int) ≤ off then (1, d) else
  (0, d.setF (d.fnd s).2 ⟨xorAt (d.fileAt (d.fnd s).2).b off.toNat x, (d.fileAt (d.fnd s).2).lasts⟩)
structure DPick where
  keep : Int
  turn : UInt8
structure DPicks where
  names : Int
  files : List DPick
def keepN (f : DFile) (p : DPick) : Nat := min p.keep.toNat (f.b.length - f.lasts)
def DFile.settle (f : DFile) (p : DPick) : DFile :=
  let b := f.b.take (f.lasts + keepN f p)
  let b' := if 0 < keepN f p then xorAt b (b.length - 1) p.turn else b
  ⟨b', b'.length⟩
def DPicks.at (p : DPicks) (i : Nat) : DPick := p.files[i]?.getD ⟨0, 0⟩
def settleAll (l : Dir) (p : DPicks) (fs : List DFile) : List DFile := fs.mapIdx fun i f => if l.any (fun x => x.2 == i) then f.settle (p.at i) else f
def Dk.lastDir (d : Dk) (p : DPicks) : Dir := deedsApp (d.deeds.take p.names.toNat) d.lasting
def Dk.crash (d : Dk) (p : DPicks) : Dk := ⟨d.cap, d.lastDir p, d.lastDir p, [], settleAll (d.lastDir p) p d.files, -1⟩
theorem xorAt_len (l : List UInt8) (i : Nat) (x : UInt8) : (xorAt l i x).length = l.length := by simp [xorAt]
theorem settle_lasts (f : DFile) (p : DPick) : (f.settle p).lasts = (f.settle p).b.length := rfl
theorem settle_len (f : DFile) (p : DPick) (h : f.lasts ≤ f.b.length) : (f.settle p).b.length = f.lasts + keepN f p := by
  have hk : keepN f p ≤ f.b.length - f.lasts := Nat.min_le_right _ _
  unfold DFile.settle
  dsimp only
  split
  · rw [xorAt_len, List.length_take]; omega
  · rw [List.length_take]; omega
theorem settle_twice (f : DFile) (p q : DPick) : (f.settle p).settle q = f.settle p := by
  have h : keepN (f.settle p) q = 0 := by
    unfold keepN
    rw [settle_lasts]
    simp
  have hl : (f.settle p).lasts = (f.settle p).b.length := settle_lasts f p
  generalize f.settle p = g at h hl
  obtain ⟨b, n⟩ := g
  simp only at hl
  subst hl
  unfold DFile.settle
  rw [h]
  simp
/-- What any disk of the program's is like: its numbers fit. -/
structure DkOk (K : Nat) (d : Dk) : Prop where
  cap : d.cap ≤ 1073741824
  nf : d.files.length ≤ K
  nd : d.deeds.length ≤ K
  armed : -1 ≤ d.armed ∧ d.armed ≤ 9223372036854775807
  fnow : ∀ p ∈ d.now, p.2 < d.files.length
  flast : ∀ p ∈ d.lasting, p.2 < d.files.length
  fdeed : ∀ x ∈ d.deeds, x.kind ≤ 1 → x.file < d.files.length
  fb : ∀ f ∈ d.files, f.lasts ≤ f.b.length ∧ f.b.length ≤ 16777216
  whole : deedsApp d.deeds d.lasting = d.now
  hist : ∀ k, (deedsApp (d.deeds.take k) d.lasting).length ≤ 64
theorem DkOk.lnow {K : Nat} {d : Dk} (h : DkOk K d) : d.now.length ≤ 64 := by
  have := h.hist d.deeds.length
  rwa [List.take_length, h.whole] at this
theorem DkOk.llast {K : Nat} {d : Dk} (h : DkOk K d) : d.lasting.length ≤ 64 := h.hist 0
theorem DkOk.mono {K L : Nat} {d : Dk} (h : DkOk K d) (hl : K ≤ L) : DkOk L d :=
  ⟨h.cap, Nat.le_trans h.nf hl, Nat.le_trans h.nd hl, h.armed, h.fnow, h.flast, h.fdeed, h.fb, h.whole, h.hist⟩
theorem DkOk.new {c : Nat} (h : c ≤ 1073741824) : DkOk 0 (Dk.new c) :=
  ⟨h, Nat.le_refl _, Nat.le_refl _, ⟨by show (-1 : Int) ≤ -1; omega, by show (-1 : Int) ≤ _; omega⟩, fun _ h => absurd h List.not_mem_nil, fun _ h => absurd h List.not_mem_nil, fun _ h => absurd h List.not_mem_nil, fun _ h => absurd h List.not_mem_nil, rfl, fun k => by simp [Dk.new, deedsApp]⟩
theorem DkOk.did {K : Nat} {d : Dk} (h : DkOk K d) : DkOk K d.did := by
  refine ⟨h.cap, h.nf, h.nd, ?_, h.fnow, h.flast, h.fdeed, h.fb, h.whole, h.hist⟩
  have := h.armed
  show -1 ≤ (if 0 < d.armed then d.armed - 1 else d.armed) ∧ (if 0 < d.armed then d.armed - 1 else d.armed) ≤ _
  split <;> omega
theorem DkOk.turn {K : Nat} {d : Dk} (h : DkOk K d) (hK : d.deeds.length + 1 ≤ K) (x : Deed) (hf : x.kind ≤ 1 → x.file < d.files.length) (hl : (x.app d.now).length ≤ 64) : DkOk K (d.turn x) := by
  refine DkOk.did (d := { d with now := x.app d.now, deeds := d.deeds ++ [x] }) ⟨h.cap, h.nf, by simpa using hK, h.armed, fun p hp => ?_, h.flast, fun y hy hk => ?_, h.fb, ?_, fun k => ?_⟩
  · rcases app_mem hp with hp | ⟨hk, rfl⟩
    · exact h.fnow p hp
    · exact hf hk
  · rcases List.mem_append.1 hy with hy | hy
    · exact h.fdeed y hy hk
    · obtain rfl : y = x := by simpa using hy
      exact hf hk
  · show deedsApp (d.deeds ++ [x]) d.lasting = x.app d.now
    rw [← h.whole]
    simp [deedsApp, List.foldl_append]
  · show (deedsApp ((d.deeds ++ [x]).take k) d.lasting).length ≤ 64
    by_cases hk : k ≤ d.deeds.length
    · rw [List.take_append_of_le_length hk]
      exact h.hist k
    · rw [List.take_of_length_le (by simp; omega)]
      have e : deedsApp (d.deeds ++ [x]) d.lasting = x.app d.now := by
        rw [← h.whole]
        simp [deedsApp, List.foldl_append]
      rw [e]
      exact hl
theorem DkOk.setF {K : Nat} {d : Dk} (h : DkOk K d) (i : Nat) (f : DFile) (hf : f.lasts ≤ f.b.length ∧ f.b.length ≤ 16777216) : DkOk K (d.setF i f) := by
  refine ⟨h.cap, by simpa [Dk.setF] using h.nf, h.nd, h.armed, by simpa [Dk.setF] using h.fnow, by simpa [Dk.setF] using h.flast, by simpa [Dk.setF] using h.fdeed, fun g hg => ?_, h.whole, h.hist⟩
  rcases List.mem_or_eq_of_mem_set hg with hg | rfl
  · exact h.fb g hg
  · exact hf
theorem DkOk.at {K : Nat} {d : Dk} (h : DkOk K d) (i : Nat) : (d.fileAt i).lasts ≤ (d.fileAt i).b.length ∧ (d.fileAt i).b.length ≤ 16777216 := by
  unfold Dk.fileAt
  cases e : d.files[i]? with
  | none => simp
  | some f => exact h.fb f (List.mem_of_getElem? e)
theorem fnd_get {d : Dk} {s : Nm} (h : ¬ (d.fnd s).1 ≠ 0) : d.armed ≠ 0 ∧ dirGet d.now s = some (d.fnd s).2 := by
  unfold Dk.fnd at h ⊢
  by_cases ha : d.armed = 0
  · simp [ha] at h
  · cases e : dirGet d.now s with
    | none => simp [ha, e] at h
    | some i => simp [ha]
theorem DkOk.fnd {K : Nat} {d : Dk} (hd : DkOk K d) {s : Nm} (h : ¬ (d.fnd s).1 ≠ 0) : (d.fnd s).2 < d.files.length := hd.fnow _ (get_mem (fnd_get h).2)
theorem del_lt {l : Dir} {s : Nm} {f : Nat} (h : (s, f) ∈ l) : (dirDel l s).length < l.length := by
  unfold dirDel
  rw [List.length_filter_lt_length_iff_exists]
  exact ⟨_, h, by simp⟩
theorem DkOk.newFile {K : Nat} {d : Dk} (h : DkOk K d) : DkOk (K + 1) ({ d with files := d.files ++ [⟨[], 0⟩] } : Dk) := by
  refine ⟨h.cap, by have := h.nf; simp; omega, Nat.le_succ_of_le h.nd, h.armed, fun p hp => ?_, fun p hp => ?_, fun x hx hk => ?_, fun f hf => ?_, h.whole, h.hist⟩
  · have := h.fnow p hp; simp; omega
  · have := h.flast p hp; simp; omega
  · have := h.fdeed x hx hk; simp; omega
  · rcases List.mem_append.1 hf with hf | hf
    · exact h.fb f hf
    · obtain rfl : f = ⟨[], 0⟩ := by simpa using hf
      simp
theorem DkOk.create {K : Nat} {d : Dk} (h : DkOk K d) (s : Nm) : DkOk (K + 1) (d.create s).2 := by
  unfold Dk.create
  split
  · exact h.mono (Nat.le_succ _)
  split
  · exact h.mono (Nat.le_succ _)
  split
  · exact h.mono (Nat.le_succ _)
  split
  · exact h.mono (Nat.le_succ _)
  · rename_i h64
    have h1 := h.newFile
    exact h1.turn (Nat.succ_le_succ h.nd) ⟨0, [], s, d.files.length⟩ (fun _ => by simp) (by
      have := len_put d.now s d.files.length
      show (if (0 : Nat) = 0 then dirPut d.now s d.files.length else _).length ≤ 64
      rw [if_pos rfl]
      omega)
theorem DkOk.append {K : Nat} {d : Dk} (h : DkOk K d) (s : Nm) (b : List UInt8) : DkOk K (d.append s b).2 := by
  unfold Dk.append
  split
  · exact h
  split
  · exact h
  split
  · exact h
  · have := h.at (d.fnd s).2
    exact (h.setF _ _ ⟨by simp; omega, by simp; omega⟩).did
theorem DkOk.sync {K : Nat} {d : Dk} (h : DkOk K d) (s : Nm) : DkOk K (d.sync s).2 := by
  unfold Dk.sync
  split
  · exact h
  · have := h.at (d.fnd s).2
    exact DkOk.did (h.setF (d.fnd s).2 ⟨(d.fileAt (d.fnd s).2).b, (d.fileAt (d.fnd s).2).b.length⟩ ⟨Nat.le_refl _, this.2⟩)
theorem DkOk.syncNames {K : Nat} {d : Dk} (h : DkOk K d) : DkOk K d.syncNames.2 := by
  unfold Dk.syncNames
  split
  · exact h
  · exact DkOk.did (d := { d with lasting := d.now, deeds := [] }) ⟨h.cap, h.nf, Nat.zero_le _, h.armed, h.fnow, h.fnow, fun _ h => absurd h List.not_mem_nil, h.fb, rfl, fun k => by
      have := h.lnow
      simpa [deedsApp] using this⟩
theorem DkOk.rename {K : Nat} {d : Dk} (h : DkOk K d) (s t : Nm) : DkOk (K + 1) (d.rename s t).2 := by
  unfold Dk.rename
  split
  · exact h.mono (Nat.le_succ _)
  split
  · exact h.mono (Nat.le_succ _)
  · rename_i hf _
    refine (h.mono (Nat.le_succ _)).turn (Nat.succ_le_succ h.nd) _ (fun _ => h.fnd hf) ?_
    have h1 := len_put (dirDel d.now s) t (d.fnd s).2
    have h2 := del_lt (get_mem (fnd_get hf).2)
    have h3 := h.lnow
    show (if (1 : Nat) = 0 then _ else if (1 : Nat) = 1 then dirPut (dirDel d.now s) t (d.fnd s).2 else _).length ≤ 64
    rw [if_neg (by omega), if_pos rfl]
    omega
theorem DkOk.remove {K : Nat} {d : Dk} (h : DkOk K d) (s : Nm) : DkOk (K + 1) (d.remove s).2 := by
  unfold Dk.remove
  split
  · exact h.mono (Nat.le_succ _)
  · refine (h.mono (Nat.le_succ _)).turn (Nat.succ_le_succ h.nd) _ (fun hk => absurd hk (by show ¬ (2 : Nat) ≤ 1; omega)) ?_
    have h2 := len_del d.now s
    have h3 := h.lnow
    show (if (2 : Nat) = 0 then _ else if (2 : Nat) = 1 then _ else dirDel d.now s).length ≤ 64
    rw [if_neg (by omega), if_neg (by omega)]
    omega
theorem DkOk.cut {K : Nat} {d : Dk} (h : DkOk K d) (s : Nm) (n : Int) : DkOk K (d.cut s n).2 := by
  unfold Dk.cut
  split
  · exact h
  split
  · exact h
  · have := h.at (d.fnd s).2
    exact (h.setF _ _ ⟨by simp; omega, by simp; omega⟩).did
theorem DkOk.arm {K : Nat} {d : Dk} (h : DkOk K d) (n : Int) (hn : n ≤ 9223372036854775807) : DkOk K (d.arm n).2 := by
  unfold Dk.arm
  split
  · exact h
  split
  · exact h
  · exact ⟨h.cap, h.nf, h.nd, ⟨by show -1 ≤ n; omega, hn⟩, h.fnow, h.flast, h.fdeed, h.fb, h.whole, h.hist⟩
theorem DkOk.spoil {K : Nat} {d : Dk} (h : DkOk K d) (s : Nm) (n : Int) (x : UInt8) : DkOk K (d.spoil s n x).2 := by
  unfold Dk.spoil
  split
  · exact h
  split
  · exact h
  · have := h.at (d.fnd s).2
    exact h.setF _ ⟨_, _⟩ ⟨by rw [xorAt_len]; exact this.1, by rw [xorAt_len]; exact this.2⟩
theorem apps_mem : ∀ {ds : List Deed} {l : Dir} {p : Nm × Nat}, p ∈ deedsApp ds l → p ∈ l ∨ ∃ d ∈ ds, d.kind ≤ 1 ∧ p = (d.to, d.file)
  | [], _, _, h => .inl h
  | d :: ds, l, p, h => by
    rcases apps_mem (ds := ds) (l := d.app l) h with h | ⟨e, he, h⟩
    · rcases app_mem h with h | h
      · exact .inl h
      · exact .inr ⟨d, List.mem_cons_self, h⟩
    · exact .inr ⟨e, List.mem_cons_of_mem _ he, h⟩
theorem DkOk.lastDir {K : Nat} {d : Dk} (h : DkOk K d) (p : DPicks) : ∀ x ∈ d.lastDir p, x.2 < d.files.length := fun x hx => by
  rcases apps_mem hx with hx | ⟨e, he, hk, rfl⟩
  · exact h.flast x hx
  · exact h.fdeed e (List.mem_of_mem_take he) hk
theorem settleAll_len (l : Dir) (p : DPicks) (fs : List DFile) : (settleAll l p fs).length = fs.length := by simp [settleAll]
theorem DkOk.crash {K : Nat} {d : Dk} (h : DkOk K d) (p : DPicks) : DkOk K (d.crash p) := by
  refine ⟨h.cap, by rw [show (d.crash p).files.length = d.files.length from settleAll_len _ _ _]; exact h.nf, Nat.zero_le _, ⟨by show (-1 : Int) ≤ -1; omega, by show (-1 : Int) ≤ _; omega⟩, fun x hx => ?_, fun x hx => ?_, fun _ h => absurd h List.not_mem_nil, fun f hf => ?_, rfl, fun k => ?_⟩
  · rw [show (d.crash p).files.length = d.files.length from settleAll_len _ _ _]
    exact h.lastDir p x hx
  · rw [show (d.crash p).files.length = d.files.length from settleAll_len _ _ _]
    exact h.lastDir p x hx
  · obtain ⟨i, hi, rfl⟩ := List.mem_mapIdx.1 hf
    have hb := h.fb _ (List.getElem_mem hi)
    split
    · have hk : keepN d.files[i] (p.at i) ≤ d.files[i].b.length - d.files[i].lasts := Nat.min_le_right _ _
      refine ⟨Nat.le_of_eq (settle_lasts _ _), ?_⟩
      rw [settle_len _ _ hb.1]
      omega
    · exact hb
  · have := h.hist p.names.toNat
    show (deedsApp (([] : List Deed).take k) (d.lastDir p)).length ≤ 64
    rw [List.take_nil]
    exact this
end Go.Proofs.YtfpjfoajonbndaaGreatDoor
