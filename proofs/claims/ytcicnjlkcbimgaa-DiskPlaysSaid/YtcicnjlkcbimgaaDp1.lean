/- Joined texts: DiskPlain, Base, Base2, AppReads, Bytes, FRow, Err, Disk, Disk2, Disk3, Disk4, DiskNamed, Order, Disk5. -/
import Derived.Maps.Views
import Derived.Maps.Ext
import Derived.WalkKit
import Derived.WalkSpells
import Derived.WalkLawsBesides
import Derived.Lib.Hide
import Derived.BigQuiet
import Derived.Deep.QuietTactic
import Derived.Deep.RegionLaw
import Derived.Maps.AppendAt
import Derived.Laws.AppendOwnNone
import Derived.Test.YtcicnjlkcbimgaaRows
import Derived.Deep.AppendSrc
import Derived.Deep.Upon
import Derived.ArgAppend
import Derived.LaidEql
import Derived.Stop.Asserts
import Derived.RowKitTokens
import Derived.Maps.OwnSet
import Derived.Maps.OwnOps
import Derived.Sort.KeysCollected
import Derived.StringKeys
import Derived.LaidEqlPtr
import Derived.Orders
/- Package disk, plain: names, files, deeds, calls, a crash. No program in sight. -/
namespace Go.Proofs.Ytcicnjlkcbimgaa
open Go.Maps
abbrev Nm := List UInt8
abbrev Dir := List (Nm × Nat)
structure DFile where
  b : List UInt8
  lasts : Nat
structure Deed where
  kind : Nat
  frm : Nm
  to : Nm
  file : Nat
def dirIns (x : Nm × Nat) : Dir → Dir
  | [] => [x]
  | y :: r => if bytesBefore x.1 y.1 then x :: y :: r else y :: dirIns x r
def dirDel (l : Dir) (s : Nm) : Dir := l.filter fun p => !(p.1 == s)
def dirPut (l : Dir) (s : Nm) (f : Nat) : Dir := dirIns (s, f) (dirDel l s)
def dirGet (l : Dir) (s : Nm) : Option Nat := (l.find? fun p => p.1 == s).map (·.2)
/-- What the program's map reads as: a name leads to its file's block. -/
def dirD (g : Nat → Nat) (l : Dir) : DataW Unit := .map (l.map fun p => (.string p.1, .lit (.int .i64 (g p.2))))
theorem dirD_ins (g : Nat → Nat) (x : Nm × Nat) : ∀ l : Dir, (dirIns x l).map (fun p => ((Lit.string p.1, DataW.lit (.int .i64 (g p.2))) : Lit × DataW Unit)) = DataW.insert (.string x.1, .lit (.int .i64 (g x.2))) (l.map fun p => (.string p.1, .lit (.int .i64 (g p.2))))
  | [] => rfl
  | y :: r => by
    simp only [dirIns, List.map_cons, DataW.insert]
    by_cases h : bytesBefore x.1 y.1 = true
    · rw [if_pos h]
      exact (if_pos (show (Lit.string x.1).before (.string y.1) = true from h)).symm
    · rw [if_neg h, List.map_cons, dirD_ins g x r]
      exact (if_neg (show ¬ (Lit.string x.1).before (.string y.1) = true from h)).symm
theorem dirD_filter (g : Nat → Nat) (s : Nm) (l : Dir) : (dirDel l s).map (fun p => ((Lit.string p.1, DataW.lit (.int .i64 (g p.2))) : Lit × DataW Unit)) = (l.map fun p => (.string p.1, .lit (.int .i64 (g p.2)))).filter fun p => !p.1.sameKey (.string s) := by
  unfold dirDel
  rw [List.filter_map]
  rfl
theorem dirD_del (g : Nat → Nat) (l : Dir) (s : Nm) : dirD g (dirDel l s) = (dirD g l).del (.string s) := by
  unfold dirD DataW.del
  rw [dirD_filter]
theorem dirD_put (g : Nat → Nat) (l : Dir) (s : Nm) (f : Nat) : dirD g (dirPut l s f) = (dirD g l).put (.string s) (.lit (.int .i64 (g f))) := by
  unfold dirD DataW.put dirPut
  rw [dirD_ins, dirD_filter]
theorem dirD_get (g : Nat → Nat) (l : Dir) (s : Nm) (z : DataW Unit) : (dirD g l).atKey (.string s) z = match dirGet l s with | some f => .lit (.int .i64 (g f)) | none => z := by
  unfold dirD DataW.atKey dirGet
  simp only [List.find?_map]
  have e : ((fun p : Lit × DataW Unit => p.1.sameKey (.string s)) ∘ fun p : Nm × Nat => (Lit.string p.1, DataW.lit (.int .i64 (g p.2)))) = fun p => p.1 == s := rfl
  rw [e]
  cases l.find? (fun p => p.1 == s) <;> rfl
theorem dirD_has (g : Nat → Nat) (l : Dir) (s : Nm) : Maps.has (dirD g l) (.string s) = (dirGet l s).isSome := by
  unfold dirD dirGet
  rw [has_eq, List.any_map, Option.isSome_map, Bool.eq_iff_iff, List.find?_isSome, List.any_eq_true]
  rfl
theorem dirD_size (g : Nat → Nat) (l : Dir) : Maps.size (dirD g l) = l.length := by
  unfold dirD
  rw [size_eq, List.length_map]
theorem dirD_congr {g g' : Nat → Nat} {l : Dir} (h : ∀ p ∈ l, g p.2 = g' p.2) : dirD g l = dirD g' l := by
  unfold dirD
  congr 1
  exact List.map_congr_left fun p hp => by rw [h p hp]
theorem mem_ins {x y : Nm × Nat} : ∀ {l : Dir}, y ∈ dirIns x l ↔ y = x ∨ y ∈ l
  | [] => by simp [dirIns]
  | z :: r => by
    unfold dirIns
    split
    · simp
    · rw [List.mem_cons, mem_ins, List.mem_cons]
      constructor
      · rintro (h | h | h) <;> simp [h]
      · rintro (h | h | h) <;> simp [h]
theorem len_ins (x : Nm × Nat) : ∀ l : Dir, (dirIns x l).length = l.length + 1
  | [] => rfl
  | y :: r => by
    unfold dirIns
    split
    · rfl
    · rw [List.length_cons, len_ins x r, List.length_cons]
theorem mem_del {l : Dir} {s : Nm} {p : Nm × Nat} : p ∈ dirDel l s ↔ p ∈ l ∧ p.1 ≠ s := by
  unfold dirDel
  rw [List.mem_filter]
  simp
theorem mem_put {l : Dir} {s : Nm} {f : Nat} {p : Nm × Nat} : p ∈ dirPut l s f ↔ p = (s, f) ∨ (p ∈ l ∧ p.1 ≠ s) := by
  unfold dirPut
  rw [mem_ins, mem_del]
theorem len_del (l : Dir) (s : Nm) : (dirDel l s).length ≤ l.length := List.length_filter_le _ _
theorem len_put (l : Dir) (s : Nm) (f : Nat) : (dirPut l s f).length ≤ l.length + 1 := by
  unfold dirPut
  rw [len_ins]
  have := len_del l s
  omega
theorem get_mem {l : Dir} {s : Nm} {f : Nat} (h : dirGet l s = some f) : (s, f) ∈ l := by
  unfold dirGet at h
  obtain ⟨p, hp, rfl⟩ := Option.map_eq_some_iff.1 h
  have h1 := List.find?_some hp
  have h2 := List.mem_of_find?_eq_some hp
  simp at h1
  rw [← h1]
  exact h2
theorem get_none {l : Dir} {s : Nm} (h : dirGet l s = none) : ∀ p ∈ l, p.1 ≠ s := by
  unfold dirGet at h
  rw [Option.map_eq_none_iff, List.find?_eq_none] at h
  intro p hp e
  exact h p hp (by simp [e])
theorem find_ins_miss {f : Nm × Nat → Bool} {x : Nm × Nat} (hx : f x = false) : ∀ l : Dir, (dirIns x l).find? f = l.find? f
  | [] => by simp [dirIns, hx]
  | y :: r => by
    unfold dirIns
    split
    · rw [List.find?_cons, hx]
    · rw [List.find?_cons, List.find?_cons, find_ins_miss hx r]
theorem find_ins_hit {f : Nm × Nat → Bool} {x : Nm × Nat} (hx : f x = true) : ∀ l : Dir, (∀ p ∈ l, f p = false) → (dirIns x l).find? f = some x
  | [], _ => by simp [dirIns, hx]
  | y :: r, h => by
    unfold dirIns
    split
    · rw [List.find?_cons, hx]
    · rw [List.find?_cons, h y List.mem_cons_self]
      exact find_ins_hit hx r fun p hp => h p (List.mem_cons_of_mem _ hp)
theorem find_del {f : Nm × Nat → Bool} {s : Nm} (h : ∀ p : Nm × Nat, f p = true → p.1 ≠ s) (l : Dir) : (dirDel l s).find? f = l.find? f := by
  unfold dirDel
  induction l with
  | nil => rfl
  | cons y r ih =>
    rw [List.filter_cons]
    by_cases hy : y.1 = s
    · have hfy : f y = false := by
        cases e : f y
        · rfl
        · exact absurd hy (h y e)
      simp [hy, hfy, ih]
    · simp [hy, List.find?_cons, ih]
theorem get_del_same (l : Dir) (s : Nm) : dirGet (dirDel l s) s = none := by
  unfold dirGet
  rw [Option.map_eq_none_iff, List.find?_eq_none]
  intro p hp
  simp [(mem_del.1 hp).2]
theorem get_del_other (l : Dir) {s t : Nm} (h : t ≠ s) : dirGet (dirDel l s) t = dirGet l t := by
  unfold dirGet
  rw [find_del]
  intro p hp
  simp at hp
  rw [hp]
  exact h
theorem get_put_same (l : Dir) (s : Nm) (f : Nat) : dirGet (dirPut l s f) s = some f := by
  unfold dirGet dirPut
  rw [find_ins_hit (by simp)]
  · rfl
  · intro p hp
    simp [(mem_del.1 hp).2]
theorem get_put_other (l : Dir) {s t : Nm} (f : Nat) (h : t ≠ s) : dirGet (dirPut l s f) t = dirGet l t := by
  have h' : ((s == t) = false) := by simp [Ne.symm h]
  have := get_del_other l h
  unfold dirGet at this ⊢
  unfold dirPut
  rw [find_ins_miss (by exact h'), this]
/-- A deed of names: 0 create, 1 rename, else remove. -/
def Deed.app (d : Deed) (l : Dir) : Dir :=
  if d.kind = 0 then dirPut l d.to d.file else if d.kind = 1 then dirPut (dirDel l d.frm) d.to d.file else dirDel l d.frm
def deedsApp (ds : List Deed) (l : Dir) : Dir := ds.foldl (fun l d => d.app l) l
theorem app_mem {d : Deed} {l : Dir} {p : Nm × Nat} (h : p ∈ d.app l) : p ∈ l ∨ (d.kind ≤ 1 ∧ p = (d.to, d.file)) := by
  unfold Deed.app at h
  split at h
  · rcases mem_put.1 h with h | h
    · exact .inr ⟨by omega, h⟩
    · exact .inl h.1
  · split at h
    · rcases mem_put.1 h with h | h
      · exact .inr ⟨by omega, h⟩
      · exact .inl (mem_del.1 h.1).1
    · exact .inl (mem_del.1 h).1
theorem app_len (d : Deed) (l : Dir) : (d.app l).length ≤ l.length + 1 := by
  unfold Deed.app
  split
  · exact len_put _ _ _
  · split
    · have := len_put (dirDel l d.frm) d.to d.file
      have := len_del l d.frm
      omega
    · have := len_del l d.frm
      omega
structure Dk where
  cap : Nat
  now : Dir
  lasting : Dir
  deeds : List Deed
  files : List DFile
  armed : Int
def Dk.new (c : Nat) : Dk := ⟨c, [], [], [], [], -1⟩
def okc (c : UInt8) : Bool := (97 ≤ c.toNat && c.toNat ≤ 122) || (48 ≤ c.toNat && c.toNat ≤ 57) || c.toNat == 46
def namedB (s : Nm) : Bool := !s.isEmpty && decide (s.length ≤ 32) && s.all okc
def Dk.did (d : Dk) : Dk := { d with armed := if 0 < d.armed then d.armed - 1 else d.armed }
def Dk.turn (d : Dk) (x : Deed) : Dk := ({ d with now := x.app d.now, deeds := d.deeds ++ [x] } : Dk).did
def Dk.fileAt (d : Dk) (i : Nat) : DFile := d.files[i]?.getD ⟨[], 0⟩
def Dk.used (d : Dk) : Nat := (d.now.map fun p => (d.fileAt p.2).b.length).sum
def Dk.setF (d : Dk) (i : Nat) (f : DFile) : Dk := { d with files := d.files.set i f }
/-- A call of a name: 12 down, 6 none. -/
def Dk.fnd (d : Dk) (s : Nm) : Nat × Nat := if d.armed = 0 then (12, 0) else match dirGet d.now s with | none => (6, 0) | some i => (0, i)
def Dk.create (d : Dk) (s : Nm) : Nat × Dk :=
  if d.armed = 0 then (12, d) else if namedB s = false then (1, d) else if (dirGet d.now s).isSome then (8, d) else if 64 ≤ d.now.length then (11, d) else
  (0, ({ d with files := d.files ++ [⟨[], 0⟩] } : Dk).turn ⟨0, [], s, d.files.length⟩)
def Dk.append (d : Dk) (s : Nm) (b : List UInt8) : Nat × Dk :=
  if (d.fnd s).1 ≠ 0 then ((d.fnd s).1, d) else
  if 16777216 < (d.fileAt (d.fnd s).2).b.length + b.length then (2, d) else if d.cap < d.used + b.length then (11, d) else
  (0, (d.setF (d.fnd s).2 ⟨(d.fileAt (d.fnd s).2).b ++ b, (d.fileAt (d.fnd s).2).lasts⟩).did)
def Dk.read (d : Dk) (s : Nm) (off n : Int) : Nat × List UInt8 :=
  if (d.fnd s).1 ≠ 0 then ((d.fnd s).1, []) else
  if off < 0 ∨ n < 0 then (1, []) else if ((d.fileAt (d.fnd s).2).b.length : Int) < off + n then (3, []) else
  (0, ((d.fileAt (d.fnd s).2).b.drop off.toNat).take n.toNat)
def Dk.size (d : Dk) (s : Nm) : Nat × Nat := if (d.fnd s).1 ≠ 0 then ((d.fnd s).1, 0) else (0, (d.fileAt (d.fnd s).2).b.length)
def Dk.sync (d : Dk) (s : Nm) : Nat × Dk :=
  if (d.fnd s).1 ≠ 0 then ((d.fnd s).1, d) else (0, (d.setF (d.fnd s).2 ⟨(d.fileAt (d.fnd s).2).b, (d.fileAt (d.fnd s).2).b.length⟩).did)
def Dk.syncNames (d : Dk) : Nat × Dk := if d.armed = 0 then (12, d) else (0, ({ d with lasting := d.now, deeds := [] } : Dk).did)
def Dk.rename (d : Dk) (s t : Nm) : Nat × Dk :=
  if (d.fnd s).1 ≠ 0 then ((d.fnd s).1, d) else if namedB t = false then (1, d) else (0, d.turn ⟨1, s, t, (d.fnd s).2⟩)
def Dk.remove (d : Dk) (s : Nm) : Nat × Dk := if (d.fnd s).1 ≠ 0 then ((d.fnd s).1, d) else (0, d.turn ⟨2, s, [], 0⟩)
def Dk.cut (d : Dk) (s : Nm) (n : Int) : Nat × Dk :=
  if (d.fnd s).1 ≠ 0 then ((d.fnd s).1, d) else if n < 0 ∨ ((d.fileAt (d.fnd s).2).b.length : Int) < n then (1, d) else
  (0, (d.setF (d.fnd s).2 ⟨(d.fileAt (d.fnd s).2).b.take n.toNat, n.toNat⟩).did)
def Dk.arm (d : Dk) (n : Int) : Nat × Dk := if d.armed = 0 then (12, d) else if n < 0 then (1, d) else (0, { d with armed := n })
def xorAt (l : List UInt8) (i : Nat) (x : UInt8) : List UInt8 := l.set i (l[i]?.getD 0 ^^^ x)
def Dk.spoil (d : Dk) (s : Nm) (off : Int) (x : UInt8) : Nat × Dk :=
  if (d.fnd s).1 ≠ 0 then ((d.fnd s).1, d) else if off < 0 ∨ ((d.fileAt (d.fnd s).2).b.length : Int) ≤ off then (1, d) else
  (0, d.setF (d.fnd s).2 ⟨xorAt (d.fileAt (d.fnd s).2).b off.toNat x, (d.fileAt (d.fnd s).2).lasts⟩)
structure DPick where
  keep : Int
  turn : UInt8
structure DPicks where
  names : Int
  files : List DPick
def keepN (f : DFile) (p : DPick) : Nat := min p.keep.toNat (f.b.length - f.lasts)
def DFile.settle (f : DFile) (p : DPick) : DFile :=
  let b := f.b.take (f.lasts + keepN f p)
  let b' := if 0 < keepN f p then xorAt b (b.length - 1) p.turn else b
  ⟨b', b'.length⟩
def DPicks.at (p : DPicks) (i : Nat) : DPick := p.files[i]?.getD ⟨0, 0⟩
def settleAll (l : Dir) (p : DPicks) (fs : List DFile) : List DFile := fs.mapIdx fun i f => if l.any (fun x => x.2 == i) then f.settle (p.at i) else f
def Dk.lastDir (d : Dk) (p : DPicks) : Dir := deedsApp (d.deeds.take p.names.toNat) d.lasting
def Dk.crash (d : Dk) (p : DPicks) : Dk := ⟨d.cap, d.lastDir p, d.lastDir p, [], settleAll (d.lastDir p) p d.files, -1⟩
theorem xorAt_len (l : List UInt8) (i : Nat) (x : UInt8) : (xorAt l i x).length = l.length := by simp [xorAt]
theorem settle_lasts (f : DFile) (p : DPick) : (f.settle p).lasts = (f.settle p).b.length := rfl
theorem settle_len (f : DFile) (p : DPick) (h : f.lasts ≤ f.b.length) : (f.settle p).b.length = f.lasts + keepN f p := by
  have hk : keepN f p ≤ f.b.length - f.lasts := Nat.min_le_right _ _
  unfold DFile.settle
  dsimp only
  split
  · rw [xorAt_len, List.length_take]; omega
  · rw [List.length_take]; omega
theorem settle_twice (f : DFile) (p q : DPick) : (f.settle p).settle q = f.settle p := by
  have h : keepN (f.settle p) q = 0 := by
    unfold keepN
    rw [settle_lasts]
    simp
  have hl : (f.settle p).lasts = (f.settle p).b.length := settle_lasts f p
  generalize f.settle p = g at h hl
  obtain ⟨b, n⟩ := g
  simp only at hl
  subst hl
  unfold DFile.settle
  rw [h]
  simp
/-- What any disk of the program's is like: its numbers fit. -/
structure DkOk (K : Nat) (d : Dk) : Prop where
  cap : d.cap ≤ 1073741824
  nf : d.files.length ≤ K
  nd : d.deeds.length ≤ K
  armed : -1 ≤ d.armed ∧ d.armed ≤ 9223372036854775807
  fnow : ∀ p ∈ d.now, p.2 < d.files.length
  flast : ∀ p ∈ d.lasting, p.2 < d.files.length
  fdeed : ∀ x ∈ d.deeds, x.kind ≤ 1 → x.file < d.files.length
  fb : ∀ f ∈ d.files, f.lasts ≤ f.b.length ∧ f.b.length ≤ 16777216
  whole : deedsApp d.deeds d.lasting = d.now
  hist : ∀ k, (deedsApp (d.deeds.take k) d.lasting).length ≤ 64
theorem DkOk.lnow {K : Nat} {d : Dk} (h : DkOk K d) : d.now.length ≤ 64 := by
  have := h.hist d.deeds.length
  rwa [List.take_length, h.whole] at this
theorem DkOk.llast {K : Nat} {d : Dk} (h : DkOk K d) : d.lasting.length ≤ 64 := h.hist 0
theorem DkOk.mono {K L : Nat} {d : Dk} (h : DkOk K d) (hl : K ≤ L) : DkOk L d :=
  ⟨h.cap, Nat.le_trans h.nf hl, Nat.le_trans h.nd hl, h.armed, h.fnow, h.flast, h.fdeed, h.fb, h.whole, h.hist⟩
theorem DkOk.new {c : Nat} (h : c ≤ 1073741824) : DkOk 0 (Dk.new c) :=
  ⟨h, Nat.le_refl _, Nat.le_refl _, ⟨by show (-1 : Int) ≤ -1; omega, by show (-1 : Int) ≤ _; omega⟩, fun _ h => absurd h List.not_mem_nil, fun _ h => absurd h List.not_mem_nil, fun _ h => absurd h List.not_mem_nil, fun _ h => absurd h List.not_mem_nil, rfl, fun k => by simp [Dk.new, deedsApp]⟩
theorem DkOk.did {K : Nat} {d : Dk} (h : DkOk K d) : DkOk K d.did := by
  refine ⟨h.cap, h.nf, h.nd, ?_, h.fnow, h.flast, h.fdeed, h.fb, h.whole, h.hist⟩
  have := h.armed
  show -1 ≤ (if 0 < d.armed then d.armed - 1 else d.armed) ∧ (if 0 < d.armed then d.armed - 1 else d.armed) ≤ _
  split <;> omega
theorem DkOk.turn {K : Nat} {d : Dk} (h : DkOk K d) (hK : d.deeds.length + 1 ≤ K) (x : Deed) (hf : x.kind ≤ 1 → x.file < d.files.length) (hl : (x.app d.now).length ≤ 64) : DkOk K (d.turn x) := by
  refine DkOk.did (d := { d with now := x.app d.now, deeds := d.deeds ++ [x] }) ⟨h.cap, h.nf, by simpa using hK, h.armed, fun p hp => ?_, h.flast, fun y hy hk => ?_, h.fb, ?_, fun k => ?_⟩
  · rcases app_mem hp with hp | ⟨hk, rfl⟩
    · exact h.fnow p hp
    · exact hf hk
  · rcases List.mem_append.1 hy with hy | hy
    · exact h.fdeed y hy hk
    · obtain rfl : y = x := by simpa using hy
      exact hf hk
  · show deedsApp (d.deeds ++ [x]) d.lasting = x.app d.now
    rw [← h.whole]
    simp [deedsApp, List.foldl_append]
  · show (deedsApp ((d.deeds ++ [x]).take k) d.lasting).length ≤ 64
    by_cases hk : k ≤ d.deeds.length
    · rw [List.take_append_of_le_length hk]
      exact h.hist k
    · rw [List.take_of_length_le (by simp; omega)]
      have e : deedsApp (d.deeds ++ [x]) d.lasting = x.app d.now := by
        rw [← h.whole]
        simp [deedsApp, List.foldl_append]
      rw [e]
      exact hl
theorem DkOk.setF {K : Nat} {d : Dk} (h : DkOk K d) (i : Nat) (f : DFile) (hf : f.lasts ≤ f.b.length ∧ f.b.length ≤ 16777216) : DkOk K (d.setF i f) := by
  refine ⟨h.cap, by simpa [Dk.setF] using h.nf, h.nd, h.armed, by simpa [Dk.setF] using h.fnow, by simpa [Dk.setF] using h.flast, by simpa [Dk.setF] using h.fdeed, fun g hg => ?_, h.whole, h.hist⟩
  rcases List.mem_or_eq_of_mem_set hg with hg | rfl
  · exact h.fb g hg
  · exact hf
theorem DkOk.at {K : Nat} {d : Dk} (h : DkOk K d) (i : Nat) : (d.fileAt i).lasts ≤ (d.fileAt i).b.length ∧ (d.fileAt i).b.length ≤ 16777216 := by
  unfold Dk.fileAt
  cases e : d.files[i]? with
  | none => simp
  | some f => exact h.fb f (List.mem_of_getElem? e)
theorem fnd_get {d : Dk} {s : Nm} (h : ¬ (d.fnd s).1 ≠ 0) : d.armed ≠ 0 ∧ dirGet d.now s = some (d.fnd s).2 := by
  unfold Dk.fnd at h ⊢
  by_cases ha : d.armed = 0
  · simp [ha] at h
  · cases e : dirGet d.now s with
    | none => simp [ha, e] at h
    | some i => simp [ha]
theorem DkOk.fnd {K : Nat} {d : Dk} (hd : DkOk K d) {s : Nm} (h : ¬ (d.fnd s).1 ≠ 0) : (d.fnd s).2 < d.files.length := hd.fnow _ (get_mem (fnd_get h).2)
theorem del_lt {l : Dir} {s : Nm} {f : Nat} (h : (s, f) ∈ l) : (dirDel l s).length < l.length := by
  unfold dirDel
  rw [List.length_filter_lt_length_iff_exists]
  exact ⟨_, h, by simp⟩
theorem DkOk.newFile {K : Nat} {d : Dk} (h : DkOk K d) : DkOk (K + 1) ({ d with files := d.files ++ [⟨[], 0⟩] } : Dk) := by
  refine ⟨h.cap, by have := h.nf; simp; omega, Nat.le_succ_of_le h.nd, h.armed, fun p hp => ?_, fun p hp => ?_, fun x hx hk => ?_, fun f hf => ?_, h.whole, h.hist⟩
  · have := h.fnow p hp; simp; omega
  · have := h.flast p hp; simp; omega
  · have := h.fdeed x hx hk; simp; omega
  · rcases List.mem_append.1 hf with hf | hf
    · exact h.fb f hf
    · obtain rfl : f = ⟨[], 0⟩ := by simpa using hf
      simp
theorem DkOk.create {K : Nat} {d : Dk} (h : DkOk K d) (s : Nm) : DkOk (K + 1) (d.create s).2 := by
  unfold Dk.create
  split
  · exact h.mono (Nat.le_succ _)
  split
  · exact h.mono (Nat.le_succ _)
  split
  · exact h.mono (Nat.le_succ _)
  split
  · exact h.mono (Nat.le_succ _)
  · rename_i h64
    have h1 := h.newFile
    exact h1.turn (Nat.succ_le_succ h.nd) ⟨0, [], s, d.files.length⟩ (fun _ => by simp) (by
      have := len_put d.now s d.files.length
      show (if (0 : Nat) = 0 then dirPut d.now s d.files.length else _).length ≤ 64
      rw [if_pos rfl]
      omega)
theorem DkOk.append {K : Nat} {d : Dk} (h : DkOk K d) (s : Nm) (b : List UInt8) : DkOk K (d.append s b).2 := by
  unfold Dk.append
  split
  · exact h
  split
  · exact h
  split
  · exact h
  · have := h.at (d.fnd s).2
    exact (h.setF _ _ ⟨by simp; omega, by simp; omega⟩).did
theorem DkOk.sync {K : Nat} {d : Dk} (h : DkOk K d) (s : Nm) : DkOk K (d.sync s).2 := by
  unfold Dk.sync
  split
  · exact h
  · have := h.at (d.fnd s).2
    exact DkOk.did (h.setF (d.fnd s).2 ⟨(d.fileAt (d.fnd s).2).b, (d.fileAt (d.fnd s).2).b.length⟩ ⟨Nat.le_refl _, this.2⟩)
theorem DkOk.syncNames {K : Nat} {d : Dk} (h : DkOk K d) : DkOk K d.syncNames.2 := by
  unfold Dk.syncNames
  split
  · exact h
  · exact DkOk.did (d := { d with lasting := d.now, deeds := [] }) ⟨h.cap, h.nf, Nat.zero_le _, h.armed, h.fnow, h.fnow, fun _ h => absurd h List.not_mem_nil, h.fb, rfl, fun k => by
      have := h.lnow
      simpa [deedsApp] using this⟩
theorem DkOk.rename {K : Nat} {d : Dk} (h : DkOk K d) (s t : Nm) : DkOk (K + 1) (d.rename s t).2 := by
  unfold Dk.rename
  split
  · exact h.mono (Nat.le_succ _)
  split
  · exact h.mono (Nat.le_succ _)
  · rename_i hf _
    refine (h.mono (Nat.le_succ _)).turn (Nat.succ_le_succ h.nd) _ (fun _ => h.fnd hf) ?_
    have h1 := len_put (dirDel d.now s) t (d.fnd s).2
    have h2 := del_lt (get_mem (fnd_get hf).2)
    have h3 := h.lnow
    show (if (1 : Nat) = 0 then _ else if (1 : Nat) = 1 then dirPut (dirDel d.now s) t (d.fnd s).2 else _).length ≤ 64
    rw [if_neg (by omega), if_pos rfl]
    omega
theorem DkOk.remove {K : Nat} {d : Dk} (h : DkOk K d) (s : Nm) : DkOk (K + 1) (d.remove s).2 := by
  unfold Dk.remove
  split
  · exact h.mono (Nat.le_succ _)
  · refine (h.mono (Nat.le_succ _)).turn (Nat.succ_le_succ h.nd) _ (fun hk => absurd hk (by show ¬ (2 : Nat) ≤ 1; omega)) ?_
    have h2 := len_del d.now s
    have h3 := h.lnow
    show (if (2 : Nat) = 0 then _ else if (2 : Nat) = 1 then _ else dirDel d.now s).length ≤ 64
    rw [if_neg (by omega), if_neg (by omega)]
    omega
theorem DkOk.cut {K : Nat} {d : Dk} (h : DkOk K d) (s : Nm) (n : Int) : DkOk K (d.cut s n).2 := by
  unfold Dk.cut
  split
  · exact h
  split
  · exact h
  · have := h.at (d.fnd s).2
    exact (h.setF _ _ ⟨by simp; omega, by simp; omega⟩).did
theorem DkOk.arm {K : Nat} {d : Dk} (h : DkOk K d) (n : Int) (hn : n ≤ 9223372036854775807) : DkOk K (d.arm n).2 := by
  unfold Dk.arm
  split
  · exact h
  split
  · exact h
  · exact ⟨h.cap, h.nf, h.nd, ⟨by show -1 ≤ n; omega, hn⟩, h.fnow, h.flast, h.fdeed, h.fb, h.whole, h.hist⟩
theorem DkOk.spoil {K : Nat} {d : Dk} (h : DkOk K d) (s : Nm) (n : Int) (x : UInt8) : DkOk K (d.spoil s n x).2 := by
  unfold Dk.spoil
  split
  · exact h
  split
  · exact h
  · have := h.at (d.fnd s).2
    exact h.setF _ ⟨_, _⟩ ⟨by rw [xorAt_len]; exact this.1, by rw [xorAt_len]; exact this.2⟩
theorem apps_mem : ∀ {ds : List Deed} {l : Dir} {p : Nm × Nat}, p ∈ deedsApp ds l → p ∈ l ∨ ∃ d ∈ ds, d.kind ≤ 1 ∧ p = (d.to, d.file)
  | [], _, _, h => .inl h
  | d :: ds, l, p, h => by
    rcases apps_mem (ds := ds) (l := d.app l) h with h | ⟨e, he, h⟩
    · rcases app_mem h with h | h
      · exact .inl h
      · exact .inr ⟨d, List.mem_cons_self, h⟩
    · exact .inr ⟨e, List.mem_cons_of_mem _ he, h⟩
theorem DkOk.lastDir {K : Nat} {d : Dk} (h : DkOk K d) (p : DPicks) : ∀ x ∈ d.lastDir p, x.2 < d.files.length := fun x hx => by
  rcases apps_mem hx with hx | ⟨e, he, hk, rfl⟩
  · exact h.flast x hx
  · exact h.fdeed e (List.mem_of_mem_take he) hk
theorem settleAll_len (l : Dir) (p : DPicks) (fs : List DFile) : (settleAll l p fs).length = fs.length := by simp [settleAll]
theorem DkOk.crash {K : Nat} {d : Dk} (h : DkOk K d) (p : DPicks) : DkOk K (d.crash p) := by
  refine ⟨h.cap, by rw [show (d.crash p).files.length = d.files.length from settleAll_len _ _ _]; exact h.nf, Nat.zero_le _, ⟨by show (-1 : Int) ≤ -1; omega, by show (-1 : Int) ≤ _; omega⟩, fun x hx => ?_, fun x hx => ?_, fun _ h => absurd h List.not_mem_nil, fun f hf => ?_, rfl, fun k => ?_⟩
  · rw [show (d.crash p).files.length = d.files.length from settleAll_len _ _ _]
    exact h.lastDir p x hx
  · rw [show (d.crash p).files.length = d.files.length from settleAll_len _ _ _]
    exact h.lastDir p x hx
  · obtain ⟨i, hi, rfl⟩ := List.mem_mapIdx.1 hf
    have hb := h.fb _ (List.getElem_mem hi)
    split
    · have hk : keepN d.files[i] (p.at i) ≤ d.files[i].b.length - d.files[i].lasts := Nat.min_le_right _ _
      refine ⟨Nat.le_of_eq (settle_lasts _ _), ?_⟩
      rw [settle_len _ _ hb.1]
      omega
    · exact hb
  · have := h.hist p.names.toNat
    show (deedsApp (([] : List Deed).take k) (d.lastDir p)).length ≤ 64
    rw [List.take_nil]
    exact this
end Go.Proofs.Ytcicnjlkcbimgaa

/- Small laws on worlds, rows of structs and frames: whatever the program. No condition. -/
namespace Go.Proofs.Ytcicnjlkcbimgaa
open Go.RowKit

/-- Only blocks of F (and new ones) may have turned. -/
structure Keeps (F : Nat → Prop) (w w' : World) : Prop where
  os : w'.os = w.os
  tape : w'.tape = w.tape
  output : w'.output = w.output
  size : w.heap.size ≤ w'.heap.size
  block : ∀ k, k < w.heap.size → ¬ F k → w'.heap[k]? = w.heap[k]?

theorem Keeps.refl (F : Nat → Prop) (w : World) : Keeps F w w := ⟨rfl, rfl, rfl, Nat.le_refl _, fun _ _ _ => rfl⟩
theorem Keeps.mono {F G : Nat → Prop} {w w' : World} (h : Keeps F w w') (hs : ∀ k, k < w.heap.size → F k → G k) : Keeps G w w' :=
  ⟨h.os, h.tape, h.output, h.size, fun k hk hn => h.block k hk (fun hf => hn (hs k hk hf))⟩
theorem Keeps.trans {F G : Nat → Prop} {a b c : World} (h : Keeps F a b) (k : Keeps G b c) (hs : ∀ i, i < a.heap.size → G i → F i) : Keeps F a c :=
  ⟨k.os.trans h.os, k.tape.trans h.tape, k.output.trans h.output, Nat.le_trans h.size k.size,
   fun i hi hn => (k.block i (Nat.lt_of_lt_of_le hi h.size) (fun hg => hn (hs i hi hg))).trans (h.block i hi hn)⟩
theorem Keeps.of_below {F : Nat → Prop} {B : Nat} {w w' : World} (h : Below B w w') (hB : ∀ k, k < w.heap.size → ¬ F k → k < B) : Keeps F w w' :=
  ⟨h.os, h.tape, h.output, h.size, fun k hk hn => h.block k (hB k hk hn)⟩
theorem Keeps.below {F : Nat → Prop} {B : Nat} {w w' : World} (h : Keeps F w w') (hB : B ≤ w.heap.size) (hF : ∀ k, F k → B ≤ k) : Below B w w' :=
  ⟨h.os, h.tape, h.output, h.size, fun k hk => h.block k (by omega) (fun hf => by have := hF k hf; omega)⟩
theorem Keeps.drew {F : Nat → Prop} {a w : World} (h : Keeps F a w) : Keeps F a w.drew := ⟨h.os, h.tape, h.output, h.size, h.block⟩
theorem Keeps.drewN {F : Nat → Prop} {a w : World} (h : Keeps F a w) (n : Nat) : Keeps F a (w.drewN n) := ⟨h.os, h.tape, h.output, h.size, h.block⟩
theorem Keeps.alloc {F : Nat → Prop} {a w : World} (h : Keeps F a w) (o : Obj) : Keeps F a (w.alloc o) :=
  ⟨h.os, h.tape, h.output, Nat.le_trans h.size (by simp), fun k hk hn => by
    rw [Below.heap_alloc w o k (Nat.lt_of_lt_of_le hk h.size)]; exact h.block k hk hn⟩
theorem Keeps.setCell {F : Nat → Prop} {a w : World} (h : Keeps F a w) (p : Addr) (u : Value) (hp : p.block < a.heap.size → F p.block) : Keeps F a (w.setCell p u) :=
  ⟨h.os, h.tape, h.output, by have := h.size; simpa [World.setCell] using this, fun k hk hn => by
    rw [Below.heap_setCell w p u k (fun e => hn (e ▸ hp (e ▸ hk)))]; exact h.block k hk hn⟩
theorem Keeps.grown {F : Nat → Prop} {a w w' : World} {row : Option Nat} (h : Keeps F a w) (hg : w.grownBy w' row) (hr : ∀ k, row = some k → k < a.heap.size → F k) : Keeps F a w' :=
  ⟨hg.os.trans h.os, hg.tape.trans h.tape, hg.output.trans h.output, Nat.le_trans h.size hg.size, fun k hk hn =>
    (hg.block k (Nat.lt_of_lt_of_le hk h.size) (fun e => hn (hr k e.symm hk))).trans (h.block k hk hn)⟩
theorem Keeps.cell {F : Nat → Prop} {w w' : World} (h : Keeps F w w') {b : Nat} (hb : b < w.heap.size) (hn : ¬ F b) (o : Nat) : w'.cell? ⟨b, o, none⟩ = w.cell? ⟨b, o, none⟩ :=
  World.cell?_of_block (w := w) (h.block b hb hn)
theorem Keeps.frozen {F : Nat → Prop} {w w' : World} (h : Keeps F w w') {b : Nat} (hb : b < w.heap.size) (hn : ¬ F b) (o : Nat) : w'.frozen? ⟨b, o, none⟩ = w.frozen? ⟨b, o, none⟩ :=
  World.frozen?_of_block (w := w) (h.block b hb hn)

/-- An owned row in a world in which its block has not turned. -/
theorem ownsRow_at {w w' : World} {base : Nat} {e : TypeId} {size : Nat} {v : Value} {n : Nat} {xs : List Value} (h : w.ownsRow base e size v n xs)
    (hk : ∀ k, v.ownBlock = some k → w'.heap[k]? = w.heap[k]?) : w'.ownsRow base e size v n xs := by
  obtain ⟨h1, h2⟩ := h
  refine ⟨h1, ?_⟩
  rcases h2 with h2 | ⟨g, cap, cur, rfl, hg, hh, r⟩
  · exact .inl h2
  · exact .inr ⟨g, cap, cur, rfl, hg, by rw [hk g rfl]; exact hh, r⟩
theorem ownsRow_mono {w : World} {base base' : Nat} {e : TypeId} {size : Nat} {v : Value} {n : Nat} {xs : List Value} (h : w.ownsRow base e size v n xs) (hb : base' ≤ base) :
    w.ownsRow base' e size v n xs := by
  obtain ⟨h1, h2⟩ := h
  refine ⟨h1, ?_⟩
  rcases h2 with h2 | ⟨g, cap, cur, rfl, hg, r⟩
  · exact .inl h2
  · exact .inr ⟨g, cap, cur, rfl, Nat.le_trans hb hg, r⟩
theorem ownsRow_keeps {F : Nat → Prop} {w w' : World} {base : Nat} {e : TypeId} {size : Nat} {v : Value} {n : Nat} {xs : List Value} (h : w.ownsRow base e size v n xs)
    (hk : Keeps F w w') (hn : ∀ k, v.ownBlock = some k → ¬ F k) : w'.ownsRow base e size v n xs :=
  ownsRow_at h fun k hv => hk.block k (h.lt k hv).2 (hn k hv)
theorem ownsRow_len {w : World} {base : Nat} {e : TypeId} {size : Nat} {v : Value} {n : Nat} {xs : List Value} (h : w.ownsRow base e size v n xs) :
    ∃ a c, v = .slice a n c := by
  rcases h.2 with ⟨rfl, rfl⟩ | ⟨g, cap, cur, rfl, _⟩
  · exact ⟨_, _, rfl⟩
  · exact ⟨_, _, rfl⟩

/-- The cells of a row of structs. -/
theorem getElem?_flatMap_row {α : Type} (f : α → List Value) (s : Nat) (hf : ∀ x, (f x).length = s) (l : List α) (i j : Nat) (hj : j < s) :
    (l.flatMap f)[i * s + j]? = l[i]?.bind fun x => (f x)[j]? := by
  induction l generalizing i with
  | nil => simp
  | cons x l ih =>
    rw [List.flatMap_cons]
    cases i with
    | zero => rw [List.getElem?_append_left (by rw [hf]; omega)]; simp
    | succ i =>
      rw [List.getElem?_append_right (by rw [hf, Nat.succ_mul]; omega), hf, show (i + 1) * s + j - s = i * s + j by rw [Nat.succ_mul]; omega, ih]
      simp
theorem length_flatMap_row {α : Type} (f : α → List Value) (s : Nat) (hf : ∀ x, (f x).length = s) (l : List α) : (l.flatMap f).length = l.length * s := by
  induction l with
  | nil => simp
  | cons x l ih => rw [List.flatMap_cons, List.length_append, hf, ih, List.length_cons, Nat.succ_mul]; omega
/-- One cell of one struct of an owned row. -/
theorem ownsRow_cell {α : Type} {w : World} {base : Nat} {e : TypeId} {g n cap : Nat} (f : α → List Value) (s : Nat) (hf : ∀ x, (f x).length = s) (l : List α)
    (h : w.ownsRow base e s (.slice (some ⟨g, 0, none⟩) n cap) n (l.flatMap f)) (i j : Nat) (x : α) (hx : l[i]? = some x) (hj : j < s) :
    w.cell? ⟨g, i * s + j, none⟩ = (f x)[j]? := by
  have hl : n = l.length := by
    have h1 := h.1
    rw [length_flatMap_row f s hf] at h1
    exact (Nat.eq_of_mul_eq_mul_right (by omega) h1).symm
  have hi : i < l.length := (List.getElem?_eq_some_iff.1 hx).1
  have hlt : i * s + j < n * s := by
    have : (i + 1) * s ≤ l.length * s := Nat.mul_le_mul_right s hi
    rw [Nat.succ_mul] at this
    rw [hl]; omega
  rw [h.cellAt (i * s + j) hlt, getElem?_flatMap_row f s hf l i j hj, hx]
  rfl
/-- A row of structs as cells of one block. -/
theorem flatMap_set {α : Type} (f : α → List Value) (s : Nat) (hf : ∀ x, (f x).length = s) (l : List α) (i : Nat) (x : α) (hi : i < l.length) :
    (l.set i x).flatMap f = (l.flatMap f).take (i * s) ++ f x ++ (l.flatMap f).drop (i * s + s) := by
  induction l generalizing i with
  | nil => simp at hi
  | cons y l ih =>
    cases i with
    | zero => simp [List.flatMap_cons, List.drop_append, hf]
    | succ i =>
      have hi' : i < l.length := by simpa using hi
      have e1 : (i + 1) * s - s = i * s := by rw [Nat.succ_mul]; omega
      have e2 : (i + 1) * s + s - s = i * s + s := by rw [Nat.succ_mul]; omega
      have t1 : List.take ((i + 1) * s) (f y) = f y := List.take_of_length_le (by rw [hf, Nat.succ_mul]; omega)
      have t2 : List.drop ((i + 1) * s + s) (f y) = [] := List.drop_eq_nil_of_le (by rw [hf, Nat.succ_mul]; omega)
      rw [List.set_cons_succ, List.flatMap_cons, List.flatMap_cons, ih i hi', List.take_append, List.drop_append, hf, e1, e2, t1, t2]
      simp
theorem ret_int {k : IntKind} {a b : Int} (h : a = b) : Ending.returned (.int k a) = .returned (.int k b) := by rw [h]
theorem ret_bool {a b : Bool} (h : a = b) : Ending.returned (.bool a) = .returned (.bool b) := by rw [h]
theorem quiet_of_eq {P : Program} {f : FuncId} {args : Array Value} {w : World} {n : Nat} {v : Value}
    (h : Calls P f args (w.drewN n) fun e w' => e = .returned v ∧ w.drewN n = w') : Calls P f args (w.drewN n) fun e w'' => e = .returned v ∧ ∃ m, w'' = w.drewN m :=
  Calls.quiet_of_same (h.mono fun _ _ ⟨he, hm⟩ => ⟨he, hm.symm⟩)
theorem _root_.Go.RowKit.Below.drewN {B : Nat} {a w : World} (h : Below B a w) (n : Nat) : Below B a (w.drewN n) := ⟨h.os, h.tape, h.output, h.size, h.block⟩
@[go_sem] theorem setCell_drewN (w : World) (n : Nat) (a : Addr) (v : Value) : (w.drewN n).setCell a v = (w.setCell a v).drewN n := rfl
@[go_sem] theorem alloc_drewN (w : World) (n : Nat) (o : Obj) : (w.drewN n).alloc o = (w.alloc o).drewN n := rfl
theorem ownsRow_cast {w : World} {base : Nat} {e : TypeId} {size : Nat} {v : Value} {n m : Nat} {xs ys : List Value} (h : w.ownsRow base e size v n xs) (hn : n = m) (hx : xs = ys) : w.ownsRow base e size v m ys := by
  subst hn hx; exact h
theorem ownsRow_below {w w' : World} {base : Nat} {e : TypeId} {size : Nat} {v : Value} {n : Nat} {xs : List Value} (h : w.ownsRow base e size v n xs) (hb : Below w.heap.size w w') : w'.ownsRow base e size v n xs :=
  ownsRow_at h (fun k hk => hb.block k (h.lt k hk).2)
/-- A slice value of n elements of sz cells each, that reads as xs. -/
def Reads (w : World) (sz : Nat) (v : Value) (n : Nat) (xs : List Value) : Prop :=
  xs.length = n * sz ∧ ((v = .slice none 0 0 ∧ n = 0) ∨ ∃ a c, v = .slice (some a) n c ∧ n ≤ maxLen ∧ ∀ j u, xs[j]? = some u → w.cell? (a.add j) = some u)
theorem reads_of_owns {w : World} {base : Nat} {e : TypeId} {size : Nat} {v : Value} {n : Nat} {xs : List Value} (h : w.ownsRow base e size v n xs) : Reads w size v n xs := by
  refine ⟨h.1, ?_⟩
  rcases h.2 with h2 | ⟨g, cap, cur, rfl, _, _, hn, hc, _⟩
  · exact .inl h2
  · exact .inr ⟨_, _, rfl, Nat.le_trans hn hc, h.cells (g := g) rfl⟩
/-- What a clone leaves. -/
def CloneOut (w : World) (E sz : Nat) (v : Value) (n : Nat) (xs : List Value) (e : Ending) (w' : World) : Prop :=
  ∃ v', e = .returned v' ∧ w'.ownsRow w.heap.size E sz v' n xs ∧ (v' = .slice none 0 0 ↔ v = .slice none 0 0) ∧ Below w.heap.size w w'
end Go.Proofs.Ytcicnjlkcbimgaa

/- More small laws: an append to an owned row inside a region that draws; facts behind a Below. -/
namespace Go.Proofs.Ytcicnjlkcbimgaa
open Go.RowKit
theorem step_append_own {P : Program} {ops : Array Oper} {o : Oper} {a : Act} {w : World} {K : Act → World → Prop} {Q : Exit → Act → World → Prop} {E : Prop}
    (hg : o.guard = none) (s x : Operand) (t : TypeId) (ho : o.op = Op.call { callee := Callee.builtin Builtin.append, args := #[s, x], argTypes := #[t, t] })
    (base : Nat) (e : TypeId) (i : TypeInfo) (z : Value) (size bytes : Nat) (ht : P.underlying t = some (.slice e)) (hi : P.info? e = some i) (hz : i.zero = some z)
    (hsize : i.size = size) (hby : i.bytes = bytes) (hzs : z.cells.size = size) (hsz : 0 < size)
    (v : Value) (n : Nat) (xs : List Value) (hs : a.eval s = v) (hown : w.ownsRow base e size v n xs)
    (ad : Addr) (m c : Nat) (news : List Value) (hx : a.eval x = .slice (some ad) m c) (hl : news.length = m * size) (hnews : ∀ j u, news[j]? = some u → w.cell? (ad.add j) = some u) (h1 : ∀ u ∈ news, u.oneCell' = true)
    (h63 : n + m ≤ maxLen) (hbytes : (n + m) * bytes ≤ 140737488355328) (hbase : base ≤ w.heap.size)
    (h : ∀ v' w', w'.ownsRow base e size v' (n + m) (xs ++ news) → w.grownBy w' v.ownBlock → K (a.put o.dst v') w') :
    if Region.wanted o (yielded ops a.tmps) = true then Oper.wp P o a w K Q else E := by
  have hw : Region.wanted o (yielded ops a.tmps) = true := by simp [Region.wanted, hg]
  rw [if_pos hw]
  exact wp_append_own w s x t ho base e i z size bytes ht hi hz hsize hby hzs hsz v n xs hs hown ad m c news hx hl hnews h1 h63 hbytes hbase (fun v' w' p q _ => h v' w' p q)
theorem bcell {W w1 : World} (hb : Below W.heap.size W w1) : (∀ b o, b < W.heap.size → w1.cell? ⟨b, o, none⟩ = W.cell? ⟨b, o, none⟩) ∧ (∀ b o, b < W.heap.size → w1.frozen? ⟨b, o, none⟩ = W.frozen? ⟨b, o, none⟩) :=
  ⟨fun b o h => hb.cell (p := ⟨b, o, none⟩) h, fun b o h => hb.frozen (p := ⟨b, o, none⟩) h⟩
theorem grown_cell {w w' : World} {row : Option Nat} (hg : w.grownBy w' row) {b o : Nat} (h : b < w.heap.size) (hne : row ≠ some b) : w'.cell? ⟨b, o, none⟩ = w.cell? ⟨b, o, none⟩ :=
  World.cell?_of_block (w := w) (hg.block b h (fun e => hne e.symm))
theorem grown_frozen {w w' : World} {row : Option Nat} (hg : w.grownBy w' row) {b o : Nat} (h : b < w.heap.size) (hne : row ≠ some b) : w'.frozen? ⟨b, o, none⟩ = w.frozen? ⟨b, o, none⟩ :=
  World.frozen?_of_block (w := w) (hg.block b h (fun e => hne e.symm))
/-- Values laid one behind the other from place p on. -/
def setAll : List Value → Nat → List Value → List Value
  | xs, _, [] => xs
  | xs, p, v :: vs => setAll (xs.set p v) (p + 1) vs
theorem setAll_eq : ∀ (vs xs : List Value) (p : Nat), p + vs.length ≤ xs.length → setAll xs p vs = xs.take p ++ vs ++ xs.drop (p + vs.length)
  | [], xs, p, _ => by simp [setAll]
  | v :: vs, xs, p, h => by
    have h' : p < xs.length := by simp at h; omega
    rw [setAll, setAll_eq vs (xs.set p v) (p + 1) (by simp at h ⊢; omega)]
    have e1 : (xs.set p v).take (p + 1) = xs.take p ++ [v] := by
      rw [List.take_succ_eq_append_getElem (by simpa using h'), List.take_set, List.set_eq_of_length_le (by simp; omega)]
      simp
    have e2 : (xs.set p v).drop (p + 1 + vs.length) = xs.drop (p + (v :: vs).length) := by
      rw [List.drop_set_of_lt (by omega)]
      congr 1
      simp; omega
    rw [e1, e2]
    simp
def setCellsAt (w : World) (g : Nat) : Nat → List Value → World
  | _, [] => w
  | p, v :: vs => setCellsAt (w.setCell ⟨g, p, none⟩ v) g (p + 1) vs
theorem ownsRow_setAll {base : Nat} {e : TypeId} {size g n cap : Nat} : ∀ (vs : List Value) (p : Nat) (w : World) (xs : List Value), w.ownsRow base e size (.slice (some ⟨g, 0, none⟩) n cap) n xs →
    (setCellsAt w g p vs).ownsRow base e size (.slice (some ⟨g, 0, none⟩) n cap) n (setAll xs p vs)
  | [], _, _, _, h => h
  | v :: vs, p, _, _, h => ownsRow_setAll vs (p + 1) _ _ (h.stored p v).1
/-- A struct stored whole into an owned row of structs. -/
theorem ownsRow_struct {α : Type} {w : World} {base : Nat} {e : TypeId} {g n cap : Nat} (f : α → List Value) (s : Nat) (hf : ∀ x, (f x).length = s) (l : List α) (i : Nat) (y : α) (hi : i < l.length)
    (h : w.ownsRow base e s (.slice (some ⟨g, 0, none⟩) n cap) n (l.flatMap f)) : (setCellsAt w g (i * s) (f y)).ownsRow base e s (.slice (some ⟨g, 0, none⟩) n cap) n ((l.set i y).flatMap f) := by
  have h1 := ownsRow_setAll (f y) (i * s) w _ h
  rw [setAll_eq (f y) (l.flatMap f) (i * s) (by
    rw [hf, length_flatMap_row f s hf]
    have : (i + 1) * s ≤ l.length * s := Nat.mul_le_mul_right s hi
    rw [Nat.succ_mul] at this; omega), hf] at h1
  rw [flatMap_set f s hf l i y hi]
  exact h1
end Go.Proofs.Ytcicnjlkcbimgaa

/- append(own.., read..): where the source may be nil. -/
namespace Go.Proofs.Ytcicnjlkcbimgaa
open Go.RowKit
variable {P : Program} (w : World)
theorem wp_append_reads {o : Oper} {a : Go.Act} {K : Go.Act → World → Prop} {Q : Exit → Go.Act → World → Prop} (s x : Operand) (t : TypeId)
    (ho : o.op = .call { callee := .builtin .append, args := #[s, x], argTypes := #[t, t] })
    (base : Nat) (e : TypeId) (i : TypeInfo) (z : Value) (size bytes : Nat) (ht : P.underlying t = some (.slice e)) (hi : P.info? e = some i) (hz : i.zero = some z)
    (hsize : i.size = size) (hby : i.bytes = bytes) (hzs : z.cells.size = size) (hsz : 0 < size)
    (v : Value) (n : Nat) (xs : List Value) (hs : a.eval s = v) (hown : w.ownsRow base e size v n xs)
    (vx : Value) (m : Nat) (news : List Value) (hx : a.eval x = vx) (hr : Reads w size vx m news) (h1 : ∀ u ∈ news, u.oneCell' = true)
    (h63 : n + m ≤ maxLen) (hbytes : (n + m) * bytes ≤ 140737488355328) (hbase : base ≤ w.heap.size)
    (h : ∀ v' w', w'.ownsRow base e size v' (n + m) (xs ++ news) → w.grownBy w' v.ownBlock → (v'.ownBlock = v.ownBlock ∨ v'.ownBlock = some w.heap.size) → K (a.put o.dst v') w') : o.wp P a w K Q := by
  obtain ⟨hl, ⟨rfl, rfl⟩ | ⟨ad, c, rfl, _, hnews⟩⟩ := hr
  · have hn : news = [] := List.eq_nil_of_length_eq_zero (by simpa using hl)
    subst hn
    have hrun := run_append_owned_none (P := P) (w := w) base t o.type e i size ht hi v n xs hown
    unfold Oper.wp execOp
    simp only [ho, resolve, invoke, builtin, Sem.run_bind, Sem.run_pure, Result.andThen_ok, List.map_toArray, List.map_cons, List.map_nil, hs, hx, hrun]
    exact h v w (by simpa using hown) ⟨rfl, rfl, rfl, Nat.le_refl _, fun _ _ _ => rfl⟩ (.inl rfl)
  · obtain ⟨v', w', hr, h2, h3, _, h5⟩ := run_append_own_at (P := P) w base t o.type e i z size bytes ht hi hz hsize hby hzs hsz v n xs hown ad m c news hl hnews h1 h63 hbytes hbase
    unfold Oper.wp execOp
    simp only [ho, resolve, invoke, builtin, Sem.run_bind, Sem.run_pure, Result.andThen_ok, List.map_toArray, List.map_cons, List.map_nil, hs, hx, hr]
    exact h v' w' h2 h3 h5
theorem wpList_append_reads {ops : Array Oper} {rest : List Oper} {o : Oper} {a : Go.Act} {Q : Exit → Go.Act → World → Prop} (hgd : o.guard = none) (s x : Operand) (t : TypeId)
    (ho : o.op = .call { callee := .builtin .append, args := #[s, x], argTypes := #[t, t] })
    (base : Nat) (e : TypeId) (i : TypeInfo) (z : Value) (size bytes : Nat) (ht : P.underlying t = some (.slice e)) (hi : P.info? e = some i) (hz : i.zero = some z)
    (hsize : i.size = size) (hby : i.bytes = bytes) (hzs : z.cells.size = size) (hsz : 0 < size)
    (v : Value) (n : Nat) (xs : List Value) (hs : a.eval s = v) (hown : w.ownsRow base e size v n xs)
    (vx : Value) (m : Nat) (news : List Value) (hx : a.eval x = vx) (hr : Reads w size vx m news) (h1 : ∀ u ∈ news, u.oneCell' = true)
    (h63 : n + m ≤ maxLen) (hbytes : (n + m) * bytes ≤ 140737488355328) (hbase : base ≤ w.heap.size)
    (h : ∀ v' w', w'.ownsRow base e size v' (n + m) (xs ++ news) → w.grownBy w' v.ownBlock → (v'.ownBlock = v.ownBlock ∨ v'.ownBlock = some w.heap.size) → wpList P ops Q rest (a.put o.dst v') w') : wpList P ops Q (o :: rest) a w :=
  wpList_plain hgd fun _ hK => wp_append_reads w s x t ho base e i z size bytes ht hi hz hsize hby hzs hsz v n xs hs hown vx m news hx hr h1 h63 hbytes hbase fun v' w' h2 h3 h4 => hK _ _ (h v' w' h2 h3 h4)
end Go.Proofs.Ytcicnjlkcbimgaa

/- Bytes as values; what is read from memory. -/
namespace Go.Proofs.Ytcicnjlkcbimgaa
open Go.RowKit
/-- A byte as a value. -/
def bv (x : UInt8) : Value := .int .u8 (x.toNat : Int)
theorem bv_one (bs : List UInt8) : ∀ u ∈ bs.map bv, u.oneCell' = true := by
  intro u hu
  obtain ⟨x, _, rfl⟩ := List.mem_map.1 hu
  rfl
theorem spot_none {w : World} {a : Addr} {u : Value} (h : w.cell? a = some u) : a = ⟨a.block, a.off, none⟩ := by
  have hs : a.spot = none := by
    cases hs : a.spot with
    | none => rfl
    | some s => simp [World.cell?, hs] at h; split at h <;> simp_all
  cases a
  simp_all
theorem reads_addr {w : World} {v : Value} {n : Nat} {xs : List Value} (h : Reads w 1 v n xs) (hn : 0 < n) :
    ∃ b o c, v = .slice (some ⟨b, o, none⟩) n c ∧ b < w.heap.size ∧ n ≤ maxLen ∧ ∀ (j : Nat) (u : Value), xs[j]? = some u → w.cell? ⟨b, o + j, none⟩ = some u := by
  obtain ⟨hl, ⟨_, h0⟩ | ⟨a, c, rfl, hm, hc⟩⟩ := h
  · omega
  · have h0 : xs[0]? = some xs[0] := List.getElem?_eq_getElem (by omega)
    have h1 := hc 0 _ h0
    have ha : a = ⟨a.block, a.off, none⟩ := spot_none (by simpa [Addr.add] using h1)
    have hb := World.block_lt_of_cell? w _ h1
    refine ⟨a.block, a.off, c, by rw [← ha], by simpa [Addr.add] using hb, hm, fun j u hu => ?_⟩
    have h2 := hc j u hu
    have e : a.add j = ⟨a.block, a.off + j, none⟩ := by
      rw [ha]
      unfold Addr.add
      split
      · rename_i hz; rw [hz]; rfl
      · rfl
    rwa [e] at h2
theorem reads_len {w : World} {sz : Nat} {v : Value} {n : Nat} {xs : List Value} (h : Reads w sz v n xs) : ∃ a c, v = .slice a n c := by
  obtain ⟨_, ⟨rfl, rfl⟩ | ⟨a, c, rfl, _⟩⟩ := h
  · exact ⟨none, 0, rfl⟩
  · exact ⟨some a, c, rfl⟩
theorem sl_inj {a b : Option Addr} {n m c d : Nat} (h : Value.slice a n c = .slice b m d) : a = b ∧ n = m ∧ c = d := by simpa using h
theorem Reads.below {w w' : World} {sz : Nat} {v : Value} {n : Nat} {xs : List Value} (h : Reads w sz v n xs) (hb : Below w.heap.size w w') : Reads w' sz v n xs := by
  refine ⟨h.1, h.2.imp id ?_⟩
  rintro ⟨a, c, rfl, hn, hc⟩
  exact ⟨a, c, rfl, hn, fun j u hu => cell_later hb (hc j u hu)⟩
theorem Reads.le {w : World} {sz : Nat} {v : Value} {n : Nat} {xs : List Value} (h : Reads w sz v n xs) : n ≤ maxLen := by
  obtain ⟨_, ⟨_, rfl⟩ | ⟨_, _, _, h, _⟩⟩ := h
  · exact Nat.zero_le _
  · exact h
end Go.Proofs.Ytcicnjlkcbimgaa

/- A row of bytes that is one's own, or was clipped: its block may be wider than its capacity. -/
namespace Go.Proofs.Ytcicnjlkcbimgaa
open Go.RowKit
def FRow (w : World) (v : Value) (b : List UInt8) : Prop :=
  w.ownsRow 0 5 1 v b.length (b.map bv) ∨
  ∃ g cur, v = .slice (some ⟨g, 0, none⟩) b.length b.length ∧ w.heap[g]? = some (.cells cur 5 (0, 0)) ∧ b.length ≤ maxLen ∧ b.length ≤ cur.size ∧ cur.toList.take b.length = b.map bv
theorem FRow.own {w : World} {base n : Nat} {v : Value} {b : List UInt8} (h : w.ownsRow base 5 1 v n (b.map bv)) : FRow w v b := by
  have hn : n = b.length := by have := h.1; simp at this; omega
  subst hn
  exact .inl (ownsRow_mono h (Nat.zero_le _))
theorem FRow.nil (w : World) : FRow w (.slice none 0 0) [] := .inl (World.ownsRow_nil _ _ _ _)
/-- What a row of bytes is: nil, or a block whose first cells are the bytes. -/
theorem FRow.is {w : World} {v : Value} {b : List UInt8} (h : FRow w v b) : (v = .slice none 0 0 ∧ b = []) ∨
    ∃ g cap cur, v = .slice (some ⟨g, 0, none⟩) b.length cap ∧ w.heap[g]? = some (.cells cur 5 (0, 0)) ∧ b.length ≤ cap ∧ cap ≤ cur.size ∧ cap ≤ maxLen ∧ cur.toList.take b.length = b.map bv := by
  rcases h with ⟨_, ⟨rfl, h0⟩ | ⟨g, cap, cur, rfl, _, hg, h1, h2, h3, h4⟩⟩ | ⟨g, cur, rfl, hg, h1, h2, h3⟩
  · exact .inl ⟨rfl, List.eq_nil_of_length_eq_zero h0⟩
  · exact .inr ⟨g, cap, cur, rfl, hg, h1, by omega, h2, by simpa using h4⟩
  · exact .inr ⟨g, b.length, cur, rfl, hg, Nat.le_refl _, h2, h1, h3⟩
theorem FRow.len {w : World} {v : Value} {b : List UInt8} (h : FRow w v b) : ∃ a c, v = .slice a b.length c ∧ b.length ≤ c := by
  rcases h.is with ⟨rfl, rfl⟩ | ⟨g, cap, cur, rfl, _, h1, _⟩
  · exact ⟨none, 0, rfl, Nat.le_refl _⟩
  · exact ⟨_, _, rfl, h1⟩
theorem FRow.blk {w : World} {v : Value} {b : List UInt8} (h : FRow w v b) {g : Nat} (hg : v.ownBlock = some g) : ∃ cur, w.heap[g]? = some (.cells cur 5 (0, 0)) := by
  rcases h.is with ⟨rfl, _⟩ | ⟨g', cap, cur, rfl, h1, _⟩
  · cases hg
  · simp only [Value.ownBlock, Option.some.injEq] at hg
    subst hg
    exact ⟨cur, h1⟩
theorem FRow.lt {w : World} {v : Value} {b : List UInt8} (h : FRow w v b) {g : Nat} (hg : v.ownBlock = some g) : g < w.heap.size := by
  obtain ⟨cur, hc⟩ := h.blk hg
  exact (Array.getElem?_eq_some_iff.1 hc).1
theorem FRow.reads {w : World} {v : Value} {b : List UInt8} (h : FRow w v b) : Reads w 1 v b.length (b.map bv) := by
  rcases h.is with ⟨rfl, rfl⟩ | ⟨g, cap, cur, rfl, hg, h1, h2, h3, h4⟩
  · exact ⟨rfl, .inl ⟨rfl, rfl⟩⟩
  · refine ⟨by simp, .inr ⟨_, _, rfl, Nat.le_trans h1 h3, fun j u hu => ?_⟩⟩
    have hadd : (⟨g, 0, none⟩ : Addr).add j = ⟨g, j, none⟩ := by unfold Addr.add; split <;> simp_all
    have hj : j < b.length := by
      have := (List.getElem?_eq_some_iff.1 hu).1
      simpa using this
    rw [hadd, cell_of_row w g j cur _ (0, 0) hg]
    rw [← h4, List.getElem?_take, if_pos hj] at hu
    simpa using hu
theorem FRow.at {w w' : World} {v : Value} {b : List UInt8} (h : FRow w v b) (hk : ∀ k, v.ownBlock = some k → w'.heap[k]? = w.heap[k]?) : FRow w' v b := by
  rcases h with h | ⟨g, cur, rfl, hg, h1, h2, h3⟩
  · exact .inl (ownsRow_at h hk)
  · exact .inr ⟨g, cur, rfl, (hk g rfl).trans hg, h1, h2, h3⟩
theorem FRow.keeps {w w' : World} {G : Nat → Prop} {v : Value} {b : List UInt8} (h : FRow w v b) (hk : Keeps G w w') (hn : ∀ k, v.ownBlock = some k → ¬ G k) : FRow w' v b :=
  h.at fun k hv => hk.block k (h.lt hv) (hn k hv)
theorem FRow.below {w w' : World} {v : Value} {b : List UInt8} (h : FRow w v b) (hb : Below w.heap.size w w') : FRow w' v b := h.at fun k hv => hb.block k (h.lt hv)
/-- The first n of a row, clipped. -/
theorem FRow.clip {w : World} {a : Option Addr} {m c : Nat} {b : List UInt8} (h : FRow w (.slice a m c) b) (n : Nat) (hn : n ≤ b.length) : FRow w (.slice a n n) (b.take n) := by
  have hl : (b.take n).length = n := by rw [List.length_take]; omega
  rcases h.is with ⟨e, rfl⟩ | ⟨g, cap, cur, e, hg, h1, h2, h3, h4⟩
  · simp only [Value.slice.injEq] at e
    simp at hn
    subst hn
    rw [e.1]
    exact FRow.nil w
  · simp only [Value.slice.injEq] at e
    refine .inr ⟨g, cur, by rw [e.1, hl], hg, by omega, by omega, ?_⟩
    rw [hl, List.map_take, ← h4, List.take_take, Nat.min_eq_left hn]
theorem add_zero_off (g j : Nat) : (⟨g, 0, none⟩ : Addr).add j = ⟨g, j, none⟩ := by unfold Addr.add; split <;> simp_all
/-- A part of a row, low to high. -/
theorem FRow.cut {w : World} {a : Option Addr} {m c : Nat} {b : List UInt8} (h : FRow w (.slice a m c) b) (l n : Nat) (hln : l + n ≤ b.length) :
    ∃ a' c', (∀ W, (Instr.slice 22 (.slice a b.length c) (some (.int .i64 l)) (some (.int .i64 ((l : Int) + n))) none).run Try.prog W = .ok (.slice a' n c') W) ∧ Reads w 1 (.slice a' n c') n (((b.drop l).take n).map bv) := by
  have hlen : ((b.drop l).take n).length = n := by rw [List.length_take, List.length_drop]; omega
  have hs : ∀ W, (sizeOf 5).run Try.prog W = .ok 1 W := fun W => by kernel_rfl
  obtain ⟨a0, c0, e, hc⟩ := h.len
  simp only [Value.slice.injEq] at e
  obtain ⟨rfl, rfl, rfl⟩ := e
  have hrun : ∀ W, (Instr.slice 22 (.slice a b.length c) (some (.int .i64 l)) (some (.int .i64 ((l : Int) + n))) none).run Try.prog W = .ok (.slice (if c = l then a else a.map (·.add (l * 1))) n (c - l)) W := fun W => by
    simp [Instr.slice, run_underlying Try.underlying22, Instr.sliceBounds, run_sliceBound, hs, Result.andThen, (by omega : (0 : Int) ≤ (l : Int)), (by omega : (0 : Int) ≤ (l : Int) + (n : Int)), (by omega : (l : Int) + (n : Int) ≤ (c : Int)), (by omega : (l : Int) ≤ (l : Int) + (n : Int)), (by omega : ((l : Int) + (n : Int)).toNat = l + n)]
  refine ⟨_, _, hrun, by rw [List.length_map, hlen, Nat.mul_one], ?_⟩
  rcases h.is with ⟨e, rfl⟩ | ⟨g, cap, cur, e, hg, h1, h2, h3, h4⟩
  · simp only [Value.slice.injEq] at e
    simp at hln
    obtain ⟨rfl, rfl⟩ := hln
    obtain ⟨rfl, _, rfl⟩ := e
    exact .inl ⟨rfl, rfl⟩
  · simp only [Value.slice.injEq] at e
    obtain ⟨rfl, _, rfl⟩ := e
    have hcell : ∀ j u, (((b.drop l).take n).map bv)[j]? = some u → w.cell? ⟨g, l + j, none⟩ = some u := fun j u hu => by
      rw [List.getElem?_map, List.getElem?_take] at hu
      split at hu
      · rw [List.getElem?_drop] at hu
        rw [cell_of_row w g (l + j) cur _ (0, 0) hg]
        have hj : l + j < b.length := by omega
        have h5 : (cur.toList.take b.length)[l + j]? = (b.map bv)[l + j]? := by rw [h4]
        rw [List.getElem?_take, if_pos hj, List.getElem?_map, hu] at h5
        simpa using h5
      · simp at hu
    by_cases hcl : c = l
    · rw [if_pos hcl]
      have hn : n = 0 := by omega
      subst hn
      exact .inr ⟨_, _, rfl, Nat.zero_le _, fun j u hu => by simp at hu⟩
    · rw [if_neg hcl]
      refine .inr ⟨⟨g, l, none⟩, c - l, by simp [add_zero_off], by omega, fun j u hu => ?_⟩
      have hadd : (⟨g, l, none⟩ : Addr).add j = ⟨g, l + j, none⟩ := by unfold Addr.add; split <;> simp_all
      rw [hadd]
      exact hcell j u hu
/-- Its address. -/
theorem FRow.addr {w : World} {a : Option Addr} {m c : Nat} {b : List UInt8} (h : FRow w (.slice a m c) b) : (a = none ∧ b = [] ∧ c = 0) ∨ ∃ g, a = some ⟨g, 0, none⟩ := by
  rcases h.is with ⟨e, rfl⟩ | ⟨g, cap, cur, e, _⟩
  · simp only [Value.slice.injEq] at e
    exact .inl ⟨e.1, rfl, e.2.2⟩
  · simp only [Value.slice.injEq] at e
    exact .inr ⟨g, e.1⟩
theorem FRow.pre {w : World} {a : Option Addr} {m c : Nat} {b : List UInt8} (h : FRow w (.slice a m c) b) (n : Nat) (hn : n ≤ b.length) : Reads w 1 (.slice a n c) n ((b.take n).map bv) := by
  have hl : (b.take n).length = n := by rw [List.length_take]; omega
  rcases h.addr with ⟨rfl, rfl, rfl⟩ | ⟨g, rfl⟩
  · simp at hn
    subst hn
    exact ⟨rfl, .inl ⟨rfl, rfl⟩⟩
  · obtain ⟨_, ⟨e, _⟩ | ⟨ad, c', e, hm, hc⟩⟩ := h.reads
    · cases e
    · simp only [Value.slice.injEq, Option.some.injEq] at e
      obtain ⟨rfl, rfl, rfl⟩ := e
      refine ⟨by rw [List.length_map, hl, Nat.mul_one], .inr ⟨_, _, rfl, by omega, fun j u hu => hc j u ?_⟩⟩
      rw [List.getElem?_map, List.getElem?_take] at hu
      split at hu
      · rw [List.getElem?_map]
        exact hu
      · simp at hu
theorem run_prefix (a : Option Addr) (len c n : Nat) (ha : (a = none ∧ c = 0) ∨ ∃ g, a = some ⟨g, 0, none⟩) (hn : n ≤ c) (W : World) : (Instr.slice 22 (.slice a len c) none (some (.int .i64 n)) none).run Try.prog W = .ok (.slice a n c) W := by
  have hs : (sizeOf 5).run Try.prog W = .ok 1 W := by kernel_rfl
  have e : (if c = 0 then a else a.map (·.add (0 * 1))) = a := by
    rcases ha with ⟨rfl, _⟩ | ⟨g, rfl⟩
    · simp
    · simp [add_zero_off]
  simp [Instr.slice, run_underlying Try.underlying22, Instr.sliceBounds, run_sliceBound, hs, Result.andThen, (by omega : (0 : Int) ≤ (n : Int)), (by omega : (n : Int) ≤ (c : Int))]
  simpa using e
theorem run_clip (a : Option Addr) (n c : Nat) (ha : (a = none ∧ n = 0) ∨ ∃ g, a = some ⟨g, 0, none⟩) (hn : n ≤ c) (W : World) : (Instr.slice 22 (.slice a n c) none (some (.int .i64 n)) (some (.int .i64 n))).run Try.prog W = .ok (.slice a n n) W := by
  have hs : (sizeOf 5).run Try.prog W = .ok 1 W := by kernel_rfl
  have e : (if n = 0 then a else a.map (·.add (0 * 1))) = a := by
    rcases ha with ⟨rfl, _⟩ | ⟨g, rfl⟩
    · simp
    · simp [add_zero_off]
  simp [Instr.slice, run_underlying Try.underlying22, Instr.sliceBounds, run_sliceBound, hs, Result.andThen, (by omega : (0 : Int) ≤ (n : Int)), (by omega : (n : Int) ≤ (c : Int))]
  simpa using e
theorem FRow.set {w : World} {g m c : Nat} {b : List UInt8} (h : FRow w (.slice (some ⟨g, 0, none⟩) m c) b) (j : Nat) (x : UInt8) (_ : j < b.length) : FRow (w.setCell ⟨g, j, none⟩ (bv x)) (.slice (some ⟨g, 0, none⟩) m c) (b.set j x) := by
  have hm : (b.set j x).map bv = (b.map bv).set j (bv x) := List.map_set
  rcases h with ⟨h0, ⟨e, _⟩ | ⟨g', cap, cur, e, hb, hg, h1, h2, h3, h4⟩⟩ | ⟨g', cur, e, hg, h1, h2, h3⟩
  · cases e
  · simp only [Value.slice.injEq, Option.some.injEq, Addr.mk.injEq] at e
    obtain ⟨⟨rfl, _⟩, rfl, rfl⟩ := e
    refine .inl ⟨by simp, .inr ⟨g, c, _, by simp, Nat.zero_le _, heap_setCell_same w g j _ _ (bv x) hg, by simpa using h1, h2, by simpa using h3, ?_⟩⟩
    rw [hm, ← h4]
    simp [List.take_set]
  · simp only [Value.slice.injEq, Option.some.injEq, Addr.mk.injEq] at e
    obtain ⟨⟨rfl, _⟩, rfl, rfl⟩ := e
    refine .inr ⟨g, _, by simp, heap_setCell_same w g j _ _ (bv x) hg, by simpa using h1, by simpa using h2, ?_⟩
    rw [hm, ← h3]
    simp [List.take_set]
variable {P : Program}
theorem wp_append_frow (w : World) {o : Oper} {a : Go.Act} {K : Go.Act → World → Prop} {Q : Exit → Go.Act → World → Prop} (s x : Operand) (t : TypeId)
    (ho : o.op = .call { callee := .builtin .append, args := #[s, x], argTypes := #[t, t] }) (i : TypeInfo) (ht : P.underlying t = some (.slice 5)) (hi : P.info? 5 = some i) (hz : i.zero = some (.int .u8 0)) (hsize : i.size = 1) (hby : i.bytes = 1)
    (v : Value) (b : List UInt8) (hs : a.eval s = v) (hown : FRow w v b) (vx : Value) (nb : List UInt8) (hx : a.eval x = vx) (hr : Reads w 1 vx nb.length (nb.map bv)) (hl : b.length + nb.length ≤ 140737488355328)
    (h : ∀ a' c' w', FRow w' (.slice a' (b.length + nb.length) c') (b ++ nb) → w.grownBy w' v.ownBlock → (∀ k, (Value.slice a' (b.length + nb.length) c').ownBlock = some k → v.ownBlock = some k ∨ w.heap.size ≤ k) → K (a.put o.dst (.slice a' (b.length + nb.length) c')) w') : o.wp P a w K Q := by
  rcases hown with hown | ⟨g, cur, rfl, hg, h1, h2, h3⟩
  · refine wp_append_reads w s x t ho 0 5 i (.int .u8 0) 1 1 ht hi hz hsize hby rfl (by decide) v b.length (b.map bv) hs hown vx nb.length (nb.map bv) hx hr (bv_one nb) (by unfold maxLen; omega) (by omega) (Nat.zero_le _) fun v' w' h4 h5 h6 => ?_
    obtain ⟨a', c', rfl⟩ := ownsRow_len h4
    refine h a' c' w' (FRow.own (by rw [List.map_append]; exact h4)) h5 ?_
    intro k hk
    rcases h6 with e | e
    · exact .inl (by rw [← e]; exact hk)
    · rw [hk] at e
      exact .inr (Nat.le_of_eq (Option.some.inj e).symm)
  · have hold : ∀ j u, (b.map bv)[j]? = some u → w.cell? ((⟨g, 0, none⟩ : Addr).add j) = some u := by
      have := FRow.reads (w := w) (v := .slice (some ⟨g, 0, none⟩) b.length b.length) (.inr ⟨g, cur, rfl, hg, h1, h2, h3⟩)
      obtain ⟨_, ⟨e, _⟩ | ⟨a0, c0, e, _, hc⟩⟩ := this
      · cases e
      · simp only [Value.slice.injEq, Option.some.injEq] at e
        rw [e.1]
        exact hc
    by_cases hnb : nb = []
    · subst hnb
      have hsrc : Src P i.size t vx 0 [] w := by
        obtain ⟨_, ⟨rfl, _⟩ | ⟨ad, c, rfl, _, _⟩⟩ := hr
        · exact Src.ofNil w ht 0
        · exact Src.ofSlice w ht ad 0 c [] (by simp) (fun j u h => by simp at h) (fun u h => by cases h)
      have hrun := run_append_nothing (P := P) w t t o.type 5 i ht hi (some ⟨g, 0, none⟩) b.length b.length (Nat.le_refl _) vx hsrc
      unfold Oper.wp execOp
      simp only [ho, resolve, invoke, builtin, Sem.run_bind, Sem.run_pure, Result.andThen_ok, List.map_toArray, List.map_cons, List.map_nil, hs, hx, hrun]
      have := h (some ⟨g, 0, none⟩) b.length w (.inr ⟨g, cur, by simp, hg, by simpa using h1, by simpa using h2, by simpa using h3⟩) ⟨rfl, rfl, rfl, Nat.le_refl _, fun _ _ _ => rfl⟩ (fun k hk => .inl hk)
      show K (a.put o.dst (.slice (some ⟨g, 0, none⟩) b.length b.length)) w
      simpa using this
    · obtain ⟨hl2, ⟨e, h0⟩ | ⟨ad, c, rfl, _, hnews⟩⟩ := hr
      · exact absurd (List.eq_nil_of_length_eq_zero h0) hnb
      · have hpos : 0 < nb.length := List.length_pos_iff.2 hnb
        obtain ⟨v', w', hrun, h4, h5⟩ := run_append_arg_grows (P := P) w t o.type 5 i (.int .u8 0) 1 1 ht hi hz hsize hby rfl (by decide) ⟨g, 0, none⟩ b.length b.length (b.map bv) (by simp) hold ad nb.length c (nb.map bv) hl2 hnews (by omega) (by unfold maxLen; omega) (by omega)
        obtain ⟨a', c', rfl⟩ := ownsRow_len h4
        unfold Oper.wp execOp
        simp only [ho, resolve, invoke, builtin, Sem.run_bind, Sem.run_pure, Result.andThen_ok, List.map_toArray, List.map_cons, List.map_nil, hs, hx, hrun]
        refine h a' c' w' (FRow.own (by rw [List.map_append]; exact h4)) ⟨h5.os, h5.tape, h5.output, h5.size, fun k hk _ => h5.block k hk (by simp)⟩ fun k hk => .inr (h4.lt k hk).1
theorem wpList_append_frow (w : World) {ops : Array Oper} {rest : List Oper} {o : Oper} {a : Go.Act} {Q : Exit → Go.Act → World → Prop} (hgd : o.guard = none) (s x : Operand) (t : TypeId)
    (ho : o.op = .call { callee := .builtin .append, args := #[s, x], argTypes := #[t, t] }) (i : TypeInfo) (ht : P.underlying t = some (.slice 5)) (hi : P.info? 5 = some i) (hz : i.zero = some (.int .u8 0)) (hsize : i.size = 1) (hby : i.bytes = 1)
    (v : Value) (b : List UInt8) (hs : a.eval s = v) (hown : FRow w v b) (vx : Value) (nb : List UInt8) (hx : a.eval x = vx) (hr : Reads w 1 vx nb.length (nb.map bv)) (hl : b.length + nb.length ≤ 140737488355328)
    (h : ∀ a' c' w', FRow w' (.slice a' (b.length + nb.length) c') (b ++ nb) → w.grownBy w' v.ownBlock → (∀ k, (Value.slice a' (b.length + nb.length) c').ownBlock = some k → v.ownBlock = some k ∨ w.heap.size ≤ k) → wpList P ops Q rest (a.put o.dst (.slice a' (b.length + nb.length) c')) w') : wpList P ops Q (o :: rest) a w :=
  wpList_plain hgd fun _ hK => wp_append_frow w s x t ho i ht hi hz hsize hby v b hs hown vx nb hx hr hl fun a' c' w' h2 h3 h4 => hK _ _ (h a' c' w' h2 h3 h4)
end Go.Proofs.Ytcicnjlkcbimgaa

/- errors.Is and corncriblaw01.Code at the codes of package api: what they answer. No condition. -/
namespace Go
section
variable {P : Program} (w : World)
theorem Ytcicnjlkcbimgaa_run_equalIn_iface_int (d : Nat) {ti tn : TypeId} {ms : Array (String × TypeId)} {i : TypeInfo} {k : IntKind} (a b : Int)
    (hi : P.underlying ti = some (.interface ms)) (hn : P.underlying tn = some (.int k)) (hinfo : P.info? tn = some i) (hcomp : i.comparable = true) :
    (Op.equalIn (d + 2) ti (.iface tn (.int k a)) (.iface tn (.int k b))).run P w = .ok (a == b) w := by
  simp [Op.equalIn, run_underlying hi, run_underlying hn, typeInfo, hinfo, hcomp]
theorem Ytcicnjlkcbimgaa_run_eql_iface_int {ti tn : TypeId} {ms : Array (String × TypeId)} {i : TypeInfo} {k : IntKind} (a b : Int)
    (hi : P.underlying ti = some (.interface ms)) (hn : P.underlying tn = some (.int k)) (hinfo : P.info? tn = some i) (hcomp : i.comparable = true) :
    (binOp .eql ti (.iface tn (.int k a)) (.iface tn (.int k b))).run P w = .ok (.bool (a == b)) w := by
  simp only [binOp]
  simp [Op.equal, Op.maxDepth, Ytcicnjlkcbimgaa_run_equalIn_iface_int w 9998 a b hi hn hinfo hcomp]
end
end Go
namespace Go.Proofs.Ytcicnjlkcbimgaa
open Go.RowKit Go.Extern.Stop Go.Stop Go.Extern
/-- A code as an error: 0 is nil. -/
def errV (k : Int) : Value := if k = 0 then .nilIface else .iface 77 (.int .i64 k)
theorem errV_zero : errV 0 = .nilIface := rfl
theorem errV_ne {k : Int} (h : k ≠ 0) : errV k = .iface 77 (.int .i64 k) := if_neg h
theorem Try.isTypeOf (v : Value) (w : World) : (Extern.ReflectliteType.typeOf #[.iface 77 v]).run Try.prog w = .ok (.iface 119 (.agg #[.pointer (some ⟨0, 77, none⟩)])) w := by kernel_rfl
/-- The model's entry for (reflectlite.rtype).Comparable, under a name. -/
def cmpEntry : Array Value → Sem Value := Extern.ReflectliteType.method fun t => do Go.Extern.Rtype.noPackHeld "Comparable" t; pure (.bool (← typeInfo t).comparable)
theorem Try.isComparable (w : World) : (cmpEntry #[.agg #[.pointer (some ⟨0, 77, none⟩)]]).run Try.prog w = .ok (.bool true) w := by kernel_rfl
theorem Try.isMethodComparable (v : Value) (w : World) : (Go.method 287 119 v "Comparable").run Try.prog w = .ok (104, v) w := by kernel_rfl
theorem Try.isComp : (Try.prog.info? 77).map (·.comparable) = some true := by kernel_rfl
theorem Try.noIsC (v : Value) (xT : TypeId) (w : World) : (Instr.typeAssert (.iface 77 v) xT 121 true).run Try.prog w = .ok (.tuple #[.nilIface, .bool false]) w := run_typeAssert_lacksB Try.underlying121 (by kernel_rfl) (by kernel_rfl) v xT w
theorem Try.noUnwrapC (v : Value) (xT : TypeId) (w : World) : (Instr.typeAssert (.iface 77 v) xT 124 true).run Try.prog w = .ok (.tuple #[.nilIface, .bool false]) w := run_typeAssert_lacksB Try.underlying124 (by kernel_rfl) (by kernel_rfl) v xT w
theorem Try.noUnwrapsC (v : Value) (xT : TypeId) (w : World) : (Instr.typeAssert (.iface 77 v) xT 125 true).run Try.prog w = .ok (.tuple #[.nilIface, .bool false]) w := run_typeAssert_lacksB Try.underlying125 (by kernel_rfl) (by kernel_rfl) v xT w

theorem is_same (k : Int) (w : World) :
    Calls Try.prog 37 #[.iface 77 (.int .i64 k), .iface 77 (.int .i64 k)] w fun e w' => e = .returned (.bool true) ∧ w = w' := by
  obtain ⟨i, hi, hcmp⟩ := Option.map_eq_some_iff.1 Try.isComp
  have h8 := @run_callFunc_extern Try.prog 51 _ Extern.ReflectliteType.typeOf Try.func51 (by kernel_rfl) (by kernel_rfl) (by kernel_rfl) (by kernel_rfl)
  have h32 := @run_callFunc_extern Try.prog 104 _ cmpEntry Try.func104 (by kernel_rfl) (by kernel_rfl) (by kernel_rfl) (by kernel_rfl)
  have tT := Try.isTypeOf
  have cT := Try.isComparable
  have mR := Try.isMethodComparable
  have heq := Ytcicnjlkcbimgaa_run_eql_iface_int (P := Try.prog) w k k Try.underlying29 Try.underlying77 hi hcmp
  rw [beq_self_eq_true] at heq
  clear hi hcmp
  go_enter Try.func37, Try.ntmps37
  go_wp2
  refine wp_loop_rounds 1 ?_
  rw [rounds_succ]
  go_wp2
  go_ret
  exact ⟨rfl, rfl⟩

theorem is_other (k c : Int) (hne : k ≠ c) (w : World) :
    Calls Try.prog 37 #[.iface 77 (.int .i64 k), .iface 77 (.int .i64 c)] w fun e w' => e = .returned (.bool false) ∧ w = w' := by
  obtain ⟨i, hi, hcmp⟩ := Option.map_eq_some_iff.1 Try.isComp
  have h8 := @run_callFunc_extern Try.prog 51 _ Extern.ReflectliteType.typeOf Try.func51 (by kernel_rfl) (by kernel_rfl) (by kernel_rfl) (by kernel_rfl)
  have h32 := @run_callFunc_extern Try.prog 104 _ cmpEntry Try.func104 (by kernel_rfl) (by kernel_rfl) (by kernel_rfl) (by kernel_rfl)
  have tT := Try.isTypeOf
  have cT := Try.isComparable
  have mR := Try.isMethodComparable
  have nE := Try.noIsC
  have uE := Try.noUnwrapC
  have vE := Try.noUnwrapsC
  have heq := Ytcicnjlkcbimgaa_run_eql_iface_int (P := Try.prog) w k c Try.underlying29 Try.underlying77 hi hcmp
  rw [show (k == c) = false from beq_eq_false_iff_ne.2 hne] at heq
  clear hi hcmp hne
  go_enter Try.func37, Try.ntmps37
  go_wp2
  refine wp_loop_rounds 1 ?_
  rw [rounds_succ]
  go_wp2
  go_ret
  exact ⟨rfl, rfl⟩
theorem is_any (k c : Int) (w : World) :
    Calls Try.prog 37 #[.iface 77 (.int .i64 k), .iface 77 (.int .i64 c)] w fun e w' => e = .returned (.bool (k == c)) ∧ w = w' := by
  by_cases h : k = c
  · subst h; rw [beq_self_eq_true]; exact is_same k w
  · rw [show (k == c) = false from beq_eq_false_iff_ne.2 h]; exact is_other k c h w

set_option maxHeartbeats 400000 in
theorem code_nil (w : World) : Calls Try.prog 14 #[.nilIface] w fun e w' => e = .returned (.int .i64 0) ∧ w = w' := by
  go_enter Try.func14, Try.ntmps14
  go_wp2
  go_ret
  exact ⟨rfl, rfl⟩
set_option maxRecDepth 100000 in
set_option maxHeartbeats 400000 in
theorem code_some (k : Int) (h1 : 1 ≤ k) (h2 : k ≤ 17) (w : World) :
    Calls Try.prog 14 #[.iface 77 (.int .i64 k)] w fun e w' => e = .returned (.int .i64 k) ∧ w = w' := by
  have hn := run_eql_iface_nil_left (P := Try.prog) w 77 (.int .i64 k) Try.underlying29
  go_enter Try.func14, Try.ntmps14
  go_wp2
  go_loop [3] (fun c => ∃ j : Nat, 1 ≤ j ∧ (j : Int) ≤ k ∧ c = .int .i64 j) (fun c => 18 - (intOf c).toNat)
  case atStart => exact ⟨1, by omega, by omega, rfl⟩
  case round =>
    obtain ⟨j, hj1, hj2, rfl⟩ := hrel
    by_cases he : k = (j : Int)
    · subst he
      clear hj2 hn
      go_wp2_with (go_at_call 37; refine (is_same _ _).mono ?_; rintro e w' ⟨rfl, rfl⟩)
      go_ret
      exact ⟨rfl, rfl⟩
    · go_wp2_with (go_at_call 37; refine (is_other _ _ (by omega) _).mono ?_; rintro e w' ⟨rfl, rfl⟩)
      go_round
      case rel => exact ⟨j + 1, by omega, by omega, by go_num⟩
      case measure => simp [intOf]; omega
theorem code_any (k : Int) (h1 : 0 ≤ k) (h2 : k ≤ 17) (w : World) :
    Calls Try.prog 14 #[errV k] w fun e w' => e = .returned (.int .i64 k) ∧ w = w' := by
  by_cases h : k = 0
  · subst h; exact code_nil w
  · rw [errV_ne h]; exact code_some k (by omega) h2 w
end Go.Proofs.Ytcicnjlkcbimgaa

/- Package disk: how a disk lies in memory; laws on its blocks. -/
namespace Go.Proofs.Ytcicnjlkcbimgaa
open Go.RowKit Go.Maps
theorem heap_new (w : World) (o : Obj) : (w.alloc o).heap[w.heap.size]? = some o := (MapKept.heap_alloc w o).1
theorem blk_new {w : World} {k : Nat} (o : Obj) (hk : w.heap.size = k) : (w.alloc o).heap[k]? = some o := by
  subst hk
  exact heap_new w o
theorem blk_alloc {w : World} {k : Nat} {x : Obj} (h : w.heap[k]? = some x) (o : Obj) : (w.alloc o).heap[k]? = some x :=
  (Below.heap_alloc w o k (Array.getElem?_eq_some_iff.1 h).1).trans h
theorem blk_lt {w : World} {k : Nat} {x : Obj} (h : w.heap[k]? = some x) : k < w.heap.size := (Array.getElem?_eq_some_iff.1 h).1
theorem blk_set {w : World} {k : Nat} {x : Obj} (h : w.heap[k]? = some x) (a : Addr) (v : Value) (hne : k ≠ a.block) : (w.setCell a v).heap[k]? = some x := (Below.heap_setCell w a v k hne).trans h
theorem blk_put {w : World} {b : Nat} {arr : Array Value} {t : TypeId} (h : w.heap[b]? = some (.cells arr t (0, 0))) (i : Nat) (v : Value) : (w.setCell ⟨b, i, none⟩ v).heap[b]? = some (.cells (arr.setIfInBounds i v) t (0, 0)) :=
  heap_setCell_same w b i _ t v h
theorem blk_below {w w' : World} {k : Nat} {x : Obj} (h : w.heap[k]? = some x) (hb : Below w.heap.size w w') : w'.heap[k]? = some x := (hb.block k (blk_lt h)).trans h
theorem cells1 {w : World} {b : Nat} {t : TypeId} {v0 : Value} (h : w.heap[b]? = some (.cells #[v0] t (0, 0))) : w.cell? ⟨b, 0, none⟩ = some v0 ∧ ∀ o, w.frozen? ⟨b, o, none⟩ = false :=
  ⟨cell_of_row w b 0 _ _ _ h, fun o => frozen_of_row w b o _ _ h⟩
theorem cells3 {w : World} {b : Nat} {t : TypeId} {v0 v1 v2 : Value} (h : w.heap[b]? = some (.cells #[v0, v1, v2] t (0, 0))) :
    w.cell? ⟨b, 0, none⟩ = some v0 ∧ w.cell? ⟨b, 1, none⟩ = some v1 ∧ w.cell? ⟨b, 2, none⟩ = some v2 ∧ ∀ o, w.frozen? ⟨b, o, none⟩ = false := by
  have e := fun j => cell_of_row w b j _ _ _ h
  exact ⟨e 0, e 1, e 2, fun o => frozen_of_row w b o _ _ h⟩
theorem cells6 {w : World} {b : Nat} {t : TypeId} {v0 v1 v2 v3 v4 v5 : Value} (h : w.heap[b]? = some (.cells #[v0, v1, v2, v3, v4, v5] t (0, 0))) :
    w.cell? ⟨b, 0, none⟩ = some v0 ∧ w.cell? ⟨b, 1, none⟩ = some v1 ∧ w.cell? ⟨b, 2, none⟩ = some v2 ∧ w.cell? ⟨b, 3, none⟩ = some v3 ∧ w.cell? ⟨b, 4, none⟩ = some v4 ∧ w.cell? ⟨b, 5, none⟩ = some v5 ∧ ∀ o, w.frozen? ⟨b, o, none⟩ = false := by
  have e := fun j => cell_of_row w b j _ _ _ h
  exact ⟨e 0, e 1, e 2, e 3, e 4, e 5, fun o => frozen_of_row w b o _ _ h⟩
theorem law_str : Keyed Try.prog 9 := string_keyed Try.underlying9
/-- How a pointer among a map's elements reads: as its block's number; nil as -1. -/
def ptrR (v : Value) : Option (DataW Unit × List MemPlace) :=
  match v with
  | .pointer none => some (.lit (.int .i64 (-1)), [])
  | .pointer (some ⟨b, 0, none⟩) => some (.lit (.int .i64 b), [])
  | _ => none
theorem ptrR_mk (b : Nat) : ptrR ((.pointer (some ⟨b, 0, none⟩))) = some (.lit (.int .i64 b), []) := rfl
theorem ptrR_at {v : Value} {b : Nat} {ps : List MemPlace} (h : ptrR v = some (.lit (.int .i64 b), ps)) : v = (.pointer (some ⟨b, 0, none⟩)) := by
  unfold ptrR at h
  split at h
  · simp at h
  · simp at h; obtain rfl := Int.ofNat.inj h.1; rfl
  · cases h
theorem ptrR_no {v : Value} {ps : List MemPlace} (h : ptrR v = some (.lit (.int .i64 (-1)), ps)) : v = .pointer none := by
  unfold ptrR at h
  split at h
  · rfl
  · simp at h
  · cases h
theorem key_str {s : Nm} (h : s.length ≤ maxLen) : keyOf Try.prog 9 (.string ⟨s.toArray⟩) = some (.string s) := by
  have := WideMaps.keyOf_string_mk (P := Try.prog) (k := 9) Try.underlying9 (s := ⟨s.toArray⟩) (by show s.toArray.size ≤ maxLen; simpa using h)
  simpa using this
/-- Block b is a map of names that reads as l; file i lies in block g i. -/
def DirAt (w : World) (b : Nat) (g : Nat → Nat) (l : Dir) : Prop := w.ownsMap Try.prog 9 ptrR b l.length (dirD g l)
theorem DirAt.of {w : World} {b n : Nat} {g : Nat → Nat} {l : Dir} (h : w.ownsMap Try.prog 9 ptrR b n (dirD g l)) : DirAt w b g l := by
  obtain ⟨es, clock, hb, F, _, hD⟩ := h
  refine ⟨es, clock, hb, F, ?_, hD⟩
  have := congrArg Maps.size hD
  rw [dirD_size] at this
  rw [this]
  simp [Maps.size, length_sorted]
theorem DirAt.lt {w : World} {b : Nat} {g : Nat → Nat} {l : Dir} (h : DirAt w b g l) : b < w.heap.size := World.ownsMap.lt h
theorem DirAt.at {w w' : World} {b : Nat} {g : Nat → Nat} {l : Dir} (h : DirAt w b g l) (hb : w'.heap[b]? = w.heap[b]?) : DirAt w' b g l := by
  obtain ⟨es, clock, h1, h2⟩ := h
  exact ⟨es, clock, hb.trans h1, h2⟩
theorem DirAt.congr {w : World} {b : Nat} {g g' : Nat → Nat} {l : Dir} (h : DirAt w b g l) (hg : ∀ p ∈ l, g p.2 = g' p.2) : DirAt w b g' l := by
  unfold DirAt at h ⊢
  rw [← dirD_congr hg]
  exact h
/-- A map's block is no row's. -/
theorem DirAt.ne {w : World} {b c : Nat} {g : Nat → Nat} {l : Dir} {arr : Array Value} {t : TypeId} (h : DirAt w b g l) (hc : w.heap[c]? = some (.cells arr t (0, 0))) : b ≠ c := by
  rintro rfl
  obtain ⟨es, clock, h1, _⟩ := h
  rw [hc] at h1
  cases h1
theorem dir_keys {w : World} {b : Nat} {g : Nat → Nat} {l : Dir} (h : DirAt w b g l) : ∀ p ∈ l, p.1.length ≤ maxLen := by
  intro p hp
  obtain ⟨es, clock, _, F, _, hD⟩ := h
  have hm : ((Lit.string p.1, DataW.lit (.int .i64 (g p.2))) : Lit × DataW Unit) ∈ (es.toList.map (WideElems.rg Try.prog 9 ptrR)).foldr DataW.insert [] := by
    unfold dirD at hD
    injection hD with hD
    rw [← hD]
    exact List.mem_map.2 ⟨p, hp, rfl⟩
  obtain ⟨v, hv⟩ := Maps.fit_keys F _ (mem_sorted.1 hm)
  obtain ⟨x, _, hx, hl⟩ := Maps.keyOf_str Try.underlying9 hv
  cases hx
  exact hl
/-- A box that a closure holds. -/
def BoxS (w : World) (b : Nat) (s : Nm) : Prop := w.heap[b]? = some (.cells #[.string ⟨s.toArray⟩] 9 (0, 0)) ∧ s.length ≤ maxLen
def BoxP (w : World) (b f : Nat) : Prop := w.heap[b]? = some (.cells #[(.pointer (some ⟨f, 0, none⟩))] 84 (0, 0))
/-- A deed of names as a closure. -/
def DeedAt (w : World) (F : Nat → Prop) (g : Nat → Nat) (v : Value) (x : Deed) : Prop :=
  (x.kind = 0 ∧ ∃ bf bt, v = .func (.func 33) #[] #[(.pointer (some ⟨bf, 0, none⟩)), (.pointer (some ⟨bt, 0, none⟩))] ∧ F bf ∧ F bt ∧ BoxP w bf (g x.file) ∧ BoxS w bt x.to) ∨
  (x.kind = 1 ∧ ∃ bs bf bt, v = .func (.func 38) #[] #[(.pointer (some ⟨bs, 0, none⟩)), (.pointer (some ⟨bf, 0, none⟩)), (.pointer (some ⟨bt, 0, none⟩))] ∧ F bs ∧ F bf ∧ F bt ∧ BoxS w bs x.frm ∧ BoxP w bf (g x.file) ∧ BoxS w bt x.to) ∨
  (x.kind = 2 ∧ ∃ bs, v = .func (.func 56) #[] #[(.pointer (some ⟨bs, 0, none⟩))] ∧ F bs ∧ BoxS w bs x.frm)
/-- What kind of block: a row by its element's type; else 0. -/
def kindO : Obj → Nat
  | .cells _ t _ => t + 1
  | _ => 0
/-- G's blocks are of kind n. -/
def Hits (w : World) (G : Nat → Prop) (n : Nat) : Prop := ∀ (k : Nat) (x : Obj), G k → w.heap[k]? = some x → kindO x = n
theorem hits_one {w : World} {k : Nat} {x : Obj} (h : w.heap[k]? = some x) : Hits w (fun i => i = k) (kindO x) := fun i y hi hy => by
  subst hi
  rw [h] at hy
  cases hy
  rfl
theorem hits_row {w : World} {base : Nat} {e : TypeId} {sz n : Nat} {v : Value} {xs : List Value} (h : w.ownsRow base e sz v n xs) : Hits w (fun i => v.ownBlock = some i) (e + 1) := fun i y hi hy => by
  rcases h.2 with ⟨rfl, _⟩ | ⟨g, cap, cur, rfl, _, hg, _⟩
  · cases hi
  · simp only [Value.ownBlock, Option.some.injEq] at hi
    subst hi
    rw [hg] at hy
    cases hy
    rfl
theorem hits_dir {w : World} {b : Nat} {g : Nat → Nat} {l : Dir} (h : DirAt w b g l) : Hits w (fun i => i = b) 0 := fun i y hi hy => by
  subst hi
  obtain ⟨es, clock, hb, _⟩ := h
  rw [hb] at hy
  cases hy
  rfl
theorem keep_blk {w w' : World} {G : Nat → Prop} {n k : Nat} {x : Obj} (hk : Keeps G w w') (hh : Hits w G n) (hb : w.heap[k]? = some x) (hne : kindO x ≠ n) : w'.heap[k]? = some x :=
  (hk.block k (blk_lt hb) (fun hg => hne (hh k x hg hb))).trans hb
theorem keep_row {w w' : World} {G : Nat → Prop} {n base : Nat} {e : TypeId} {sz m : Nat} {v : Value} {xs : List Value} (hk : Keeps G w w') (hh : Hits w G n) (h : w.ownsRow base e sz v m xs) (hne : e + 1 ≠ n) : w'.ownsRow base e sz v m xs :=
  ownsRow_keeps h hk fun k hv hg => by
    rcases h.2 with ⟨rfl, _⟩ | ⟨g, cap, cur, rfl, _, hb, _⟩
    · cases hv
    · simp only [Value.ownBlock, Option.some.injEq] at hv
      subst hv
      exact hne (hh _ _ hg hb)
theorem hits_frow {w : World} {v : Value} {b : List UInt8} (h : FRow w v b) : Hits w (fun i => v.ownBlock = some i) (5 + 1) := fun i y hi hy => by
  obtain ⟨cur, hc⟩ := h.blk hi
  rw [hc] at hy
  cases hy
  rfl
theorem keep_frow {w w' : World} {G : Nat → Prop} {n : Nat} {v : Value} {b : List UInt8} (hk : Keeps G w w') (hh : Hits w G n) (h : FRow w v b) (hne : 5 + 1 ≠ n) : FRow w' v b :=
  h.keeps hk fun k hv hg => by
    obtain ⟨cur, hc⟩ := h.blk hv
    exact hne (hh _ _ hg hc)
theorem DirAt.hits {w w' : World} {G : Nat → Prop} {n b : Nat} {g : Nat → Nat} {l : Dir} (h : DirAt w b g l) (hk : Keeps G w w') (hh : Hits w G n) (hne : n ≠ 0) : DirAt w' b g l :=
  h.at (hk.block _ h.lt fun hg => by
    obtain ⟨es, clock, hb, _⟩ := h
    exact hne (hh _ _ hg hb).symm)
theorem DeedAt.at {w w' : World} {F G : Nat → Prop} {g g' : Nat → Nat} {v : Value} {x : Deed} (h : DeedAt w F g v x) (hw : ∀ k, F k → (∃ a t, w.heap[k]? = some (.cells a t (0, 0)) ∧ (t = 9 ∨ t = 84)) → w'.heap[k]? = w.heap[k]?) (hF : ∀ k, F k → G k) (hg : x.kind ≤ 1 → g x.file = g' x.file) : DeedAt w' G g' v x := by
  have hs : ∀ {b : Nat} {s : Nm}, F b → BoxS w b s → BoxS w' b s := fun hb h => ⟨(hw _ hb ⟨_, _, h.1, .inl rfl⟩).trans h.1, h.2⟩
  have hp : ∀ {b f : Nat}, F b → BoxP w b f → BoxP w' b f := fun hb h => (hw _ hb ⟨_, _, h, .inr rfl⟩).trans h
  rcases h with ⟨hk, bf, bt, rfl, f1, f2, h1, h2⟩ | ⟨hk, bs, bf, bt, rfl, f1, f2, f3, h1, h2, h3⟩ | ⟨hk, bs, rfl, f1, h1⟩
  · exact .inl ⟨hk, bf, bt, rfl, hF _ f1, hF _ f2, by rw [← hg (by omega)]; exact hp f1 h1, hs f2 h2⟩
  · exact .inr (.inl ⟨hk, bs, bf, bt, rfl, hF _ f1, hF _ f2, hF _ f3, hs f1 h1, by rw [← hg (by omega)]; exact hp f2 h2, hs f3 h3⟩)
  · exact .inr (.inr ⟨hk, bs, rfl, hF _ f1, hs f1 h1⟩)
/-- The files. -/
structure FilesAt (w : World) (F : Nat → Prop) (fb : Nat → Nat) (fv : Nat → Value) (fs : List DFile) : Prop where
  fi : ∀ (i : Nat) (f : DFile), fs[i]? = some f → w.heap[fb i]? = some (.cells #[.int .i64 i, fv i, .int .i64 f.lasts] 86 (0, 0)) ∧ FRow w (fv i) f.b
  inj : ∀ i j : Nat, i < fs.length → j < fs.length → fb i = fb j → i = j
  apart : ∀ i j g : Nat, i < fs.length → j < fs.length → (fv i).ownBlock = some g → (fv j).ownBlock = some g → i = j
  ff : ∀ i, i < fs.length → F (fb i) ∧ ∀ g, (fv i).ownBlock = some g → F g
theorem FilesAt.keeps {w w' : World} {F G : Nat → Prop} {fb : Nat → Nat} {fv : Nat → Value} {fs : List DFile} (h : FilesAt w F fb fv fs) (hk : Keeps G w w') (hG : ∀ k, F k → ¬ G k) : FilesAt w' F fb fv fs :=
  ⟨fun i f hf => by
    obtain ⟨h1, h2⟩ := h.fi i f hf
    have hi : i < fs.length := (List.getElem?_eq_some_iff.1 hf).1
    exact ⟨(hk.block _ (blk_lt h1) (hG _ (h.ff i hi).1)).trans h1, h2.keeps hk fun k hv => hG _ ((h.ff i hi).2 k hv)⟩, h.inj, h.apart, h.ff⟩
theorem FilesAt.hits {w w' : World} {F G : Nat → Prop} {n : Nat} {fb : Nat → Nat} {fv : Nat → Value} {fs : List DFile} (h : FilesAt w F fb fv fs) (hk : Keeps G w w') (hh : Hits w G n) (h1 : 86 + 1 ≠ n) (h2 : 5 + 1 ≠ n) : FilesAt w' F fb fv fs :=
  ⟨fun i f hf => ⟨keep_blk hk hh (h.fi i f hf).1 h1, keep_frow hk hh (h.fi i f hf).2 h2⟩, h.inj, h.apart, h.ff⟩
theorem FilesAt.mono {w : World} {F G : Nat → Prop} {fb : Nat → Nat} {fv : Nat → Value} {fs : List DFile} (h : FilesAt w F fb fv fs) (hF : ∀ k, F k → G k) : FilesAt w G fb fv fs :=
  ⟨h.fi, h.inj, h.apart, fun i hi => ⟨hF _ (h.ff i hi).1, fun g hg => hF _ ((h.ff i hi).2 g hg)⟩⟩
/-- The deeds that don't last. -/
structure DeedsAt (w : World) (F : Nat → Prop) (fb : Nat → Nat) (vd : Value) (ds : List Value) (xs : List Deed) : Prop where
  row : w.ownsRow 0 88 1 vd xs.length ds
  dd : ∀ (i : Nat) (x : Deed), xs[i]? = some x → ∃ v, ds[i]? = some v ∧ DeedAt w F fb v x
  fvd : ∀ g, vd.ownBlock = some g → F g
theorem DeedsAt.keeps {w w' : World} {F G : Nat → Prop} {fb : Nat → Nat} {vd : Value} {ds : List Value} {xs : List Deed} (h : DeedsAt w F fb vd ds xs) (hk : Keeps G w w') (hG : ∀ k, F k → ¬ G k) : DeedsAt w' F fb vd ds xs :=
  ⟨ownsRow_keeps h.row hk fun k hv => hG _ (h.fvd k hv), fun i x hx => by
    obtain ⟨v, hv, hd⟩ := h.dd i x hx
    exact ⟨v, hv, hd.at (fun k hF ⟨a, t, hb, _⟩ => hk.block _ (blk_lt hb) (hG _ hF)) (fun _ h => h) (fun _ => rfl)⟩, h.fvd⟩
theorem DeedsAt.hits {w w' : World} {F G : Nat → Prop} {n : Nat} {fb : Nat → Nat} {vd : Value} {ds : List Value} {xs : List Deed} (h : DeedsAt w F fb vd ds xs) (hk : Keeps G w w') (hh : Hits w G n)
    (h1 : 88 + 1 ≠ n) (h2 : 9 + 1 ≠ n) (h3 : 84 + 1 ≠ n) : DeedsAt w' F fb vd ds xs :=
  ⟨keep_row hk hh h.row h1, fun i x hx => by
    obtain ⟨v, hv, hd⟩ := h.dd i x hx
    refine ⟨v, hv, hd.at (fun k hF ⟨a, t, hb, ht⟩ => hk.block _ (blk_lt hb) fun hg => ?_) (fun _ h => h) (fun _ => rfl)⟩
    have := hh _ _ hg hb
    rcases ht with rfl | rfl
    · exact h2 this
    · exact h3 this, h.fvd⟩
theorem DeedsAt.mono {w : World} {F G : Nat → Prop} {fb fb' : Nat → Nat} {vd : Value} {ds : List Value} {xs : List Deed} (h : DeedsAt w F fb vd ds xs) (hF : ∀ k, F k → G k) (hg : ∀ x ∈ xs, x.kind ≤ 1 → fb x.file = fb' x.file) : DeedsAt w G fb' vd ds xs :=
  ⟨h.row, fun i x hx => by
    obtain ⟨v, hv, hd⟩ := h.dd i x hx
    exact ⟨v, hv, hd.at (fun _ _ _ => rfl) hF (hg x (List.mem_of_getElem? hx))⟩, fun g hg => hF _ (h.fvd g hg)⟩
/-- Where a disk lies. -/
structure DW where
  bn : Nat
  bl : Nat
  vd : Value
  ds : List Value
  fb : Nat → Nat
  fv : Nat → Value
structure DiskAt (w : World) (d : Nat) (F : Nat → Prop) (q : DW) (st : Dk) : Prop where
  blk : w.heap[d]? = some (.cells #[.int .i64 st.cap, .int .i64 st.files.length, .map (some q.bn), .map (some q.bl), q.vd, .int .i64 st.armed] 82 (0, 0))
  now : DirAt w q.bn q.fb st.now
  last : DirAt w q.bl q.fb st.lasting
  ne : q.bn ≠ q.bl
  deeds : DeedsAt w F q.fb q.vd q.ds st.deeds
  files : FilesAt w F q.fb q.fv st.files
  fd : F d
  fn : F q.bn
  fl : F q.bl
/-- Nothing of the disk's has turned. -/
theorem DiskAt.keeps {w w' : World} {d : Nat} {F G : Nat → Prop} {q : DW} {st : Dk} (h : DiskAt w d F q st) (hk : Keeps G w w') (hG : ∀ k, F k → ¬ G k) : DiskAt w' d F q st :=
  ⟨(hk.block _ (blk_lt h.blk) (hG _ h.fd)).trans h.blk, h.now.at (hk.block _ h.now.lt (hG _ h.fn)), h.last.at (hk.block _ h.last.lt (hG _ h.fl)), h.ne, h.deeds.keeps hk hG, h.files.keeps hk hG, h.fd, h.fn, h.fl⟩
theorem DiskAt.below {w w' : World} {d : Nat} {F : Nat → Prop} {q : DW} {st : Dk} (h : DiskAt w d F q st) (hb : Below w.heap.size w w') : DiskAt w' d F q st :=
  h.keeps (G := fun _ => False) ⟨hb.os, hb.tape, hb.output, hb.size, fun k hk _ => hb.block k hk⟩ (fun _ _ hf => hf)
theorem DiskAt.mono {w : World} {d : Nat} {F G : Nat → Prop} {q : DW} {st : Dk} (h : DiskAt w d F q st) (hF : ∀ k, F k → G k) : DiskAt w d G q st :=
  ⟨h.blk, h.now, h.last, h.ne, h.deeds.mono hF (fun _ _ _ => rfl), h.files.mono hF, hF _ h.fd, hF _ h.fn, hF _ h.fl⟩
/-- The file that a name stands for. -/
theorem DiskAt.file {w : World} {d : Nat} {F : Nat → Prop} {q : DW} {st : Dk} (h : DiskAt w d F q st) {i : Nat} (hi : i < st.files.length) :
    w.heap[q.fb i]? = some (.cells #[.int .i64 i, q.fv i, .int .i64 (st.fileAt i).lasts] 86 (0, 0)) ∧ FRow w (q.fv i) (st.fileAt i).b := by
  have e := List.getElem?_eq_getElem hi
  have hf : st.fileAt i = st.files[i] := by unfold Dk.fileAt; rw [e]; rfl
  rw [hf]
  exact h.files.fi i _ e
/-- A disk somewhere in blocks F; and what has become of it. -/
def DiskIs (w : World) (d : Nat) (F : Nat → Prop) (st : Dk) : Prop := ∃ q, DiskAt w d F q st
theorem DeedAt.lt {w : World} {F : Nat → Prop} {g : Nat → Nat} {v : Value} {x : Deed} (h : DeedAt w F g v x) : DeedAt w (fun k => F k ∧ k < w.heap.size) g v x := by
  rcases h with ⟨hk, bf, bt, rfl, f1, f2, h1, h2⟩ | ⟨hk, bs, bf, bt, rfl, f1, f2, f3, h1, h2, h3⟩ | ⟨hk, bs, rfl, f1, h1⟩
  · exact .inl ⟨hk, bf, bt, rfl, ⟨f1, blk_lt h1⟩, ⟨f2, blk_lt h2.1⟩, h1, h2⟩
  · exact .inr (.inl ⟨hk, bs, bf, bt, rfl, ⟨f1, blk_lt h1.1⟩, ⟨f2, blk_lt h2⟩, ⟨f3, blk_lt h3.1⟩, h1, h2, h3⟩)
  · exact .inr (.inr ⟨hk, bs, rfl, ⟨f1, blk_lt h1.1⟩, h1⟩)
/-- Only blocks that are there count. -/
theorem DiskAt.trim {w : World} {d : Nat} {F : Nat → Prop} {q : DW} {st : Dk} (h : DiskAt w d F q st) : DiskAt w d (fun k => F k ∧ k < w.heap.size) q st :=
  ⟨h.blk, h.now, h.last, h.ne, ⟨h.deeds.row, fun i x hx => by
      obtain ⟨v, hv, hd⟩ := h.deeds.dd i x hx
      exact ⟨v, hv, hd.lt⟩, fun g hg => ⟨h.deeds.fvd g hg, (h.deeds.row.lt g hg).2⟩⟩,
    ⟨h.files.fi, h.files.inj, h.files.apart, fun i hi => by
      obtain ⟨h1, h2⟩ := h.files.fi i _ (List.getElem?_eq_getElem hi)
      exact ⟨⟨(h.files.ff i hi).1, blk_lt h1⟩, fun g hg => ⟨(h.files.ff i hi).2 g hg, h2.lt hg⟩⟩⟩, ⟨h.fd, blk_lt h.blk⟩, ⟨h.fn, h.now.lt⟩, ⟨h.fl, h.last.lt⟩⟩
def DiskTo (w w' : World) (d : Nat) (F : Nat → Prop) (st : Dk) : Prop := DiskIs w' d (fun k => (F k ∨ w.heap.size ≤ k) ∧ k < w'.heap.size) st ∧ Keeps F w w'
theorem DiskAt.to {w w' : World} {d : Nat} {F G : Nat → Prop} {q : DW} {st : Dk} (h : DiskAt w' d G q st) (hk : Keeps F w w') (hG : ∀ k, G k → F k ∨ w.heap.size ≤ k) : DiskTo w w' d F st := ⟨⟨q, (h.mono hG).trim⟩, hk⟩
theorem DiskAt.same {w : World} {d : Nat} {F : Nat → Prop} {q : DW} {st : Dk} (h : DiskAt w d F q st) : DiskTo w w d F st := h.to (Keeps.refl _ _) fun _ h => .inl h
theorem keeps_below {w w' : World} (F : Nat → Prop) (hb : Below w.heap.size w w') : Keeps F w w' := ⟨hb.os, hb.tape, hb.output, hb.size, fun k hk _ => hb.block k hk⟩
theorem DiskAt.later {w w' : World} {d : Nat} {F : Nat → Prop} {q : DW} {st : Dk} (h : DiskAt w d F q st) (hb : Below w.heap.size w w') : DiskTo w w' d F st :=
  (h.below hb).to (keeps_below F hb) fun _ h => .inl h
/-- A field of the disk's is set. -/
theorem DiskAt.blkTo {w w' : World} {d : Nat} {F : Nat → Prop} {q : DW} {st : Dk} (h : DiskAt w d F q st) (hk : Keeps (fun k => k = d) w w') (c : Nat) (a : Int)
    (hb : w'.heap[d]? = some (.cells #[.int .i64 c, .int .i64 st.files.length, .map (some q.bn), .map (some q.bl), q.vd, .int .i64 a] 82 (0, 0))) : DiskAt w' d F q ⟨c, st.now, st.lasting, st.deeds, st.files, a⟩ :=
  have hh := hits_one h.blk
  ⟨hb, h.now.hits hk hh (by simp [kindO]), h.last.hits hk hh (by simp [kindO]), h.ne, h.deeds.hits hk hh (by simp [kindO]) (by simp [kindO]) (by simp [kindO]), h.files.hits hk hh (by simp [kindO]) (by simp [kindO]), h.fd, h.fn, h.fl⟩
theorem keeps_set {w : World} {b : Nat} (o : Nat) (v : Value) : Keeps (fun k => k = b) w (w.setCell ⟨b, o, none⟩ v) := (Keeps.refl _ _).setCell _ _ fun _ => rfl
theorem DiskAt.armTo {w : World} {d : Nat} {F : Nat → Prop} {q : DW} {st : Dk} (h : DiskAt w d F q st) (n : Int) : DiskAt (w.setCell ⟨d, 5, none⟩ (.int .i64 n)) d F q { st with armed := n } :=
  h.blkTo (keeps_set _ _) st.cap n (by simpa using blk_put h.blk 5 (.int .i64 n))
end Go.Proofs.Ytcicnjlkcbimgaa

/- Package disk: up, find, did, the deeds of names, turn. -/
namespace Go.Proofs.Ytcicnjlkcbimgaa
open Go.RowKit Go.Maps
theorem zero_file (w : World) : (zeroValue 84).run Try.prog w = .ok (.pointer none) w := by kernel_rfl
/-- m[name] without ok: the pointer, or nil. -/
theorem wpList_name (w : World) {ops : Array Oper} {rest : List Oper} {o : Oper} {a : Act} {Q : Exit → Act → World → Prop} (hg : o.guard = none) (m x : Operand) (hop : o.op = Op.lookup 79 m x false)
    (b : Nat) (g : Nat → Nat) (l : Dir) (hm : a.eval m = .map (some b)) (h : DirAt w b g l) (s : Nm) (hx : a.eval x = .string ⟨s.toArray⟩) (hs : s.length ≤ maxLen)
    (hK : wpList Try.prog ops Q rest (a.put o.dst (match dirGet l s with | some i => (.pointer (some ⟨g i, 0, none⟩)) | none => .pointer none)) w) : wpList Try.prog ops Q (o :: rest) a w := by
  refine wpList_plain hg fun K' hK' => ?_
  obtain ⟨v, ps, hrun, hv⟩ := World.ownsMap.lookup h law_str Try.underlying79 (zero_file w) (zd := .lit (.int .i64 (-1))) (zp := []) rfl (key_str hs)
  rw [dirD_get] at hv
  have e : v = match dirGet l s with | some i => (.pointer (some ⟨g i, 0, none⟩)) | none => .pointer none := by
    cases hd : dirGet l s with
    | none => rw [hd] at hv; exact ptrR_no hv
    | some i => rw [hd] at hv; exact ptrR_at hv
  subst e
  unfold Oper.wp
  simp [execOp, hop, hm, hx, hrun, Result.andThen]
  exact hK' _ _ hK
theorem run_name_some {w : World} {b : Nat} {g : Nat → Nat} {l : Dir} (h : DirAt w b g l) {s : Nm} (hs : s.length ≤ maxLen) {i : Nat} (hd : dirGet l s = some i) :
    (Instr.lookup 79 (.map (some b)) (.string ⟨s.toArray⟩) false).run Try.prog w = .ok (.pointer (some ⟨g i, 0, none⟩)) w := by
  obtain ⟨v, ps, hrun, hv⟩ := World.ownsMap.lookup h law_str Try.underlying79 (zero_file w) (zd := .lit (.int .i64 (-1))) (zp := []) rfl (key_str hs)
  rw [dirD_get, hd] at hv
  rw [hrun, ptrR_at hv]
theorem run_name_none {w : World} {b : Nat} {g : Nat → Nat} {l : Dir} (h : DirAt w b g l) {s : Nm} (hs : s.length ≤ maxLen) (hd : dirGet l s = none) :
    (Instr.lookup 79 (.map (some b)) (.string ⟨s.toArray⟩) false).run Try.prog w = .ok (.pointer none) w := by
  obtain ⟨v, ps, hrun, hv⟩ := World.ownsMap.lookup h law_str Try.underlying79 (zero_file w) (zd := .lit (.int .i64 (-1))) (zp := []) rfl (key_str hs)
  rw [dirD_get, hd] at hv
  rw [hrun, ptrR_no hv]
theorem wpList_name_some (w : World) {ops : Array Oper} {rest : List Oper} {o : Oper} {a : Act} {Q : Exit → Act → World → Prop} (hg : o.guard = none) (m x : Operand) (hop : o.op = Op.lookup 79 m x false)
    (b : Nat) (g : Nat → Nat) (l : Dir) (hm : a.eval m = .map (some b)) (h : DirAt w b g l) (s : Nm) (hx : a.eval x = .string ⟨s.toArray⟩) (hs : s.length ≤ maxLen) (i : Nat) (hd : dirGet l s = some i)
    (hK : wpList Try.prog ops Q rest (a.put o.dst (.pointer (some ⟨g i, 0, none⟩))) w) : wpList Try.prog ops Q (o :: rest) a w :=
  wpList_name w hg m x hop b g l hm h s hx hs (by rw [hd]; exact hK)
theorem wpList_name_none (w : World) {ops : Array Oper} {rest : List Oper} {o : Oper} {a : Act} {Q : Exit → Act → World → Prop} (hg : o.guard = none) (m x : Operand) (hop : o.op = Op.lookup 79 m x false)
    (b : Nat) (g : Nat → Nat) (l : Dir) (hm : a.eval m = .map (some b)) (h : DirAt w b g l) (s : Nm) (hx : a.eval x = .string ⟨s.toArray⟩) (hs : s.length ≤ maxLen) (hd : dirGet l s = none)
    (hK : wpList Try.prog ops Q rest (a.put o.dst (.pointer none)) w) : wpList Try.prog ops Q (o :: rest) a w :=
  wpList_name w hg m x hop b g l hm h s hx hs (by rw [hd]; exact hK)
set_option maxRecDepth 100000 in
theorem up_any (d : Nat) (F : Nat → Prop) (q : DW) (st : Dk) (w : World) (h : DiskAt w d F q st) :
    Calls Try.prog 30 #[(.pointer (some ⟨d, 0, none⟩))] w fun e w' => e = .returned (errV (if st.armed = 0 then 12 else 0)) ∧ w = w' := by
  obtain ⟨c0, c1, c2, c3, c4, c5, cf⟩ := cells6 h.blk
  by_cases ha : st.armed = 0
  · rw [ha] at c5
    rw [if_pos ha]
    clear h c0 c1 c2 c3 c4 ha
    go_enter Try.func30, Try.ntmps30
    go_wp2
    go_ret
    exact ⟨rfl, rfl⟩
  · have hb : (st.armed == 0) = false := beq_eq_false_iff_ne.2 ha
    rw [if_neg ha]
    clear h c0 c1 c2 c3 c4 ha
    go_enter Try.func30, Try.ntmps30
    go_wp2
    go_ret
    exact ⟨rfl, rfl⟩
set_option maxRecDepth 100000 in
theorem find_any (d : Nat) (F : Nat → Prop) (q : DW) (st : Dk) (s : Nm) (w : World) (h : DiskAt w d F q st) (hs : s.length ≤ maxLen) :
    Calls Try.prog 34 #[(.pointer (some ⟨d, 0, none⟩)), .string ⟨s.toArray⟩] w fun e w' => e = .returned (.tuple #[if (st.fnd s).1 = 0 then (.pointer (some ⟨q.fb (st.fnd s).2, 0, none⟩)) else .pointer none, errV (st.fnd s).1]) ∧ w = w' := by
  have H := Lib.hid h
  obtain ⟨c0, c1, c2, c3, c4, c5, cf⟩ := cells6 h.blk
  clear c0 c1 c3 c4 c5 cf h
  by_cases ha : st.armed = 0
  · have e : st.fnd s = (12, 0) := by unfold Dk.fnd; rw [if_pos ha]
    rw [e]
    have HA := Lib.hid ha
    clear e ha
    go_enter Try.func34, Try.ntmps34
    go_wp2_with fail
    refine (up_any d F q st _ H.out).mono ?_
    rintro e w' ⟨rfl, rfl⟩
    rw [if_pos HA.out, errV_ne (by omega)]
    go_wp2
    go_ret2
    exact ⟨rfl, rfl⟩
  · cases hd : dirGet st.now s with
    | none =>
      have e : st.fnd s = (6, 0) := by unfold Dk.fnd; rw [if_neg ha, hd]
      rw [e]
      have HA := Lib.hid ha
      have HD := Lib.hid hd
      clear e ha hd
      go_enter Try.func34, Try.ntmps34
      go_wp2_with fail
      refine (up_any d F q st _ H.out).mono ?_
      rintro e w' ⟨rfl, rfl⟩
      rw [if_neg HA.out, errV_zero]
      go_wp2_with (at_lookup; refine wpList_name_none _ rfl _ _ rfl q.bn q.fb st.now rfl H.out.now s rfl hs HD.out ?_)
      go_ret2
      exact ⟨rfl, rfl⟩
    | some i =>
      have e : st.fnd s = (0, i) := by unfold Dk.fnd; rw [if_neg ha, hd]
      rw [e]
      have HA := Lib.hid ha
      have HD := Lib.hid hd
      clear e ha hd
      go_enter Try.func34, Try.ntmps34
      go_wp2_with fail
      refine (up_any d F q st _ H.out).mono ?_
      rintro e w' ⟨rfl, rfl⟩
      rw [if_neg HA.out, errV_zero]
      go_wp2_with (at_lookup; refine wpList_name_some _ rfl _ _ rfl q.bn q.fb st.now rfl H.out.now s rfl hs i HD.out ?_)
      go_ret2
      exact ⟨rfl, rfl⟩
end Go.Proofs.Ytcicnjlkcbimgaa

/- Package disk: did, the deeds of names, turn. -/
namespace Go.Proofs.Ytcicnjlkcbimgaa
open Go.RowKit Go.Maps
set_option maxRecDepth 100000 in
theorem did_any (d : Nat) (F : Nat → Prop) (q : DW) (st : Dk) (w : World) (h : DiskAt w d F q st) (ha : -1 ≤ st.armed) (hb : st.armed ≤ 9223372036854775807) :
    Calls Try.prog 35 #[(.pointer (some ⟨d, 0, none⟩))] w fun e w' => e = .returned (.tuple #[]) ∧ DiskAt w' d F q st.did ∧ Keeps (fun k => k = d) w w' := by
  have H := Lib.hid h
  obtain ⟨c0, c1, c2, c3, c4, c5, cf⟩ := cells6 h.blk
  clear c0 c1 c2 c3 c4 h
  by_cases h0 : 0 < st.armed
  · have e : st.did = { st with armed := st.armed - 1 } := by unfold Dk.did; rw [if_pos h0]
    rw [e]
    clear e
    go_enter Try.func35, Try.ntmps35
    go_wp2
    go_end0
    exact ⟨rfl, H.out.armTo _, keeps_set _ _⟩
  · have e : st.did = st := by unfold Dk.did; rw [if_neg h0]
    rw [e]
    clear e
    go_enter Try.func35, Try.ntmps35
    go_wp2
    go_end0
    exact ⟨rfl, H.out, Keeps.refl _ _⟩
theorem keeps_grown {w w' : World} {b : Nat} (h : w.grownBy w' (some b)) : Keeps (fun k => k = b) w w' := ⟨h.os, h.tape, h.output, h.size, fun k hk hn => h.block k hk fun e => hn (Option.some.inj e)⟩
theorem keeps_own {w w' : World} {v : Value} (h : w.grownBy w' v.ownBlock) : Keeps (fun k => v.ownBlock = some k) w w' := ⟨h.os, h.tape, h.output, h.size, fun k hk hn => h.block k hk fun e => hn e.symm⟩
set_option maxRecDepth 100000 in
theorem create1_any (b bf bt f : Nat) (g : Nat → Nat) (l : Dir) (s : Nm) (w : World) (h : DirAt w b g l) (hl : l.length ≤ 64) (h1 : BoxP w bf (g f)) (h2 : BoxS w bt s) :
    Calls Try.prog 33 #[.map (some b), (.pointer (some ⟨bf, 0, none⟩)), (.pointer (some ⟨bt, 0, none⟩))] w fun e w' => e = .returned (.tuple #[]) ∧ DirAt w' b g (dirPut l s f) ∧ Keeps (fun k => k = b) w w' := by
  have H := Lib.hid h
  have HK := Lib.hid (key_str h2.2)
  obtain ⟨c1, -⟩ := cells1 h1
  obtain ⟨c2, -⟩ := cells1 h2.1
  clear h h1 h2
  go_enter Try.func33, Try.ntmps33
  go_wp2_with (at_mapUpdate; refine wpList_mapUpdate_own _ rfl _ _ _ 79 rfl 9 84 law_str Try.underlying79 ptrR b l.length (dirD g l) rfl H.out (by unfold maxLen; omega) _ _ (.string s) rfl rfl HK.out _ [] (ptrR_mk (g f)) ?_; intro w1 hown1 hg1)
  go_end0
  rw [← dirD_put] at hown1
  exact ⟨rfl, DirAt.of hown1, keeps_grown hg1⟩
theorem keeps_turned {w w' : World} {b : Nat} (h : w.mapTurned w' b) : Keeps (fun k => k = b) w w' := keeps_grown h.grown
set_option maxRecDepth 100000 in
theorem rename1_any (b bs bf bt f : Nat) (g : Nat → Nat) (l : Dir) (s t : Nm) (w : World) (h : DirAt w b g l) (hl : l.length ≤ 64) (h0 : BoxS w bs s) (h1 : BoxP w bf (g f)) (h2 : BoxS w bt t) :
    Calls Try.prog 38 #[.map (some b), (.pointer (some ⟨bs, 0, none⟩)), (.pointer (some ⟨bf, 0, none⟩)), (.pointer (some ⟨bt, 0, none⟩))] w fun e w' => e = .returned (.tuple #[]) ∧ DirAt w' b g (dirPut (dirDel l s) t f) ∧ Keeps (fun k => k = b) w w' := by
  have H := Lib.hid h
  have HK := Lib.hid (key_str h2.2)
  have HKS := Lib.hid (key_str h0.2)
  have HB := Lib.hid (And.intro h0 (And.intro h1 h2))
  obtain ⟨c0, -⟩ := cells1 h0.1
  clear h h1 h2 h0
  go_enter Try.func38, Try.ntmps38
  go_wp2_with (first | (at_delete; refine wpList_delete_own _ rfl _ _ 79 9 rfl 84 law_str Try.underlying79 ptrR b l.length (dirD g l) rfl H.out _ (.string s) rfl HKS.out ?_; intro w1 hown1 hg1; have hk1 := keeps_turned hg1; rw [← dirD_del] at hown1; have H1 := Lib.hid (DirAt.of hown1); have hh := hits_dir H.out; obtain ⟨c1, -⟩ := cells1 (keep_blk hk1 hh HB.out.2.1 (by simp [kindO])); obtain ⟨c2, -⟩ := cells1 (keep_blk hk1 hh HB.out.2.2.1 (by simp [kindO])); have HK1 := Lib.hid hk1; clear hown1 hg1 hk1 hh) | (at_mapUpdate; refine wpList_mapUpdate_own _ rfl _ _ _ 79 rfl 9 84 law_str Try.underlying79 ptrR b (dirDel l s).length (dirD g (dirDel l s)) rfl H1.out (by have := len_del l s; unfold maxLen; omega) _ _ (.string t) rfl rfl HK.out _ [] (ptrR_mk (g f)) ?_; intro w2 hown2 hg2))
  go_end0
  rw [← dirD_put] at hown2
  exact ⟨rfl, DirAt.of hown2, HK1.out.trans (keeps_grown hg2) (fun _ _ h => h)⟩
set_option maxRecDepth 100000 in
theorem remove1_any (b bs : Nat) (g : Nat → Nat) (l : Dir) (s : Nm) (w : World) (h : DirAt w b g l) (h0 : BoxS w bs s) :
    Calls Try.prog 56 #[.map (some b), (.pointer (some ⟨bs, 0, none⟩))] w fun e w' => e = .returned (.tuple #[]) ∧ DirAt w' b g (dirDel l s) ∧ Keeps (fun k => k = b) w w' := by
  have H := Lib.hid h
  have HKS := Lib.hid (key_str h0.2)
  obtain ⟨c0, -⟩ := cells1 h0.1
  clear h h0
  go_enter Try.func56, Try.ntmps56
  go_wp2_with (at_delete; refine wpList_delete_own _ rfl _ _ 79 9 rfl 84 law_str Try.underlying79 ptrR b l.length (dirD g l) rfl H.out _ (.string s) rfl HKS.out ?_; intro w1 hown1 hg1)
  go_end0
  rw [← dirD_del] at hown1
  exact ⟨rfl, DirAt.of hown1, keeps_turned hg1⟩
end Go.Proofs.Ytcicnjlkcbimgaa

/- Package disk: turn; New, Create, Rename, Remove. -/
namespace Go.Proofs.Ytcicnjlkcbimgaa
open Go.RowKit Go.Maps
theorem deedfn_info : (Try.prog.info? 88).map (fun i => (i.zero, i.size, i.bytes)) = some (some .nilFunc, 1, 8) := by kernel_rfl
theorem DiskAt.nowTo {w w' : World} {d : Nat} {F : Nat → Prop} {q : DW} {st : Dk} (h : DiskAt w d F q st) (hk : Keeps (fun k => k = q.bn) w w') {l : Dir} (hn : DirAt w' q.bn q.fb l) : DiskAt w' d F q { st with now := l } :=
  have hh := hits_dir h.now
  ⟨keep_blk hk hh h.blk (by simp [kindO]), hn, h.last.at (hk.block _ h.last.lt fun e => h.ne e.symm), h.ne, h.deeds.hits hk hh (by simp) (by simp) (by simp), h.files.hits hk hh (by simp) (by simp), h.fd, h.fn, h.fl⟩
theorem DiskAt.lastTo {w w' : World} {d : Nat} {F : Nat → Prop} {q : DW} {st : Dk} (h : DiskAt w d F q st) (hk : Keeps (fun k => k = q.bl) w w') {l : Dir} (hn : DirAt w' q.bl q.fb l) : DiskAt w' d F q { st with lasting := l } :=
  have hh := hits_dir h.last
  ⟨keep_blk hk hh h.blk (by simp [kindO]), h.now.at (hk.block _ h.now.lt fun e => h.ne e), hn, h.ne, h.deeds.hits hk hh (by simp) (by simp) (by simp), h.files.hits hk hh (by simp) (by simp), h.fd, h.fn, h.fl⟩
theorem DiskAt.pushTo {w w2 : World} {d : Nat} {F : Nat → Prop} {q : DW} {st : Dk} (h : DiskAt w d F q st) (x : Deed) (v v' : Value) (hv : DeedAt w F q.fb v x)
    (ho : w2.ownsRow 0 88 1 v' (st.deeds.length + 1) (q.ds ++ [v])) (hk : Keeps (fun k => q.vd.ownBlock = some k) w w2) (hloc : ∀ g, v'.ownBlock = some g → F g ∨ w.heap.size ≤ g) :
    DiskAt (w2.setCell ⟨d, 4, none⟩ v') d (fun k => F k ∨ w.heap.size ≤ k) { q with vd := v', ds := q.ds ++ [v] } { st with deeds := st.deeds ++ [x] } := by
  have hh := hits_row h.deeds.row
  have hb := keep_blk hk hh h.blk (by simp [kindO])
  have hk2 : Keeps (fun k => k = d) w2 (w2.setCell ⟨d, 4, none⟩ v') := keeps_set _ _
  have hh2 := hits_one hb
  have hl : q.ds.length = st.deeds.length := by simpa using h.deeds.row.1
  refine ⟨by simpa using blk_put hb 4 v', (h.now.hits hk hh (by simp)).hits hk2 hh2 (by simp [kindO]), (h.last.hits hk hh (by simp)).hits hk2 hh2 (by simp [kindO]), h.ne, ⟨?_, fun i y hy => ?_, fun g hg => hloc g hg⟩, ((h.files.hits hk hh (by simp) (by simp)).hits hk2 hh2 (by simp [kindO]) (by simp [kindO])).mono (fun _ h => .inl h), .inl h.fd, .inl h.fn, .inl h.fl⟩
  · have := keep_row hk2 hh2 ho (by simp [kindO])
    exact ownsRow_cast this (by simp) rfl
  · have hA : ∀ {v : Value} {y : Deed}, DeedAt w F q.fb v y → DeedAt (w2.setCell ⟨d, 4, none⟩ v') (fun k => F k ∨ w.heap.size ≤ k) q.fb v y := fun hd => by
      refine hd.at (fun k hF ⟨a, t, hb, ht⟩ => ?_) (fun _ h => .inl h) (fun _ => rfl)
      have h1 : w2.heap[k]? = some (.cells a t (0, 0)) := keep_blk hk hh hb (by rcases ht with rfl | rfl <;> simp [kindO])
      exact (keep_blk hk2 hh2 h1 (by rcases ht with rfl | rfl <;> simp [kindO])).trans hb.symm
    by_cases hi : i < st.deeds.length
    · rw [List.getElem?_append_left hi] at hy
      obtain ⟨u, hu, hd⟩ := h.deeds.dd i y hy
      exact ⟨u, by show (q.ds ++ [v])[i]? = _; rw [List.getElem?_append_left (by omega)]; exact hu, hA hd⟩
    · have hi' : i = st.deeds.length := by
        have := (List.getElem?_eq_some_iff.1 hy).1
        simp at this
        omega
      subst hi'
      simp at hy
      subst hy
      exact ⟨v, by show (q.ds ++ [v])[st.deeds.length]? = _; rw [← hl]; simp, hA hv⟩
theorem run_callFunc_body {P : Program} {f : FuncId} {fn : Func} (hf : P.funcs[f]? = some fn) (hname : (fn.name == "runtime.NumGoroutine") = false) (hb : fn.body.isNone = false) (args : Array Value) (w : World) :
    (callFunc f args).run P w = .ok (.enter f args) w := by
  have h1 : fn.name ≠ "runtime.NumGoroutine" := by simpa using hname
  cases hc : fn.body with
  | none => rw [hc] at hb; cases hb
  | some c => simp [callFunc, hf, h1, hc]
theorem DeedAt.hits {w w' : World} {F G : Nat → Prop} {n : Nat} {g : Nat → Nat} {v : Value} {x : Deed} (h : DeedAt w F g v x) (hk : Keeps G w w') (hh : Hits w G n) (h2 : 9 + 1 ≠ n) (h3 : 84 + 1 ≠ n) : DeedAt w' F g v x :=
  h.at (fun k _ ⟨a, t, hb, ht⟩ => (keep_blk hk hh hb (by rcases ht with rfl | rfl <;> assumption)).trans hb.symm) (fun _ h => h) (fun _ => rfl)
theorem keeps_append {w w2 : World} {o : Obj} {v : Value} (hg : (w.alloc o).grownBy w2 v.ownBlock) : Keeps (fun k => v.ownBlock = some k) w w2 :=
  ⟨hg.os, hg.tape, hg.output, Nat.le_trans (by simp) hg.size, fun k hk hn => (hg.block k (by simp; omega) (fun e => hn e.symm)).trans (Below.heap_alloc w o k hk)⟩
/-- The deed is done on the names that are now. -/
theorem deed_any (d : Nat) (F : Nat → Prop) (q : DW) (st : Dk) (v : Value) (x : Deed) (b : Nat) (l : Dir) (w : World) (hn : DirAt w b q.fb l) (hl : l.length ≤ 64) (hv : DeedAt w F q.fb v x) :
    ∃ f caps, v = .func (.func f) #[] caps ∧ (∀ as_ w, (callFunc f as_).run Try.prog w = .ok (.enter f as_) w) ∧ Calls Try.prog f (#[.map (some b)] ++ caps) w fun e w' => e = .returned (.tuple #[]) ∧ DirAt w' b q.fb (x.app l) ∧ Keeps (fun k => k = b) w w' := by
  rcases hv with ⟨hk, bf, bt, rfl, _, _, h1, h2⟩ | ⟨hk, bs, bf, bt, rfl, _, _, _, h1, h2, h3⟩ | ⟨hk, bs, rfl, _, h1⟩
  · refine ⟨_, _, rfl, run_callFunc_body Try.func33 (by kernel_rfl) (by kernel_rfl), ?_⟩
    rw [show x.app l = dirPut l x.to x.file from if_pos hk]
    exact create1_any b bf bt x.file q.fb l x.to w hn hl h1 h2
  · refine ⟨_, _, rfl, run_callFunc_body Try.func38 (by kernel_rfl) (by kernel_rfl), ?_⟩
    rw [show x.app l = dirPut (dirDel l x.frm) x.to x.file by unfold Deed.app; rw [if_neg (by omega), if_pos hk]]
    exact rename1_any b bs bf bt x.file q.fb l x.frm x.to w hn hl h1 h2 h3
  · refine ⟨_, _, rfl, run_callFunc_body Try.func56 (by kernel_rfl) (by kernel_rfl), ?_⟩
    rw [show x.app l = dirDel l x.frm by unfold Deed.app; rw [if_neg (by omega), if_neg (by omega)]]
    exact remove1_any b bs q.fb l x.frm w hn h1
set_option maxRecDepth 100000 in
set_option maxHeartbeats 1000000 in
theorem turn_any (d : Nat) (F : Nat → Prop) (q : DW) (st : Dk) (v : Value) (x : Deed) (K : Nat) (w : World) (h : DiskAt w d F q st) (hok : DkOk K st) (hK : K ≤ 1099511627776) (hv : DeedAt w F q.fb v x) :
    Calls Try.prog 32 #[(.pointer (some ⟨d, 0, none⟩)), v] w fun e w' => e = .returned (.tuple #[]) ∧ DiskTo w w' d F (st.turn x) := by
  have H := Lib.hid h
  have HV := Lib.hid hv
  have HOK := Lib.hid hok
  have hnd : st.deeds.length ≤ 1099511627776 := Nat.le_trans hok.nd hK
  obtain ⟨c0, c1, c2, c3, c4, c5, cf⟩ := cells6 h.blk
  obtain ⟨i0, hi, hz0, hz1, hz2⟩ := info_parts deedfn_info
  obtain ⟨f, caps, hvf, hrun, hcall⟩ := deed_any d F q st v x q.bn st.now w h.now hok.lnow hv
  have HI := Lib.hid hi
  have HZ0 := Lib.hid hz0
  have HZ1 := Lib.hid hz1
  have HZ2 := Lib.hid hz2
  have HC := Lib.hid hcall
  have HVF := Lib.hid hvf
  clear h hv hok hi hz0 hz1 hz2 c0 c1 c3 c4 c5 cf hcall
  subst hvf
  go_enter Try.func32, Try.ntmps32
  go_wp2_with fail
  refine HC.out.mono ?_
  rintro e w1 ⟨rfl, hn1, hk1⟩
  have HD1 := Lib.hid (H.out.nowTo hk1 hn1)
  have HK1 := Lib.hid hk1
  obtain ⟨c0, c1, c2', c3, c4, c5, cf⟩ := cells6 HD1.out.blk
  clear hn1 hk1 c0 c1 c2' c3 c5
  have hoc : (Value.func (.func f) #[] caps).oneCell' = true := rfl
  obtain ⟨vd, hvd⟩ : ∃ vd, vd = q.vd := ⟨_, rfl⟩
  rw [← hvd] at c4
  have HVD := Lib.hid hvd
  have HRW := Lib.hid (show w1.ownsRow 0 88 1 vd st.deeds.length q.ds by rw [hvd]; exact HD1.out.deeds.row)
  clear hvd
  go_wp2_with (at_builtin; refine wpList_append_own_at _ rfl _ _ 80 rfl 0 88 i0 .nilFunc 1 8 Try.underlying80 HI.out HZ0.out HZ1.out HZ2.out rfl (by decide) vd st.deeds.length q.ds rfl (HRW.out.alloc _) ⟨w1.heap.size, 0, none⟩ 1 1 [.func (.func f) #[] caps] rfl rfl (cell_one_new _ _ _) (by simpa using hoc) (by unfold maxLen; omega) (by omega) (Nat.zero_le _) ?_; intro v2 w2 hown2 hg2 _ hloc2; obtain ⟨a2, k2, rfl⟩ := ownsRow_len hown2; have hkk := keeps_append hg2; have HO2 := Lib.hid hown2; have HL2 := Lib.hid hloc2; obtain ⟨d0, d1, d2, d3, d4, d5, df⟩ := cells6 (keep_blk hkk (hits_row HRW.out) HD1.out.blk (by simp [kindO])); clear d0 d1 d2 d3 d5; have HKK := Lib.hid hkk; clear hown2 hloc2 hg2 hkk)
  have hloc : ∀ g, (Value.slice a2 (st.deeds.length + 1) k2).ownBlock = some g → F g ∨ w1.heap.size ≤ g := fun g hg => by
    rcases HL2.out with e | e
    · rw [hg, HVD.out] at e
      exact .inl (H.out.deeds.fvd g e.symm)
    · rw [hg] at e
      simp at e
      omega
  have h4 := HD1.out.pushTo x _ _ (HV.out.hits HK1.out (hits_dir H.out.now) (by simp) (by simp)) HO2.out (by rw [← HVD.out]; exact HKK.out) hloc
  have HK4 := Lib.hid (show Keeps F w (w2.setCell ⟨d, 4, none⟩ (.slice a2 (st.deeds.length + 1) k2)) from
    ((HK1.out.mono (G := F) fun _ _ e => e ▸ H.out.fn).trans (HKK.out.mono (G := F) fun k _ e => H.out.deeds.fvd k (by rw [← HVD.out]; exact e)) fun _ _ h => h).setCell _ _ fun _ => H.out.fd)
  have H4 := Lib.hid h4
  have hz1 := HK1.out.size
  clear h4 hloc
  go_wp2_with fail
  refine (did_any d _ _ _ _ H4.out HOK.out.armed.1 HOK.out.armed.2).mono ?_
  rintro e w5 ⟨rfl, h5, hk5⟩
  have H5 := Lib.hid h5
  have HK5 := Lib.hid hk5
  clear h5 hk5
  go_wp2_with fail
  go_end0
  exact ⟨rfl, H5.out.to (HK4.out.trans HK5.out fun _ _ e => e ▸ H.out.fd) (fun k hk => hk.imp id (Nat.le_trans hz1))⟩
end Go.Proofs.Ytcicnjlkcbimgaa

/- Package disk: named. -/
namespace Go.Proofs.Ytcicnjlkcbimgaa
open Go.RowKit Go.Maps
theorem take_all_snoc (s : Nm) (k : Nat) (hk : k < s.length) : (s.take (k + 1)).all okc = ((s.take k).all okc && okc s[k]) := by
  rw [List.take_succ_eq_append_getElem hk, List.all_append]
  simp
theorem all_false (s : Nm) (k : Nat) (hk : k < s.length) (h : okc s[k] = false) : s.all okc = false := by
  rw [List.all_eq_false]
  exact ⟨s[k], List.getElem_mem hk, by rw [h]; simp⟩
theorem okc_of (c : UInt8) (x : Nat) (hx : c.toNat = x) : okc c = ((decide (97 ≤ x) && decide (x ≤ 122)) || (decide (48 ≤ x) && decide (x ≤ 57)) || x == 46) := by
  unfold okc
  rw [hx]
set_option maxRecDepth 100000 in
set_option maxHeartbeats 1000000 in
theorem named_any (s : Nm) (w : World) (hs : s.length ≤ maxLen) :
    Calls Try.prog 31 #[.string ⟨s.toArray⟩] w fun e w' => e = .returned (.bool (namedB s)) ∧ w = w' := by
  unfold maxLen at hs
  by_cases h0 : s = []
  · subst h0
    go_enter Try.func31, Try.ntmps31
    go_wp2
    go_ret
    exact ⟨rfl, rfl⟩
  have he : s.isEmpty = false := by cases s <;> simp_all
  have he2 : s.toArray.isEmpty = false := by simpa using he
  by_cases h1 : s.length ≤ 32
  · have hd : decide ((32 : Int) < (s.length : Int)) = false := by simp; omega
    have HN := Lib.hid (show namedB s = s.all okc by unfold namedB; rw [he]; simp [h1])
    have H0 := Lib.hid h0
    clear h0
    go_enter Try.func31, Try.ntmps31
    go_wp2
    go_loop [14] (fun i => ∃ k : Nat, k ≤ s.length ∧ i = .int .i64 k ∧ (s.take k).all okc = true) (fun i => s.length - (intOf i).toNat)
    case atStart => exact ⟨0, Nat.zero_le _, rfl, rfl⟩
    case round =>
      obtain ⟨k, hk, rfl, ha⟩ := hrel
      have HA := Lib.hid ha
      clear ha
      by_cases hlt : k < s.length
      · have hlt' : (k : Int) < (s.length : Int) := by omega
        have hk0 : (0 : Int) ≤ (k : Int) := by omega
        obtain ⟨x, hx⟩ : ∃ x : Nat, s[k].toNat = x := ⟨_, rfl⟩
        have hx2 : x < 256 := by rw [← hx]; exact s[k].toNat_lt
        have HO := Lib.hid (okc_of _ x hx)
        have hb : ∀ h : k < (ByteArray.mk s.toArray).size, (ByteArray.mk s.toArray)[k]'h = s[k] := fun _ => rfl
        go_wp2_with fail
        all_goals first
          | (go_ret
             exact ⟨by rw [HN.out, all_false s k hlt (by rw [HO.out]; have hz : ((x : Int) == 46) = false := by assumption
                                                         simp at hz ⊢; omega)]; rfl, rfl⟩)
          | (go_round
             case rel => exact ⟨k + 1, by omega, by go_num, by rw [take_all_snoc s k hlt, HA.out, HO.out]; first | (simp; omega) | (have hz : ((x : Int) == 46) = true := (by assumption); simp at hz ⊢; omega)⟩
             case measure => simp [intOf]; omega)
      · go_wp2
        go_ret
        exact ⟨by rw [HN.out, ← HA.out, List.take_of_length_le (by omega)]; rfl, rfl⟩
  · have hd : decide ((32 : Int) < (s.length : Int)) = true := by simp; omega
    have HN := Lib.hid (show namedB s = false by unfold namedB; simp [h1])
    clear h0
    go_enter Try.func31, Try.ntmps31
    go_wp2
    go_ret
    exact ⟨by rw [HN.out]; rfl, rfl⟩
end Go.Proofs.Ytcicnjlkcbimgaa

/- A region that draws its order, walked once: what only computes or reads is taken as soon as it may come up, what makes or writes memory in its forced order. S: what the reads lean on. The condition on the region is closed. Whatever the program. -/
namespace Go.Proofs.Ytcicnjlkcbimgaa
open Go.RowKit

/-- Does operation j wait for i, through however many? -/
def waitsFor (ops : Array Oper) : Nat → Nat → Nat → Bool
  | 0, _, _ => false
  | n + 1, j, i => match ops[j]? with
    | some o => o.after.any fun e => Region.binds .any e && (e.on == i || waitsFor ops n e.on i)
    | none => false
def unlisted (listed : Array Bool) (j : Nat) : Bool := !listed.getD j true
/-- Must S hold behind operation j? -/
def needs (ops : Array Oper) (rds : List Nat) (j : Nat) : Bool := rds.any fun r => r != j && !waitsFor ops ops.size j r
def freeOf (ops : Array Oper) (rds : List Nat) (rd : Bool) (listed : Array Bool) (i : Nat) (oi : Oper) : Bool :=
  (List.range ops.size).all fun j => j == i || !unlisted listed j || waitsFor ops ops.size j i || match ops[j]? with
    | some oj => oi.apart ops oj && (!rd || needs ops rds j)
    | none => true
/-- The closed condition: l lists the operations in the order of the walk, with their kinds: 0 computes, 1 makes or writes, 2 reads. -/
def okOrder (ops : Array Oper) (rds : List Nat) : Bool → Array Bool → List (Nat × Nat) → Bool
  | _, listed, [] => (Region.ready .any ops listed).isEmpty
  | has, listed, (i, k) :: rest => (match ops[i]? with
    | some oi => (Region.ready .any ops listed).contains i &&
      (match k with
       | 0 => freeOf ops rds false listed i oi && okOrder ops rds has (listed.setIfInBounds i true) rest
       | 1 => (Region.ready .any ops listed == [i]) && okOrder ops rds (has && needs ops rds i) (listed.setIfInBounds i true) rest
       | _ => has && freeOf ops rds true listed i oi && okOrder ops rds has (listed.setIfInBounds i true) rest)
    | none => false)

section
variable {P : Program} {ops : Array Oper} {Q : Exit → Act → World → Prop} {S : World → Prop} {rds : List Nat}
/-- As wpAny, and S is said behind each operation behind which it is needed. -/
def wpAnyN (P : Program) (ops : Array Oper) (rds : List Nat) (Q : Exit → Act → World → Prop) (S : World → Prop) : Nat → Array Bool → Act → World → Prop
  | 0, listed, a, w => Region.ready .any ops listed = [] ∧ Q .normal a w
  | fuel + 1, listed, a, w =>
    (Region.ready .any ops listed = [] → Q .normal a w) ∧
    ∀ i ∈ Region.ready .any ops listed, wpOp P ops Q i (fun a' w' => (needs ops rds i = true → S w → S w') ∧ wpAnyN P ops rds Q S fuel (listed.setIfInBounds i true) a' w') a w
theorem wpAny_of_N : ∀ (fuel : Nat) (listed : Array Bool) (a : Act) (w : World), wpAnyN P ops rds Q S fuel listed a w → wpAny P .any ops Q fuel listed a w
  | 0, _, _, _, h => h
  | fuel + 1, listed, a, w, h => ⟨h.1, fun i hi => wpOp_mono (fun a' w' h' => wpAny_of_N fuel _ a' w' h'.2) (h.2 i hi)⟩

/-- Operation o yields v, in whatever world that meets T, and leaves it. -/
def YieldsT (P : Program) (ops : Array Oper) (T : World → Prop) (o : Oper) (v : Value) (a : Act) : Prop :=
  (Region.wanted o (yielded ops a.tmps) = true ∧ ∀ w, T w → (execOp a.eval o).run P w = .ok (.value v) w) ∨
  (Region.wanted o (yielded ops a.tmps) = false ∧ v = undef)
theorem YieldsT.wpOp {T : World → Prop} {i : Nat} {o : Oper} {v : Value} {a : Act} (hi : ops[i]? = some o) (hy : YieldsT P ops T o v a)
    {K : Act → World → Prop} {w : World} (hT : T w) (h : K (a.put o.dst v) w) : wpOp P ops Q i K a w := by
  unfold Go.wpOp
  simp only [hi]
  rcases hy with ⟨hw, hv⟩ | ⟨hw, rfl⟩
  · simp only [hw, if_true, Oper.wp, hv w hT, Oper.upon]; exact .inl h
  · simp only [hw, Bool.false_eq_true, if_false]; exact h
theorem YieldsT.of_same {T : World → Prop} {o : Oper} {v : Value} {a a' : Act} (hy : YieldsT P ops T o v a) (he : execOp a'.eval o = execOp a.eval o)
    (hw : Region.wanted o (yielded ops a'.tmps) = Region.wanted o (yielded ops a.tmps)) : YieldsT P ops T o v a' := by
  unfold YieldsT at *
  rw [he, hw]
  exact hy
theorem wpOp_putT {T : World → Prop} {j : Nat} {oi oj : Oper} {v : Value} (hj : ops[j]? = some oj) (hap : oi.apart ops oj = true)
    (hsi : ∀ cs b, oi.op ≠ .select cs b) (hsj : ∀ cs b, oj.op ≠ .select cs b)
    (hQ : ∀ c a w, Q (.panic c) (a.put oi.dst v) w → Q (.panic c) a w) {K : Act → World → Prop} {a : Act} {w : World}
    (hy : YieldsT P ops T oi v a) (h : wpOp P ops Q j K (a.put oi.dst v) w) :
    wpOp P ops Q j (fun a' w' => YieldsT P ops T oi v a' ∧ K (a'.put oi.dst v) w') a w := by
  obtain ⟨h1, h2, h3⟩ := Oper.apart_spec hap
  have keep : ∀ (a : Act), YieldsT P ops T oi v a → ∀ u, YieldsT P ops T oi v (a.put oj.dst u) := fun a hy u =>
    hy.of_same (execOp_put oi hsi a oj.dst u h3) (wanted_put oi a oj.dst u h3)
  have keepD : ∀ d, YieldsT P ops T oi v { a with defers := d :: a.defers } := fun d => hy.of_same rfl rfl
  unfold wpOp at *
  simp only [hj] at *
  rw [wanted_put oj a oi.dst v h1] at h
  split
  · rename_i hw
    simp only [hw, if_true] at h
    rcases h with h | ⟨hasks, hlets⟩
    case inr => exact .inr ⟨by unfold Oper.asks at *; rw [execOp_put oj hsj a oi.dst v h1] at hasks; exact hasks, hlets⟩
    refine .inl ?_
    unfold Oper.wp at *
    rw [execOp_put oj hsj a oi.dst v h1] at h
    generalize (execOp a.eval oj).run P w = r at *
    cases r with
    | ok n w' =>
      cases n <;> simp only [Oper.upon] at h ⊢
      case value u => exact ⟨keep a hy u, by rw [← Act.put_comm a v u h2]; exact h⟩
      case skip => exact ⟨keep a hy _, by rw [← Act.put_comm a v undef h2]; exact h⟩
      case defer d =>
        refine ⟨keep _ (keepD d) _, ?_⟩
        rw [← Act.put_comm _ v undef h2, ← Act.put_defers]
        exact h
      case enter f args =>
        refine Calls.mono h fun e w'' he => ?_
        cases e with
        | returned u => exact ⟨keep a hy u, by rw [← Act.put_comm a v u h2]; exact he⟩
        | panicked c => exact hQ _ _ _ he
        | outgrown => exact he
      case row row args => exact Rows.mono h fun u w'' he => ⟨keep a hy u, by rw [← Act.put_comm a v u h2]; exact he⟩
    | halt x w' =>
      cases x <;> simp only [Oper.upon] at h ⊢
      case panic u => exact hQ _ _ _ h
  · rename_i hw
    simp only [hw] at h
    exact ⟨keep a hy _, by rw [← Act.put_comm a v undef h2]; exact h⟩

/-- Whatever is listed, what it waits for is listed. -/
def Closed (ops : Array Oper) (listed : Array Bool) : Prop :=
  ∀ j o, ops[j]? = some o → listed.getD j true = true → ∀ e ∈ o.after, Region.binds .any e = true → listed.getD e.on false = true
theorem getD_true_of_false {listed : Array Bool} {j : Nat} (h : listed.getD j false = true) : listed.getD j true = true := by
  rcases Nat.lt_or_ge j listed.size with h' | h'
  · simp [h'] at h ⊢; exact h
  · simp [Array.getElem?_eq_none h'] at h
theorem Closed.waits {listed : Array Bool} (hc : Closed ops listed) : ∀ (n j i : Nat) (o : Oper), ops[j]? = some o → (∀ e ∈ o.after, Region.binds .any e = true → listed.getD e.on false = true) →
    waitsFor ops n j i = true → listed.getD i false = true
  | 0, _, _, _, _, _, h => by simp [waitsFor] at h
  | n + 1, j, i, o, ho, hall, h => by
    simp only [waitsFor, ho] at h
    obtain ⟨e, he, hb⟩ := Array.any_eq_true'.1 h
    simp only [Bool.and_eq_true, Bool.or_eq_true, beq_iff_eq] at hb
    obtain ⟨hb1, hb2⟩ := hb
    rcases hb2 with rfl | hb2
    · exact hall e he hb1
    · have hon := hall e he hb1
      cases ho' : ops[e.on]? with
      | none => cases n <;> simp [waitsFor, ho'] at hb2
      | some o' => exact Closed.waits hc n e.on i o' ho' (hc e.on o' ho' (getD_true_of_false hon)) hb2
theorem Closed.ready {listed : Array Bool} (hc : Closed ops listed) {j : Nat} (hj : j ∈ Region.ready .any ops listed) : Closed ops (listed.setIfInBounds j true) := by
  obtain ⟨hun, oj, hoj, hall⟩ := mem_ready.1 hj
  intro k o ho hk e he hb
  by_cases hjk : j = k
  · subst hjk
    rw [hoj] at ho
    cases ho
    exact getD_set_true (hall e he hb)
  · rw [getD_set_ne true hjk] at hk
    exact getD_set_true (hc k o ho hk e he hb)

theorem wpAnyN_first {T : World → Prop} {i : Nat} {oi : Oper} {v : Value} {rd : Bool} (hi : ops[i]? = some oi) (hsel : ∀ (j : Nat) (o : Oper) cs b, ops[j]? = some o → o.op ≠ .select cs b)
    (hQ : ∀ c a w, Q (.panic c) (a.put oi.dst v) w → Q (.panic c) a w) (hTS : rd = true → ∀ w, S w → T w) (hST : rd = true → ∀ w, T w → S w) (hT0 : rd = false → ∀ w, T w) :
    ∀ (fuel : Nat) (listed : Array Bool) (a : Act) (w : World), Closed ops listed →
      (∀ j oj, ops[j]? = some oj → j ≠ i → listed.getD j true = false → waitsFor ops ops.size j i = true ∨ (oi.apart ops oj = true ∧ (rd = true → needs ops rds j = true))) →
      i ∈ Region.ready .any ops listed → T w → YieldsT P ops T oi v a →
      wpAnyN P ops rds Q S fuel (listed.setIfInBounds i true) (a.put oi.dst v) w → wpAnyN P ops rds Q S (fuel + 1) listed a w := by
  intro fuel
  induction fuel with
  | zero =>
    intro listed a w _ _ hr hT hy H
    refine ⟨fun h => (by rw [h] at hr; cases hr), fun j hj => ?_⟩
    by_cases hji : j = i
    · subst hji; exact hy.wpOp hi hT ⟨fun _ h => h, H⟩
    · have := ready_mono hj hji
      rw [H.1] at this
      cases this
  | succ fuel ih =>
    intro listed a w hcl hfree hr hT hy H
    refine ⟨fun h => (by rw [h] at hr; cases hr), fun j hj => ?_⟩
    by_cases hji : j = i
    · subst hji; exact hy.wpOp hi hT ⟨fun _ h => h, H⟩
    · have h1 := H.2 j (ready_mono hj hji)
      obtain ⟨hjun, oj, hoj, hall⟩ := mem_ready.1 hj
      have hiun := (mem_ready.1 hr).1
      have hnot : ¬ waitsFor ops ops.size j i = true := fun hw => by
        have h1 := hcl.waits _ j i oj hoj hall hw
        have h2 := getD_true_of_false h1
        rw [hiun] at h2
        cases h2
      obtain ⟨hap, hnd⟩ := (hfree j oj hoj hji hjun).resolve_left hnot
      have h2 := wpOp_putT hoj hap (fun cs b => hsel i oi cs b hi) (fun cs b => hsel j oj cs b hoj) hQ hy h1
      have hfree' : ∀ k ok, ops[k]? = some ok → k ≠ i → (listed.setIfInBounds j true).getD k true = false →
          waitsFor ops ops.size k i = true ∨ (oi.apart ops ok = true ∧ (rd = true → needs ops rds k = true)) := fun k ok hk hki hun => by
        refine hfree k ok hk hki ?_
        by_cases hjk : j = k
        · subst hjk; exact hjun
        · rw [getD_set_ne true hjk] at hun; exact hun
      refine wpOp_mono (fun a' w' h3 => ?_) h2
      obtain ⟨h4, h5, h6⟩ := h3
      refine ⟨h5, ?_⟩
      have hT' : T w' := by
        cases hrd : rd with
        | true => exact hTS hrd w' (h5 (hnd hrd) (hST hrd w hT))
        | false => exact hT0 hrd w'
      refine ih (listed.setIfInBounds j true) a' w' (hcl.ready hj) hfree' (ready_mono hr (Ne.symm hji)) hT' h4 ?_
      rw [Array.setIfInBounds_comm _ _ hji]
      exact h6

theorem unlisted_of {listed : Array Bool} {j : Nat} (h : listed.getD j true = false) : unlisted listed j = true := by simp [unlisted, h]
theorem free_spec {rd : Bool} {listed : Array Bool} {i : Nat} {oi : Oper} (h : freeOf ops rds rd listed i oi = true) (j : Nat) (oj : Oper) (hj : ops[j]? = some oj) (hne : j ≠ i) (hun : listed.getD j true = false) :
    waitsFor ops ops.size j i = true ∨ (oi.apart ops oj = true ∧ (rd = true → needs ops rds j = true)) := by
  simp only [freeOf, List.all_eq_true, List.mem_range] at h
  have h1 := h j (Array.getElem?_eq_some_iff.1 hj).1
  simp only [hj, Bool.or_eq_true, Bool.and_eq_true, beq_iff_eq, hne, false_or, unlisted_of hun, Bool.not_true, Bool.false_eq_true, Bool.not_eq_true'] at h1
  rcases h1 with h1 | ⟨h1, h2⟩
  · exact .inl h1
  · exact .inr ⟨h1, fun hr => h2.resolve_left (by simp [hr])⟩

/-- The walk: each operation once. -/
def wpE (P : Program) (ops : Array Oper) (rds : List Nat) (Q : Exit → Act → World → Prop) (S : World → Prop) : List (Nat × Nat) → Act → World → Prop
  | [], a, w => Q .normal a w
  | (i, k) :: rest, a, w => match ops[i]? with
    | none => False
    | some oi => match k with
      | 0 => ∃ v, YieldsT P ops (fun _ => True) oi v a ∧ wpE P ops rds Q S rest (a.put oi.dst v) w
      | 1 => wpOp P ops Q i (fun a' w' => (needs ops rds i = true → S w → S w') ∧ wpE P ops rds Q S rest a' w') a w
      | _ => ∃ v, YieldsT P ops S oi v a ∧ wpE P ops rds Q S rest (a.put oi.dst v) w
theorem wpN_of_E (hsel : ∀ (j : Nat) (o : Oper) cs b, ops[j]? = some o → o.op ≠ .select cs b) (hQ : ∀ c a d v w, Q (.panic c) (a.put d v) w → Q (.panic c) a w) :
    ∀ (l : List (Nat × Nat)) (has : Bool) (listed : Array Bool) (a : Act) (w : World), Closed ops listed → okOrder ops rds has listed l = true → (has = true → S w) →
      wpE P ops rds Q S l a w → wpAnyN P ops rds Q S l.length listed a w
  | [], has, listed, a, w, _, hok, _, h => ⟨by simpa [okOrder] using hok, h⟩
  | (i, k) :: rest, has, listed, a, w, hcl, hok, hS, h => by
    cases hi : ops[i]? with
    | none => simp [okOrder, hi] at hok
    | some oi =>
      simp only [okOrder, hi, Bool.and_eq_true, List.contains_iff_mem] at hok
      obtain ⟨hr, hok⟩ := hok
      simp only [wpE, hi] at h
      match k, hok, h with
      | 0, hok, h =>
        simp only [Bool.and_eq_true] at hok
        obtain ⟨v, hy, h⟩ := h
        refine wpAnyN_first (T := fun _ => True) (rd := false) hi hsel (fun c a w => hQ c a _ _ w) (fun e => by cases e) (fun e => by cases e) (fun _ _ => trivial) rest.length listed a w hcl (free_spec hok.1) hr trivial hy ?_
        exact wpN_of_E hsel hQ rest has _ _ w (hcl.ready hr) hok.2 hS h
      | 1, hok, h =>
        simp only [Bool.and_eq_true, beq_iff_eq] at hok
        refine ⟨fun e => (by rw [e] at hr; cases hr), fun j hj => ?_⟩
        rw [hok.1] at hj
        have hji : j = i := by simpa using hj
        subst hji
        refine wpOp_mono (fun a' w' h' => ⟨h'.1, wpN_of_E hsel hQ rest (has && needs ops rds j) _ a' w' (hcl.ready hr) hok.2 (fun e => ?_) h'.2⟩) h
        simp only [Bool.and_eq_true] at e
        exact h'.1 e.2 (hS e.1)
      | k + 2, hok, h =>
        simp only [Bool.and_eq_true] at hok
        obtain ⟨v, hy, h⟩ := h
        refine wpAnyN_first (T := S) (rd := true) hi hsel (fun c a w => hQ c a _ _ w) (fun _ _ h => h) (fun _ _ h => h) (fun e => by cases e) rest.length listed a w hcl (free_spec hok.1.2) hr (hS hok.1.1) hy ?_
        exact wpN_of_E hsel hQ rest has _ _ w (hcl.ready hr) hok.2 hS h
/-- The region, from its walk. -/
theorem wp_region_order {id : Nat} {a : Act} {w : World} (S : World → Prop) (rds : List Nat) (l : List (Nat × Nat)) (hm : P.follows .mixedOrders = true) (hsel : Region.noSelect ops = true)
    (hlen : l.length = ops.size) (hok : okOrder ops rds true (Array.replicate ops.size false) l = true) (hQ : ∀ c a d v w, Q (.panic c) (a.put d v) w → Q (.panic c) a w)
    (hS : S w.drew) (h : wpE P ops rds Q S l a w.drew) : (Code.region id ops true).wp P Q a w := by
  refine wp_region_any hm (wpAny_of_N (rds := rds) (S := S) _ _ _ _ ?_)
  rw [← hlen]
  refine wpN_of_E (fun j o cs b => Region.noSelect_spec hsel j o cs b) hQ l true _ a _ ?_ (by rw [hlen]; exact hok) (fun _ => hS) h
  intro j o ho hj
  rcases Nat.lt_or_ge j l.length with h' | h'
  · simp [h'] at hj
  · have := (Array.getElem?_eq_some_iff.1 ho).1
    omega
/-- .. where the reads need nothing behind what makes or writes: S says 'the world is the one at the region's start'. -/
theorem wp_region_now {id : Nat} {a : Act} {w : World} (rds : List Nat) (l : List (Nat × Nat)) (hm : P.follows .mixedOrders = true) (hsel : Region.noSelect ops = true)
    (hlen : l.length = ops.size) (hok : okOrder ops rds true (Array.replicate ops.size false) l = true) (hQ : ∀ c a d v w, Q (.panic c) (a.put d v) w → Q (.panic c) a w)
    (h : wpE P ops rds Q (fun w' => w' = w.drew) l a w.drew) : (Code.region id ops true).wp P Q a w :=
  wp_region_order (fun w' => w' = w.drew) rds l hm hsel hlen hok hQ rfl h
/-- The post of a region that does not panic. -/
def onlyNormal (Q : Exit → Act → World → Prop) : Exit → Act → World → Prop := fun e a w => match e with | .normal => Q .normal a w | _ => False
theorem wp_region_order0 {id : Nat} {a : Act} {w : World} (S : World → Prop) (rds : List Nat) (l : List (Nat × Nat)) (hm : P.follows .mixedOrders = true) (hsel : Region.noSelect ops = true)
    (hlen : l.length = ops.size) (hok : okOrder ops rds true (Array.replicate ops.size false) l = true)
    (hS : S w.drew) (h : wpE P ops rds (onlyNormal Q) S l a w.drew) : (Code.region id ops true).wp P Q a w :=
  wp_mono (wp_region_order (Q := onlyNormal Q) S rds l hm hsel hlen hok (fun _ _ _ _ _ h => h) hS h) (fun e a w h => by cases e <;> first | exact h | exact False.elim h)
theorem wp_region_now0 {id : Nat} {a : Act} {w : World} (rds : List Nat) (l : List (Nat × Nat)) (hm : P.follows .mixedOrders = true) (hsel : Region.noSelect ops = true)
    (hlen : l.length = ops.size) (hok : okOrder ops rds true (Array.replicate ops.size false) l = true)
    (h : wpE P ops rds (onlyNormal Q) (fun w' => w' = w.drew) l a w.drew) : (Code.region id ops true).wp P Q a w :=
  wp_region_order0 (fun w' => w' = w.drew) rds l hm hsel hlen hok rfl h
section
variable {o : Oper} {i : Nat} {rest : List (Nat × Nat)} {a : Act} {w : World}
theorem stepEnil0 (h : Q .normal a w) : wpE P ops rds (onlyNormal Q) S [] a w := h
theorem stepE0 (ho : ops[i]? = some o) (hw : Region.wanted o (yielded ops a.tmps) = true)
    (h : ∀ K : Act → Prop, (∀ a, wpE P ops rds Q S rest a w → K a) → ∃ v, (∀ w1 : World, (execOp a.eval o).run P w1 = .ok (.value v) w1) ∧ K (a.put o.dst v)) : wpE P ops rds Q S ((i, 0) :: rest) a w := by
  obtain ⟨v, h1, h2⟩ := h _ (fun _ h => h)
  simp only [wpE, ho]
  exact ⟨v, .inl ⟨hw, fun w1 _ => h1 w1⟩, h2⟩
theorem stepE2 (ho : ops[i]? = some o) (hw : Region.wanted o (yielded ops a.tmps) = true) (v : Value) (h1 : ∀ w1 : World, S w1 → (execOp a.eval o).run P w1 = .ok (.value v) w1)
    (h : ∀ K : Act → Prop, (∀ a, wpE P ops rds Q S rest a w → K a) → K (a.put o.dst v)) : wpE P ops rds Q S ((i, 2) :: rest) a w := by
  have h2 := h _ (fun _ h => h)
  simp only [wpE, ho]
  exact ⟨v, .inl ⟨hw, h1⟩, h2⟩
theorem stepE1 (ho : ops[i]? = some o) (hw : Region.wanted o (yielded ops a.tmps) = true) (hn : needs ops rds i = false)
    (h : ∀ K : Act → World → Prop, (∀ a' w', wpE P ops rds Q S rest a' w' → K a' w') → o.wp P a w K Q) : wpE P ops rds Q S ((i, 1) :: rest) a w := by
  simp only [wpE, ho, wpOp, hw, if_true]
  exact .inl (h _ fun a' w' h => ⟨fun e => absurd e (by rw [hn]; simp), h⟩)
theorem stepE1S (ho : ops[i]? = some o) (hw : Region.wanted o (yielded ops a.tmps) = true)
    (h : ∀ K : Act → World → Prop, (∀ a' w', S w' ∧ wpE P ops rds Q S rest a' w' → K a' w') → o.wp P a w K Q) : wpE P ops rds Q S ((i, 1) :: rest) a w := by
  simp only [wpE, ho, wpOp, hw, if_true]
  exact .inl (h _ fun a' w' h => ⟨fun _ _ => h.1, h.2⟩)
theorem stepEx0 (ho : ops[i]? = some o) (hw : Region.wanted o (yielded ops a.tmps) = false) (h : wpE P ops rds Q S rest (a.put o.dst undef) w) : wpE P ops rds Q S ((i, 0) :: rest) a w := by
  simp only [wpE, ho]
  exact ⟨undef, .inr ⟨hw, rfl⟩, h⟩
theorem stepEx2 (ho : ops[i]? = some o) (hw : Region.wanted o (yielded ops a.tmps) = false) (h : wpE P ops rds Q S rest (a.put o.dst undef) w) : wpE P ops rds Q S ((i, 2) :: rest) a w := by
  simp only [wpE, ho]
  exact ⟨undef, .inr ⟨hw, rfl⟩, h⟩
theorem stepEx1 (ho : ops[i]? = some o) (hw : Region.wanted o (yielded ops a.tmps) = false) (h : wpE P ops rds Q S rest (a.put o.dst undef) w) : wpE P ops rds Q S ((i, 1) :: rest) a w := by
  simp only [wpE, ho, wpOp, hw, Bool.false_eq_true, if_false]
  exact ⟨fun _ h => h, h⟩
theorem stepEnil (h : Q .normal a w) : wpE P ops rds Q S [] a w := h
end
end
end Go.Proofs.Ytcicnjlkcbimgaa

/- Package disk: New, Create, Remove, Rename. -/
namespace Go.Proofs.Ytcicnjlkcbimgaa
open Go.RowKit Go.Maps
theorem wpList_dirlen (w : World) {ops : Array Oper} {rest : List Oper} {o : Oper} {a : Act} {Q : Exit → Act → World → Prop} (hg : o.guard = none) (m : Operand) (hop : o.op = Op.call { callee := Callee.builtin Builtin.len, args := #[m], argTypes := #[79] })
    (b : Nat) (g : Nat → Nat) (l : Dir) (hm : a.eval m = .map (some b)) (h : DirAt w b g l) (hK : wpList Try.prog ops Q rest (a.put o.dst (.int .i64 l.length)) w) : wpList Try.prog ops Q (o :: rest) a w :=
  wpList_len_own w hg m 79 hop 9 84 Try.underlying79 ptrR b l.length (dirD g l) hm h (by rw [dirD_size]; exact hK)
theorem DiskTo.from {w W w' : World} {d : Nat} {F : Nat → Prop} {st : Dk} (h : DiskTo W w' d (fun k => F k ∨ w.heap.size ≤ k) st) (hk : Keeps F w W) : DiskTo w w' d F st := by
  obtain ⟨⟨q, hq⟩, h2⟩ := h
  exact hq.to (hk.trans h2 fun i hi hg => hg.elim id fun e => by omega) fun k hk' => by
    rcases hk'.1 with (h | h) | h
    · exact .inl h
    · exact .inr h
    · exact .inr (Nat.le_trans hk.size h)
def upd {α : Type} (g : Nat → α) (n : Nat) (x : α) (i : Nat) : α := if i = n then x else g i
theorem upd_same {α : Type} (g : Nat → α) (n : Nat) (x : α) : upd g n x n = x := if_pos rfl
theorem upd_lt {α : Type} (g : Nat → α) {n i : Nat} (x : α) (h : i < n) : upd g n x i = g i := if_neg (by omega)
theorem DiskAt.fileTo {w w' : World} {d : Nat} {F : Nat → Prop} {q : DW} {st : Dk} {K : Nat} (h : DiskAt w d F q st) (hok : DkOk K st) (hk : Keeps (fun k => k = d) w w') (nf : Nat) (hnf : w.heap.size ≤ nf)
    (hb : w'.heap[nf]? = some (.cells #[.int .i64 st.files.length, .slice none 0 0, .int .i64 0] 86 (0, 0)))
    (hd : w'.heap[d]? = some (.cells #[.int .i64 st.cap, .int .i64 ((st.files.length : Int) + 1), .map (some q.bn), .map (some q.bl), q.vd, .int .i64 st.armed] 82 (0, 0))) :
    DiskAt w' d (fun k => F k ∨ w.heap.size ≤ k) { q with fb := upd q.fb st.files.length nf, fv := upd q.fv st.files.length (.slice none 0 0) } { st with files := st.files ++ [⟨[], 0⟩] } := by
  have hh := hits_one h.blk
  have hn : ∀ i, i < st.files.length → q.fb i ≠ nf := fun i hi e => by
    have := blk_lt (h.file hi).1
    omega
  refine ⟨by rw [hd]; simp, (h.now.hits hk hh (by simp [kindO])).congr fun p hp => (upd_lt _ _ (hok.fnow p hp)).symm, (h.last.hits hk hh (by simp [kindO])).congr fun p hp => (upd_lt _ _ (hok.flast p hp)).symm, h.ne,
    (h.deeds.hits hk hh (by simp [kindO]) (by simp [kindO]) (by simp [kindO])).mono (fun _ h => .inl h) fun x hx hk => (upd_lt _ _ (hok.fdeed x hx hk)).symm, ?_, .inl h.fd, .inl h.fn, .inl h.fl⟩
  have hf := h.files.hits hk hh (by simp [kindO]) (by simp [kindO])
  refine ⟨fun i f hi => ?_, fun i j hi hj e => ?_, fun i j g hi hj e1 e2 => ?_, fun i hi => ?_⟩
  · by_cases hl : i < st.files.length
    · show w'.heap[upd q.fb st.files.length nf i]? = _ ∧ _
      rw [List.getElem?_append_left hl] at hi
      simp only [upd_lt _ _ hl]
      exact hf.fi i f hi
    · obtain rfl : i = st.files.length := by
        have := (List.getElem?_eq_some_iff.1 hi).1
        simp at this
        omega
      simp at hi
      subst hi
      simp only [upd_same]
      exact ⟨hb, FRow.nil _⟩
  · simp only [List.length_append, List.length_cons, List.length_nil] at hi hj
    simp only [upd] at e
    split at e <;> split at e
    · omega
    · exact absurd e.symm (hn j (by omega))
    · exact absurd e (hn i (by omega))
    · exact hf.inj i j (by omega) (by omega) e
  · simp only [List.length_append, List.length_cons, List.length_nil] at hi hj
    simp only [upd] at e1 e2
    split at e1
    · cases e1
    · split at e2
      · cases e2
      · exact hf.apart i j g (by omega) (by omega) e1 e2
  · simp only [List.length_append, List.length_cons, List.length_nil] at hi
    by_cases hl : i < st.files.length
    · simp only [upd_lt _ _ hl]
      exact ⟨.inl (hf.ff i hl).1, fun g hg => .inl ((hf.ff i hl).2 g hg)⟩
    · obtain rfl : i = st.files.length := by omega
      simp only [upd_same]
      exact ⟨.inr hnf, fun g hg => by cases hg⟩
set_option maxRecDepth 100000 in
theorem new_any (c : Nat) (hc : c ≤ 1073741824) (w : World) :
    Calls Try.prog 9 #[.int .i64 c] w fun e w' => e = .returned (.tuple #[(.pointer (some ⟨w.heap.size + 2, 0, none⟩)), .nilIface]) ∧ DiskIs w' (w.heap.size + 2) (fun k => w.heap.size ≤ k) (Dk.new c) ∧ Below w.heap.size w w' := by
  have h1 : decide ((1073741824 : Int) < (c : Int)) = false := by simp; omega
  have hmm := @run_makeMap Try.prog
  go_enter Try.func9, Try.ntmps9
  go_wp2
  go_ret2
  refine ⟨rfl, ⟨⟨w.heap.size, w.heap.size + 1, .slice none 0 0, [], fun _ => 0, fun _ => .slice none 0 0⟩, ?_⟩, (by repeat (first | (with_reducible exact Below.refl _ _) | (with_reducible refine Below.setCell ?_ ?_ _) | (with_reducible refine Below.alloc ?_ ?_ _) | (with_reducible refine Below.drewN ?_ _) | (with_reducible refine Below.drew ?_) | (with_reducible exact Nat.le_refl _) | (focus (simp only [World.size_alloc, World.size_setCell, World.size_drew, World.size_drewN]; omega)) | omega | exact Nat.le_refl _ | (focus (simp; done)) | (focus (simp; omega))))⟩
  refine ⟨blk_new _ (by simp), (((World.ownsMap_made _ _ _ _).alloc _).alloc _), ((show DirAt _ (w.heap.size + 1) (fun _ => 0) [] from by have := World.ownsMap_made (w.alloc (.map #[] 0)) Try.prog 9 ptrR; rw [World.size_alloc] at this; exact this).alloc _), by simp, ⟨World.ownsRow_nil _ _ _ _, fun i x hx => by simp [Dk.new] at hx, fun g hg => by cases hg⟩,
    ⟨fun i f hi => by simp [Dk.new] at hi, fun i j hi => by simp [Dk.new] at hi, fun i j g hi => by simp [Dk.new] at hi, fun i hi => by simp [Dk.new] at hi⟩, by show w.heap.size ≤ _; omega, Nat.le_refl _, Nat.le_succ _⟩
theorem new_bad (c : Int) (hc : c < 0 ∨ 1073741824 < c) (w : World) :
    Calls Try.prog 9 #[.int .i64 c] w fun e w' => e = .returned (.tuple #[.pointer none, errV 1]) ∧ w = w' := by
  by_cases h0 : c < 0
  · go_enter Try.func9, Try.ntmps9
    go_wp2
    go_ret2
    exact ⟨rfl, rfl⟩
  · have h1 : 1073741824 < c := by omega
    have h2 : decide (c < 0) = false := by simp; omega
    clear hc
    go_enter Try.func9, Try.ntmps9
    go_wp2
    go_ret2
    exact ⟨rfl, rfl⟩
set_option maxRecDepth 100000 in
set_option maxHeartbeats 1000000 in
theorem create_any (d : Nat) (F : Nat → Prop) (q : DW) (st : Dk) (s : Nm) (K : Nat) (w : World) (h : DiskAt w d F q st) (hok : DkOk K st) (hK : K < 1099511627776) (hs : s.length ≤ maxLen) :
    Calls Try.prog 10 #[(.pointer (some ⟨d, 0, none⟩)), .string ⟨s.toArray⟩] w fun e w' => e = .returned (errV (st.create s).1) ∧ DiskTo w w' d F (st.create s).2 := by
  have hb0 : Below w.heap.size w (w.alloc (.cells #[.string ⟨s.toArray⟩] 9)) := (by repeat (first | (with_reducible exact Below.refl _ _) | (with_reducible refine Below.setCell ?_ ?_ _) | (with_reducible refine Below.alloc ?_ ?_ _) | (with_reducible refine Below.drewN ?_ _) | (with_reducible refine Below.drew ?_) | (with_reducible exact Nat.le_refl _) | (focus (simp only [World.size_alloc, World.size_setCell, World.size_drew, World.size_drewN]; omega)) | omega | exact Nat.le_refl _ | (focus (simp; done)) | (focus (simp; omega))))
  have H0 := Lib.hid (h.below hb0)
  have HT := Lib.hid (h.later hb0)
  have HTD := Lib.hid (h.later hb0.drew)
  have HOK := Lib.hid hok
  have hdl := blk_lt h.blk
  obtain ⟨c0, c1, c2, c3, c4, c5, cf⟩ := cells6 h.blk
  clear c0 c3 c4 c5 hok
  by_cases ha : st.armed = 0
  · have e : st.create s = (12, st) := by unfold Dk.create; rw [if_pos ha]
    rw [e]
    have HA := Lib.hid ha
    clear e ha h hb0 c1 c2 cf
    go_enter Try.func10, Try.ntmps10
    go_wp2_with fail
    refine (up_any d F q st _ H0.out).mono ?_
    rintro e w' ⟨rfl, rfl⟩
    rw [if_pos HA.out, errV_ne (by omega)]
    go_wp2
    go_ret
    exact ⟨rfl, HT.out⟩
  cases hnb : namedB s with
  | false =>
    have e : st.create s = (1, st) := by unfold Dk.create; rw [if_neg ha, if_pos hnb]
    rw [e]
    have HA := Lib.hid ha
    have HN := Lib.hid hnb
    clear e ha h hb0 c1 c2 cf hnb
    go_enter Try.func10, Try.ntmps10
    go_wp2_with fail
    refine (up_any d F q st _ H0.out).mono ?_
    rintro e w' ⟨rfl, rfl⟩
    rw [if_neg HA.out, errV_zero]
    go_wp2_with fail
    refine (named_any s _ hs).mono ?_
    rintro e w' ⟨rfl, rfl⟩
    rw [HN.out]
    go_wp2
    go_ret
    exact ⟨rfl, HT.out⟩
  | true =>
    cases hg : dirGet st.now s with
    | some i =>
      have e : st.create s = (8, st) := by unfold Dk.create; rw [if_neg ha, if_neg (by rw [hnb]; simp), if_pos (by rw [hg]; rfl)]
      rw [e]
      have HA := Lib.hid ha
      have HN := Lib.hid hnb
      have hrun := run_name_some (w := (w.alloc (.cells #[.string ⟨s.toArray⟩] 9)).drew) H0.out.now hs hg
      clear e ha h hb0 hnb hg
      go_enter Try.func10, Try.ntmps10
      go_wp2_with fail
      refine (up_any d F q st _ H0.out).mono ?_
      rintro e w' ⟨rfl, rfl⟩
      rw [if_neg HA.out, errV_zero]
      go_wp2_with fail
      refine (named_any s _ hs).mono ?_
      rintro e w' ⟨rfl, rfl⟩
      rw [HN.out]
      go_wp2_with fail
      refine wp_region_now0 [3, 4, 5] [(0, 0), (1, 0), (2, 0), (3, 2), (4, 2), (5, 2), (6, 0), (7, 0)] (by kernel_rfl) (by kernel_rfl) rfl (by kernel_rfl) ?_
      refine stepE0 rfl rfl (fun K hK => ?_)
      go_simp
      refine hK _ ?_
      clear hK K
      refine stepE0 rfl rfl (fun K hK => ?_)
      go_simp
      refine hK _ ?_
      clear hK K
      refine stepE0 rfl rfl (fun K hK => ?_)
      go_simp
      refine hK _ ?_
      clear hK K
      refine stepE2 rfl rfl ?_ (fun w1 hS => ?_) (fun K hK => ?_)
      rotate_left
      focus (obtain rfl : w1 = _ := hS; go_simp; rfl)
      go_simp
      refine hK _ ?_
      clear hK K
      refine stepE2 rfl rfl ?_ (fun w1 hS => ?_) (fun K hK => ?_)
      rotate_left
      focus (obtain rfl : w1 = _ := hS; go_simp; rfl)
      go_simp
      refine hK _ ?_
      clear hK K
      refine stepE2 rfl rfl ?_ (fun w1 hS => ?_) (fun K hK => ?_)
      rotate_left
      focus (obtain rfl : w1 = _ := hS; go_simp; rfl)
      go_simp
      refine hK _ ?_
      clear hK K
      refine stepE0 rfl rfl (fun K hK => ?_)
      go_simp
      refine hK _ ?_
      clear hK K
      refine stepE0 rfl rfl (fun K hK => ?_)
      go_simp
      refine hK _ ?_
      clear hK K
      try refine stepEnil0 ?_
      go_wp2_with fail
      go_ret
      exact ⟨rfl, HTD.out⟩
    | none =>
      have hrun := run_name_none (w := (w.alloc (.cells #[.string ⟨s.toArray⟩] 9)).drew) H0.out.now hs hg
      by_cases h64 : 64 ≤ st.now.length
      · have e : st.create s = (11, st) := by unfold Dk.create; rw [if_neg ha, if_neg (by rw [hnb]; simp), if_neg (by rw [hg]; simp), if_pos h64]
        rw [e]
        have HA := Lib.hid ha
        have HN := Lib.hid hnb
        clear e ha h hb0 hnb hg
        go_enter Try.func10, Try.ntmps10
        go_wp2_with fail
        refine (up_any d F q st _ H0.out).mono ?_
        rintro e w' ⟨rfl, rfl⟩
        rw [if_neg HA.out, errV_zero]
        go_wp2_with fail
        refine (named_any s _ hs).mono ?_
        rintro e w' ⟨rfl, rfl⟩
        rw [HN.out]
        go_wp2_with fail
        refine wp_region_now0 [3, 4, 5] [(0, 0), (1, 0), (2, 0), (3, 2), (4, 2), (5, 2), (6, 0), (7, 0)] (by kernel_rfl) (by kernel_rfl) rfl (by kernel_rfl) ?_
        refine stepE0 rfl rfl (fun K hK => ?_)
        go_simp
        refine hK _ ?_
        clear hK K
        refine stepE0 rfl rfl (fun K hK => ?_)
        go_simp
        refine hK _ ?_
        clear hK K
        refine stepE0 rfl rfl (fun K hK => ?_)
        go_simp
        refine hK _ ?_
        clear hK K
        refine stepE2 rfl rfl ?_ (fun w1 hS => ?_) (fun K hK => ?_)
        rotate_left
        focus (obtain rfl : w1 = _ := hS; go_simp; rfl)
        go_simp
        refine hK _ ?_
        clear hK K
        refine stepE2 rfl rfl ?_ (fun w1 hS => ?_) (fun K hK => ?_)
        rotate_left
        focus (obtain rfl : w1 = _ := hS; go_simp; rfl)
        go_simp
        refine hK _ ?_
        clear hK K
        refine stepE2 rfl rfl ?_ (fun w1 hS => ?_) (fun K hK => ?_)
        rotate_left
        focus (obtain rfl : w1 = _ := hS; go_simp; rfl)
        go_simp
        refine hK _ ?_
        clear hK K
        refine stepE0 rfl rfl (fun K hK => ?_)
        go_simp
        refine hK _ ?_
        clear hK K
        refine stepE0 rfl rfl (fun K hK => ?_)
        go_simp
        refine hK _ ?_
        clear hK K
        try refine stepEnil0 ?_
        go_wp2_with (at_len; refine wpList_dirlen _ rfl _ rfl q.bn q.fb st.now rfl (show DirAt (w.alloc (.cells #[.string ⟨s.toArray⟩] 9)).drew q.bn q.fb st.now from H0.out.now) ?_)
        go_ret
        exact ⟨rfl, HTD.out⟩
      · have e : st.create s = (0, ({ st with files := st.files ++ [⟨[], 0⟩] } : Dk).turn ⟨0, [], s, st.files.length⟩) := by unfold Dk.create; rw [if_neg ha, if_neg (by rw [hnb]; simp), if_neg (by rw [hg]; simp), if_neg h64]
        rw [e]
        have h64' : decide ((64 : Int) ≤ (st.now.length : Int)) = false := by simp; omega
        have HA := Lib.hid ha
        have HN := Lib.hid hnb
        have HB := Lib.hid h.blk
        have H := Lib.hid h
        have hnf : st.files.length < 1099511627776 := Nat.lt_of_le_of_lt HOK.out.nf hK
        have hdl1 : d < w.heap.size + 1 := by omega
        have hdl2 : d < w.heap.size + 2 := by omega
        clear e ha h hb0 hnb hg h64
        go_enter Try.func10, Try.ntmps10
        go_wp2_with fail
        refine (up_any d F q st _ H0.out).mono ?_
        rintro e w' ⟨rfl, rfl⟩
        rw [if_neg HA.out, errV_zero]
        go_wp2_with fail
        refine (named_any s _ hs).mono ?_
        rintro e w' ⟨rfl, rfl⟩
        rw [HN.out]
        go_wp2_with fail
        refine wp_region_now0 [3, 4, 5] [(0, 0), (1, 0), (2, 0), (3, 2), (4, 2), (5, 2), (6, 0), (7, 0)] (by kernel_rfl) (by kernel_rfl) rfl (by kernel_rfl) ?_
        refine stepE0 rfl rfl (fun K hK => ?_)
        go_simp
        refine hK _ ?_
        clear hK K
        refine stepE0 rfl rfl (fun K hK => ?_)
        go_simp
        refine hK _ ?_
        clear hK K
        refine stepE0 rfl rfl (fun K hK => ?_)
        go_simp
        refine hK _ ?_
        clear hK K
        refine stepE2 rfl rfl ?_ (fun w1 hS => ?_) (fun K hK => ?_)
        rotate_left
        focus (obtain rfl : w1 = _ := hS; go_simp; rfl)
        go_simp
        refine hK _ ?_
        clear hK K
        refine stepE2 rfl rfl ?_ (fun w1 hS => ?_) (fun K hK => ?_)
        rotate_left
        focus (obtain rfl : w1 = _ := hS; go_simp; rfl)
        go_simp
        refine hK _ ?_
        clear hK K
        refine stepE2 rfl rfl ?_ (fun w1 hS => ?_) (fun K hK => ?_)
        rotate_left
        focus (obtain rfl : w1 = _ := hS; go_simp; rfl)
        go_simp
        refine hK _ ?_
        clear hK K
        refine stepE0 rfl rfl (fun K hK => ?_)
        go_simp
        refine hK _ ?_
        clear hK K
        refine stepE0 rfl rfl (fun K hK => ?_)
        go_simp
        refine hK _ ?_
        clear hK K
        try refine stepEnil0 ?_
        go_wp2_with (at_len; refine wpList_dirlen _ rfl _ rfl q.bn q.fb st.now rfl (show DirAt (w.alloc (.cells #[.string ⟨s.toArray⟩] 9)).drew q.bn q.fb st.now from H0.out.now) ?_)
        refine (turn_any d (fun k => F k ∨ w.heap.size ≤ k) { q with fb := upd q.fb st.files.length (w.heap.size + 1), fv := upd q.fv st.files.length (.slice none 0 0) } { st with files := st.files ++ [⟨[], 0⟩] } _ ⟨0, [], s, st.files.length⟩ (K + 1) _ ?_ HOK.out.newFile (by omega) ?_).mono ?_
        · exact H.out.fileTo HOK.out (((((keeps_set (b := d) 1 _).alloc _).alloc _).alloc _).drew) (w.heap.size + 1) (by omega) (blk_alloc (blk_new _ (by simp [World.setCell])) _) (blk_alloc (blk_alloc (blk_alloc (by simpa using blk_put HB.out 1 _) _) _) _)
        · refine .inl ⟨rfl, w.heap.size + 1 + 1, w.heap.size, rfl, .inr (by omega), .inr (Nat.le_refl _), ?_, ?_, hs⟩
          · show _ = some (Obj.cells #[.pointer (some ⟨upd q.fb st.files.length (w.heap.size + 1) st.files.length, 0, none⟩)] _ _)
            rw [upd_same]
            exact blk_new _ (by simp [World.setCell])
          · exact blk_alloc (blk_alloc (blk_new _ (by simp [World.setCell])) _) _
        · rintro e w5 ⟨rfl, h5⟩
          have H5 := Lib.hid (h5.from (((((((Keeps.refl F w).setCell ⟨d, 1, none⟩ _ fun _ => H.out.fd).alloc _).alloc _).alloc _).drew)))
          clear h5
          go_wp2_with fail
          go_ret
          exact ⟨rfl, H5.out⟩
end Go.Proofs.Ytcicnjlkcbimgaa
