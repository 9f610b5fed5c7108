import Derived.Test.YtmkhacgdejkimaaGreatDoorDiskPlain
import Derived.Test.YtmkhacgdejkimaaGreatDoorVl1
import Derived.Test.YtmkhacgdejkimaaGreatDoorIxPlain
import Derived.Lib.ItoaNum
namespace Go.Proofs.YtmkhacgdejkimaaGreatDoor
structure Vl where
 num : Nat
 gen : Nat
 epoch : Nat
 shut : Bool
 most : Nat
 size : Nat
 idx : List Ps
def numN (n : Nat) : Nm := Go.Lib.decDigits n
def vName (v g : Nat) : Nm := 118 :: (numN v ++ 46 :: numN g)
def cName (v g : Nat) : Nm := 99 :: (numN v ++ 46 :: numN g)
def mName (v : Nat) : Nm := 109 :: numN v
def sName (v : Nat) : Nm := mName v ++ [46, 116]
def Vl.file (v : Vl) : Nm := vName v.num v.gen
def wordsB (l : List Nat) : List UInt8 := l.flatMap (le 4)
def sealB (b : List UInt8) : List UInt8 := b ++ le 4 (sumOf b).toNat
def superB (v g : Nat) : List UInt8 := sealB (wordsB [0x43524942, v, g])
def manB (v g e : Nat) (s : Bool) : List UInt8 := sealB (wordsB [0x4D414E49, v, g, e, if s then 1 else 0])
theorem wordsB_len : ∀ l : List Nat, (wordsB l).length = 4 * l.length
 | [] => rfl
 | a :: r => by
  show (le 4 a ++ wordsB r).length = _
  rw [List.length_append, le_len, wordsB_len r, List.length_cons]
  omega
theorem superB_len (v g : Nat) : (superB v g).length = 16 := by simp [superB, sealB, wordsB_len, le_len]
theorem manB_len (v g e : Nat) (s : Bool) : (manB v g e s).length = 24 := by simp [manB, sealB, wordsB_len, le_len]
def Dk.fresh (d : Dk) (s : Nm) (b : List UInt8) : Nat × Dk :=
 if (d.create s).1 ≠ 0 then d.create s else
 if ((d.create s).2.append s b).1 ≠ 0 then (d.create s).2.append s b else
 ((d.create s).2.append s b).2.sync s
def hasName (d : Dk) (s : Nm) : Bool := (dirGet d.now s).isSome
def rightV (v g e : Nat) : Bool := decide (1 ≤ v) && (decide (v ≤ 65535) && (decide (1 ≤ g) && (decide (g ≤ 2147483647) && decide (e ≤ 2147483647))))
def Dk.layTo (d : Dk) (v g e : Nat) (s : Bool) : Nat × Dk :=
 if (d.fresh (sName v) (manB v g e s)).1 ≠ 0 then d.fresh (sName v) (manB v g e s) else
 if ((d.fresh (sName v) (manB v g e s)).2.rename (sName v) (mName v)).1 ≠ 0 then (d.fresh (sName v) (manB v g e s)).2.rename (sName v) (mName v) else
 ((d.fresh (sName v) (manB v g e s)).2.rename (sName v) (mName v)).2.syncNames
def Dk.lay (d : Dk) (v g e : Nat) (s : Bool) : Nat × Dk :=
 if rightV v g e = false then (1, d) else
 if hasName d (sName v) = true then (if (d.remove (sName v)).1 ≠ 0 then d.remove (sName v) else (d.remove (sName v)).2.layTo v g e s) else d.layTo v g e s
def posOf (off : Nat) (n : Nd) : Ps := ⟨n.key, off, n.data.length, n.cookie, n.gone⟩
def Vl.room (v : Vl) (key n : Nat) : Bool := decide (v.size + n ≤ v.most) && ((ixFind v.idx key).isSome || decide (v.idx.length < 4096))
def Vl.write (v : Vl) (d : Dk) (n : Nd) : Nat × Dk × Vl :=
 if ndCheck n ≠ 0 then (ndCheck n, d, v) else
 if v.room n.key (ndSize n.data.length) = false then (11, d, v) else
 if (d.append v.file (ndBytes n)).1 ≠ 0 then ((d.append v.file (ndBytes n)).1, (d.append v.file (ndBytes n)).2, v) else
 (((d.append v.file (ndBytes n)).2.sync v.file).1, ((d.append v.file (ndBytes n)).2.sync v.file).2, { v with idx := ixPut v.idx (posOf v.size n), size := v.size + ndSize n.data.length })
def Vl.find (v : Vl) (key cookie : Nat) : Nat × Ps :=
 match ixFind v.idx key with
 | none => (6, ⟨0, 0, 0, 0, false⟩)
 | some p => if p.gone = true then (7, ⟨0, 0, 0, 0, false⟩) else if p.cookie ≠ cookie then (9, ⟨0, 0, 0, 0, false⟩) else (0, p)
def Vl.put (v : Vl) (d : Dk) (n : Nd) : Nat × Dk × Vl :=
 if n.gone = true then (1, d, v) else
 if ndCheck n ≠ 0 then (ndCheck n, d, v) else
 if v.shut = true then (10, d, v) else
 match ixFind v.idx n.key with
 | some p => (if p.gone = true then 7 else 8, d, v)
 | none => v.write d n
def Vl.del (v : Vl) (d : Dk) (key cookie : Nat) : Nat × Dk × Vl :=
 if (v.find key cookie).1 ≠ 0 then ((v.find key cookie).1, d, v) else
 if v.shut = true then (10, d, v) else v.write d ⟨key, cookie, true, []⟩
def Vl.get (v : Vl) (d : Dk) (key cookie : Nat) : Nat × Bool × Nd :=
 if (v.find key cookie).1 ≠ 0 then ((v.find key cookie).1, false, ⟨0, 0, false, []⟩) else
 if (d.read v.file (v.find key cookie).2.off (ndSize (v.find key cookie).2.len)).1 ≠ 0 then ((d.read v.file (v.find key cookie).2.off (ndSize (v.find key cookie).2.len)).1, false, ⟨0, 0, false, []⟩) else
 if (ndGet (d.read v.file (v.find key cookie).2.off (ndSize (v.find key cookie).2.len)).2).1 ≠ 0 then ((ndGet (d.read v.file (v.find key cookie).2.off (ndSize (v.find key cookie).2.len)).2).1, true, ⟨0, 0, false, []⟩) else
 if posOf (v.find key cookie).2.off (ndGet (d.read v.file (v.find key cookie).2.off (ndSize (v.find key cookie).2.len)).2).2.1 ≠ (v.find key cookie).2 then (4, true, ⟨0, 0, false, []⟩) else
 (0, false, (ndGet (d.read v.file (v.find key cookie).2.off (ndSize (v.find key cookie).2.len)).2).2.1)
def Vl.keys (v : Vl) (key : Nat) (most : Int) : List Ps := if most < 1 then [] else (v.idx.drop (ixAt v.idx key)).take most.toNat
def Vl.set (v : Vl) (d : Dk) (e : Int) (s : Bool) : Nat × Dk × Vl :=
 if e < 0 ∨ 2147483647 < e then (1, d, v) else if e < v.epoch then (13, d, v) else
 if (d.lay v.num v.gen e.toNat s).1 ≠ 0 then ((d.lay v.num v.gen e.toNat s).1, (d.lay v.num v.gen e.toNat s).2, v) else
 (0, (d.lay v.num v.gen e.toNat s).2, { v with epoch := e.toNat, shut := s })
def Vl.lay (v : Vl) (d : Dk) (n : Nd) : Nat × Dk × Vl :=
 if ndCheck n ≠ 0 then (ndCheck n, d, v) else
 match ixFind v.idx n.key with
 | none => v.write d n
 | some p =>
  if p.cookie ≠ n.cookie then (9, d, v) else if p.gone = true then (0, d, v) else if n.gone = true then v.write d n else
  if (v.get d n.key n.cookie).1 ≠ 0 then ((v.get d n.key n.cookie).1, d, v) else
  if (v.get d n.key n.cookie).2.2 = n then (0, d, v) else (8, d, v)
def goneN (l : List Ps) : Nat := l.countP fun p => p.gone
def Dk.make (d : Dk) (num most epoch : Nat) : Nat × Dk × Vl :=
 let v : Vl := ⟨num, 1, epoch, false, most, 16, []⟩
 if hasName d (mName num) = true then (8, d, v) else
 if (d.fresh (vName num 1) (superB num 1)).1 ≠ 0 then ((d.fresh (vName num 1) (superB num 1)).1, (d.fresh (vName num 1) (superB num 1)).2, v) else
 (((d.fresh (vName num 1) (superB num 1)).2.lay num 1 epoch false).1, ((d.fresh (vName num 1) (superB num 1)).2.lay num 1 epoch false).2, v)
def ndsB (l : List Nd) : List UInt8 := l.flatMap ndBytes
theorem ndsB_append (a b : List Nd) : ndsB (a ++ b) = ndsB a ++ ndsB b := List.flatMap_append
def newest : List Nd → Nat → Nat → Option (Nat × Nd)
 | [], _, _ => none
 | n :: r, off, k => match newest r (off + (ndBytes n).length) k with | some x => some x | none => if n.key = k then some (off, n) else none
theorem newest_snoc : ∀ (l : List Nd) (n : Nd) (off k : Nat), newest (l ++ [n]) off k = if n.key = k then some (off + (ndsB l).length, n) else newest l off k
 | [], n, off, k => by simp [newest, ndsB]
 | a :: r, n, off, k => by
  show (match newest (r ++ [n]) (off + (ndBytes a).length) k with | some x => some x | none => if a.key = k then some (off, a) else none) = _
  rw [newest_snoc r n]
  by_cases h : n.key = k
  ·rw [if_pos h, if_pos h]
   show some _ = some _
   congr 2
   show off + (ndBytes a).length + (ndsB r).length = off + (ndBytes a ++ ndsB r).length
   rw [List.length_append]
   omega
  ·rw [if_neg h, if_neg h]
   rfl
theorem newest_some : ∀ {l : List Nd} {off k o : Nat} {n : Nd}, newest l off k = some (o, n) → n ∈ l ∧ n.key = k ∧ ∃ a b, l = a ++ n :: b ∧ o = off + (ndsB a).length
 | [], _, _, _, _, h => by cases h
 | a :: r, off, k, o, n, h => by
  unfold newest at h
  split at h
  ·rename_i x hx
   cases h
   obtain ⟨h1, h2, p, q, h3, h4⟩ := newest_some hx
   refine ⟨List.mem_cons_of_mem _ h1, h2, a :: p, q, by rw [h3]; rfl, ?_⟩
   rw [h4]
   show _ = off + (ndBytes a ++ ndsB p).length
   rw [List.length_append]
   omega
  ·split at h
   ·rename_i hk
    cases h
    exact ⟨List.mem_cons_self, hk, [], r, rfl, by simp [ndsB]⟩
   ·cases h
structure VI (d : Dk) (v : Vl) (ns : List Nd) : Prop where
 armed : d.armed = -1
 cap : d.cap = 1048576
 num : 1 ≤ v.num ∧ v.num ≤ 65535
 gen : v.gen = 1
 epoch : v.epoch ≤ 2147483647
 now : ∃ f g, f ≠ g ∧ d.now.length = 2 ∧ dirGet d.now v.file = some f ∧ dirGet d.now (mName v.num) = some g ∧ (d.fileAt f).b = superB v.num 1 ++ ndsB ns ∧ (d.fileAt g).b.length = 24
 size : v.size = 16 + (ndsB ns).length
 most : v.size ≤ v.most
 ok : ∀ n ∈ ns, NdOk n
 srt : IxS v.idx
 idx : ∀ k, ixFind v.idx k = (newest ns 16 k).map fun x => posOf x.1 x.2
 len : v.idx.length ≤ ns.length
theorem digits_ok (n : Nat) : (numN n).all okc = true ∧ numN n ≠ [] := by
 unfold numN
 induction n using Nat.strongRecOn with
 | _ n ih =>
  have hd : ∀ k, k < 10 → okc (UInt8.ofNat (48 + k)) = true := by decide
  rw [Go.Lib.decDigits]
  split
  ·rename_i h
   refine ⟨?_, by simp⟩
   rw [List.all_cons, hd n h]
   rfl
  ·rename_i h
   obtain ⟨h1, h2⟩ := ih (n / 10) (by omega)
   refine ⟨?_, by simp⟩
   rw [List.all_append, h1, List.all_cons, hd (n % 10) (Nat.mod_lt _ (by omega))]
   rfl
theorem digits_len {n k : Nat} (h : n < 10 ^ k) (hk : 0 < k) : (numN n).length ≤ k := by
 unfold numN
 rw [Go.Lib.decDigits_length]
 induction k generalizing n with
 | zero => omega
 | succ k ih =>
  by_cases h1 : n < 10
  ·rw [Go.Lib.nDigits_small h1]; omega
  ·rw [Go.Lib.nDigits_big h1]
   have : n / 10 < 10 ^ k := by rw [Nat.pow_succ] at h; omega
   by_cases hk0 : 0 < k
   ·have := ih this hk0; omega
   ·have : k = 0 := by omega
    subst this
    omega
theorem named_v {v g : Nat} (hv : v ≤ 65535) (hg : g ≤ 2147483647) : namedB (vName v g) = true := by
 have h1 := digits_ok v
 have h2 := digits_ok g
 have h3 := digits_len (n := v) (k := 5) (by omega) (by omega)
 have h4 := digits_len (n := g) (k := 10) (by omega) (by omega)
 unfold namedB vName
 simp only [List.isEmpty_cons, Bool.not_false, Bool.true_and, List.all_cons, List.all_append, h1.1, h2.1, Bool.and_true]
 have : (118 :: (numN v ++ 46 :: numN g)).length ≤ 32 := by simp; omega
 simp only [this, decide_true, Bool.true_and]
 decide
theorem named_m {v : Nat} (hv : v ≤ 65535) : namedB (mName v) = true := by
 have h1 := digits_ok v
 have h3 := digits_len (n := v) (k := 5) (by omega) (by omega)
 unfold namedB mName
 simp only [List.isEmpty_cons, Bool.not_false, Bool.true_and, List.all_cons, h1.1, Bool.and_true]
 have : (109 :: numN v).length ≤ 32 := by simp; omega
 simp only [this, decide_true, Bool.true_and]
 decide
theorem named_s {v : Nat} (hv : v ≤ 65535) : namedB (sName v) = true := by
 have h1 := digits_ok v
 have h3 := digits_len (n := v) (k := 5) (by omega) (by omega)
 unfold namedB sName mName
 simp only [List.cons_append, List.isEmpty_cons, Bool.not_false, Bool.true_and, List.all_cons, List.all_append, h1.1]
 have : (109 :: (numN v ++ [46, 116])).length ≤ 32 := by simp; omega
 simp only [this, decide_true, Bool.true_and]
 decide
theorem v_ne_m (v g u : Nat) : vName v g ≠ mName u := fun e => by injection e with e _; exact absurd e (by decide)
theorem v_ne_s (v g u : Nat) : vName v g ≠ sName u := fun e => by injection e with e _; exact absurd e (by decide)
theorem s_ne_m (v : Nat) : sName v ≠ mName v := fun e => by
 have := congrArg List.length e
 simp [sName] at this
theorem fileAt_set {d : Dk} {f : Nat} {x : DFile} (h : f < d.files.length) : (d.setF f x).fileAt f = x := by
 unfold Dk.fileAt Dk.setF
 simp [h]
theorem fileAt_ne {d : Dk} {f g : Nat} {x : DFile} (h : f ≠ g) : (d.setF f x).fileAt g = d.fileAt g := by
 unfold Dk.fileAt Dk.setF
 simp [h]
theorem fileAt_lt {d : Dk} {f : Nat} (h : (d.fileAt f).b ≠ []) : f < d.files.length := by
 apply Classical.byContradiction
 intro hf
 apply h
 unfold Dk.fileAt
 rw [List.getElem?_eq_none (by omega)]
 rfl
theorem did_off {d : Dk} (h : d.armed = -1) : d.did = d := by
 unfold Dk.did
 rw [if_neg (by omega)]
theorem used_two {d : Dk} {a b : Nm} {f g : Nat} (hl : d.now.length = 2) (ha : dirGet d.now a = some f) (hb : dirGet d.now b = some g) (hab : a ≠ b) : d.used = (d.fileAt f).b.length + (d.fileAt g).b.length := by
 have h1 := get_mem ha
 have h2 := get_mem hb
 unfold Dk.used
 match e : d.now, hl with
 | [x, y], _ =>
  rw [e] at h1 h2
  simp only [List.map_cons, List.map_nil, List.sum_cons, List.sum_nil]
  rcases List.mem_cons.1 h1 with h1 | h1
  ·rcases List.mem_cons.1 h2 with h2 | h2
   ·rw [← h1] at h2
    exact absurd (congrArg Prod.fst h2).symm hab
   ·rcases List.mem_cons.1 h2 with h2 | h2
    ·rw [← h1, ← h2]; simp
    ·exact absurd h2 List.not_mem_nil
  ·rcases List.mem_cons.1 h1 with h1 | h1
   ·rcases List.mem_cons.1 h2 with h2 | h2
    ·rw [← h1, ← h2]; simp; omega
    ·rcases List.mem_cons.1 h2 with h2 | h2
     ·rw [← h1] at h2
      exact absurd (congrArg Prod.fst h2).symm hab
     ·exact absurd h2 List.not_mem_nil
   ·exact absurd h1 List.not_mem_nil
theorem ndCheck_ok {n : Nd} (h : ndCheck n = 0) : n.data.length ≤ 4096 ∧ (n.gone = true → n.data = []) := by
 unfold ndCheck at h
 split at h
 ·cases h
 ·split at h
  ·cases h
  ·rename_i h1 h2
   refine ⟨by omega, fun hg => ?_⟩
   have : ¬ 0 < n.data.length := fun e => h2 ⟨hg, e⟩
   exact List.eq_nil_of_length_eq_zero (by omega)
theorem VI.write {d : Dk} {v : Vl} {ns : List Nd} {n : Nd} (h : VI d v ns) (hk : n.key < 18446744073709551616) (hck : n.cookie < 4294967296) (hc : ndCheck n = 0) (hr : v.room n.key (ndSize n.data.length) = true) (hcap : v.size + ndSize n.data.length + 24 ≤ 1048576) :
  ∃ d' v', v.write d n = (0, d', v') ∧ VI d' v' (ns ++ [n]) ∧ v' = { v with idx := ixPut v.idx (posOf v.size n), size := v.size + ndSize n.data.length } := by
 obtain ⟨f, g, hfg, hl, hf, hg, hfb, hgb⟩ := h.now
 have hck2 := ndCheck_ok hc
 have hnd : NdOk n := ⟨hk, hck, hck2.1, hck2.2⟩
 have hflen : (d.fileAt f).b.length = v.size := by rw [hfb, List.length_append, superB_len, h.size]
 have hlt : f < d.files.length := fileAt_lt (by intro e; rw [e] at hflen; have := h.size; simp at hflen; omega)
 have ha : d.armed ≠ 0 := by rw [h.armed]; decide
 have hfnd : d.fnd v.file = (0, f) := by unfold Dk.fnd; rw [if_neg ha, hf]
 have hu := used_two hl hf hg (v_ne_m _ _ _)
 rw [hflen, hgb] at hu
 have hb := ndBytes_len n
 have hap : d.append v.file (ndBytes n) = (0, d.setF f ⟨(d.fileAt f).b ++ ndBytes n, (d.fileAt f).lasts⟩) := by
  unfold Dk.append
  rw [hfnd, if_neg (by simp), if_neg (by rw [hflen, hb]; omega), if_neg (by rw [hu, hb, h.cap]; omega)]
  rw [did_off (by show d.armed = -1; exact h.armed)]
 obtain ⟨d1, hd1⟩ : ∃ d1, d1 = d.setF f ⟨(d.fileAt f).b ++ ndBytes n, (d.fileAt f).lasts⟩ := ⟨_, rfl⟩
 rw [← hd1] at hap
 have h1a : d1.armed = -1 := by rw [hd1]; exact h.armed
 have h1n : d1.now = d.now := by rw [hd1]; rfl
 have h1f : (d1.fileAt f) = ⟨(d.fileAt f).b ++ ndBytes n, (d.fileAt f).lasts⟩ := by rw [hd1]; exact fileAt_set hlt
 have h1g : d1.fileAt g = d.fileAt g := by rw [hd1]; exact fileAt_ne hfg
 have h1l : d1.files.length = d.files.length := by rw [hd1]; simp [Dk.setF]
 have hfnd1 : d1.fnd v.file = (0, f) := by unfold Dk.fnd; rw [if_neg (by rw [h1a]; decide), h1n, hf]
 have hsy : d1.sync v.file = (0, d1.setF f ⟨(d1.fileAt f).b, (d1.fileAt f).b.length⟩) := by
  unfold Dk.sync
  rw [hfnd1, if_neg (by simp)]
  rw [did_off (by show d1.armed = -1; exact h1a)]
 refine ⟨d1.setF f ⟨(d1.fileAt f).b, (d1.fileAt f).b.length⟩, { v with idx := ixPut v.idx (posOf v.size n), size := v.size + ndSize n.data.length }, ?_, ?_, rfl⟩
 ·unfold Vl.write
  rw [if_neg (by rw [hc]; simp), if_neg (by rw [hr]; simp), hap, if_neg (by simp), hsy]
 ·have hix := ixFind_put v.idx (posOf v.size n)
  refine ⟨h1a, by show d1.cap = _; rw [hd1]; exact h.cap, h.num, h.gen, h.epoch, ⟨f, g, hfg, by show d1.now.length = 2; rw [h1n]; exact hl, by show dirGet d1.now _ = _; rw [h1n]; exact hf, by show dirGet d1.now _ = _; rw [h1n]; exact hg, ?_, ?_⟩, ?_, ?_, ?_, h.srt.put, ?_, ?_⟩
  ·rw [fileAt_set (by rw [h1l]; exact hlt), h1f]
   show (d.fileAt f).b ++ ndBytes n = superB v.num 1 ++ ndsB (ns ++ [n])
   rw [hfb, ndsB_append, List.append_assoc]
   congr 2
   simp [ndsB]
  ·rw [fileAt_ne hfg, h1g]
   exact hgb
  ·show v.size + ndSize n.data.length = 16 + (ndsB (ns ++ [n])).length
   rw [ndsB_append, List.length_append, h.size]
   have : (ndsB [n]).length = ndSize n.data.length := by simp [ndsB, hb]
   omega
  ·show v.size + ndSize n.data.length ≤ v.most
   unfold Vl.room at hr
   simp only [Bool.and_eq_true, decide_eq_true_eq] at hr
   exact hr.1
  ·intro m hm
   rcases List.mem_append.1 hm with hm | hm
   ·exact h.ok m hm
   ·obtain rfl : m = n := by simpa using hm
    exact hnd
  ·intro k
   show ixFind (ixPut v.idx (posOf v.size n)) k = _
   rw [hix k h.srt, newest_snoc]
   by_cases e : n.key = k
   ·have e' : (posOf v.size n).key = k := e
    rw [if_pos e', if_pos e, Option.map_some, h.size]
   ·have e' : ¬ (posOf v.size n).key = k := e
    rw [if_neg e', if_neg e]
    exact h.idx k
  ·show (ixPut v.idx (posOf v.size n)).length ≤ (ns ++ [n]).length
   rw [ixPut_len h.srt, List.length_append]
   have := h.len
   split <;> simp <;> omega
theorem VI.find {d : Dk} {v : Vl} {ns : List Nd} (h : VI d v ns) (key cookie : Nat) : (v.find key cookie).1 = (match newest ns 16 key with | none => 6 | some x => if x.2.gone = true then 7 else if x.2.cookie ≠ cookie then 9 else 0) ∧ ∀ x, newest ns 16 key = some x → x.2.gone = false → x.2.cookie = cookie → v.find key cookie = (0, posOf x.1 x.2) := by
 unfold Vl.find
 rw [h.idx key]
 cases e : newest ns 16 key with
 | none => exact ⟨rfl, fun x hx => by cases hx⟩
 | some x =>
  obtain ⟨o, n⟩ := x
  simp only [Option.map_some]
  refine ⟨?_, fun y hy hg hc => ?_⟩
  ·show (if n.gone = true then _ else if n.cookie ≠ cookie then _ else _ : Nat × Ps).1 = _
   by_cases hg : n.gone = true
   ·rw [if_pos hg, if_pos hg]
   ·rw [if_neg hg, if_neg hg]
    by_cases hc : n.cookie ≠ cookie
    ·rw [if_pos hc, if_pos hc]
    ·rw [if_neg hc, if_neg hc]
  ·cases hy
   simp only at hg hc
   show (if n.gone = true then _ else if n.cookie ≠ cookie then _ else _ : Nat × Ps) = _
   rw [if_neg (by rw [hg]; simp), if_neg (by rw [hc]; simp)]
theorem VI.got {d : Dk} {v : Vl} {ns : List Nd} (h : VI d v ns) {key o : Nat} {n : Nd} (hx : newest ns 16 key = some (o, n)) (hg : n.gone = false) : v.get d key n.cookie = (0, false, n) := by
 obtain ⟨f, g, hfg, hl, hf, hgn, hfb, hgb⟩ := h.now
 obtain ⟨hm, hk, a, b, hab, ho⟩ := newest_some hx
 have hok := h.ok n hm
 have hfd := (h.find key n.cookie).2 (o, n) hx hg rfl
 have ha : d.armed ≠ 0 := by rw [h.armed]; decide
 have hfnd : d.fnd v.file = (0, f) := by unfold Dk.fnd; rw [if_neg ha, hf]
 have hb := ndBytes_len n
 have hlen : (d.fileAt f).b.length = 16 + (ndsB a).length + ndSize n.data.length + (ndsB b).length := by
  rw [hfb, List.length_append, superB_len, hab, ndsB_append, List.length_append]
  show 16 + ((ndsB a).length + (ndBytes n ++ ndsB b).length) = _
  rw [List.length_append, hb]
  omega
 have hcut : ((d.fileAt f).b.drop (16 + (ndsB a).length)).take (ndSize n.data.length) = ndBytes n := by
  have e : (d.fileAt f).b = (superB v.num 1 ++ ndsB a) ++ (ndBytes n ++ ndsB b) := by
   rw [hfb, hab, ndsB_append, List.append_assoc]
   rfl
  have l : (superB v.num 1 ++ ndsB a).length = 16 + (ndsB a).length := by rw [List.length_append, superB_len]
  rw [e, ← l, List.drop_left, ← hb, List.take_left]
 have hrd : d.read v.file o (ndSize n.data.length) = (0, ndBytes n) := by
  unfold Dk.read
  rw [hfnd, if_neg (by simp), if_neg (by omega), if_neg (by rw [hlen, ho]; omega)]
  rw [ho]
  have e1 : ((16 + (ndsB a).length : Nat) : Int).toNat = 16 + (ndsB a).length := rfl
  have e2 : ((ndSize n.data.length : Nat) : Int).toNat = ndSize n.data.length := rfl
  rw [e1, e2, hcut]
 have hget := ndGet_put hok []
 rw [List.append_nil] at hget
 unfold Vl.get
 have hrd' : d.read v.file (posOf o n).off (ndSize (posOf o n).len) = (0, ndBytes n) := hrd
 rw [hfd]
 simp only [ne_eq, not_true_eq_false, if_false, hrd', hget]
 rw [if_neg (fun e => e rfl)]
theorem del_none {l : Dir} {s : Nm} (h : ∀ p ∈ l, p.1 ≠ s) : dirDel l s = l := by
 unfold dirDel
 rw [List.filter_eq_self]
 intro p hp
 simpa using h p hp
theorem del_ins (f : Nat) {s : Nm} : ∀ {l : Dir}, (∀ p ∈ l, p.1 ≠ s) → dirDel (dirIns (s, f) l) s = l
 | [], _ => by simp [dirIns, dirDel]
 | y :: r, h => by
  have hy := h y List.mem_cons_self
  have hr := fun p hp => h p (List.mem_cons_of_mem _ hp)
  unfold dirIns
  split
  ·show dirDel ((s, f) :: y :: r) s = _
   have : dirDel ((s, f) :: y :: r) s = dirDel (y :: r) s := by simp [dirDel]
   rw [this, del_none h]
  ·have e : dirDel (y :: dirIns (s, f) r) s = y :: dirDel (dirIns (s, f) r) s := by
    have : (y.1 == s) = false := by simpa using hy
    simp [dirDel, this]
   rw [e, del_ins f hr]
theorem sum_ins (g : Nm × Nat → Nat) (x : Nm × Nat) : ∀ l : Dir, ((dirIns x l).map g).sum = g x + (l.map g).sum
 | [] => by simp [dirIns]
 | y :: r => by
  unfold dirIns
  split
  ·simp
  ·simp only [List.map_cons, List.sum_cons, sum_ins g x r]
   omega
theorem set_last {α : Type} (l : List α) (x y : α) : (l ++ [x]).set l.length y = l ++ [y] := by
 rw [List.set_append_right _ _ (Nat.le_refl _)]
 simp
theorem fresh_new {d : Dk} {s : Nm} {b : List UInt8} (ha : d.armed = -1) (hn : namedB s = true) (hg : dirGet d.now s = none) (h64 : d.now.length < 64) (hb : b.length ≤ 16777216) (hc : d.used + b.length ≤ d.cap) (hf : ∀ p ∈ d.now, p.2 < d.files.length) :
  d.fresh s b = (0, { d with files := d.files ++ [⟨b, b.length⟩], now := dirPut d.now s d.files.length, deeds := d.deeds ++ [⟨0, [], s, d.files.length⟩] }) := by
 have h0 : d.armed ≠ 0 := by rw [ha]; decide
 have hno := get_none hg
 obtain ⟨d1, hd1⟩ : ∃ d1 : Dk, d1 = { d with files := d.files ++ [⟨[], 0⟩], now := dirPut d.now s d.files.length, deeds := d.deeds ++ [⟨0, [], s, d.files.length⟩] } := ⟨_, rfl⟩
 have hcr : d.create s = (0, d1) := by
  unfold Dk.create
  rw [if_neg h0, if_neg (by rw [hn]; simp), if_neg (by rw [hg]; simp), if_neg (by omega)]
  congr 1
  unfold Dk.turn
  rw [did_off (by show d.armed = -1; exact ha), hd1]
  rfl
 have h1a : d1.armed = -1 := by rw [hd1]; exact ha
 have h1f : d1.fnd s = (0, d.files.length) := by
  unfold Dk.fnd
  rw [if_neg (by rw [h1a]; decide)]
  have : dirGet d1.now s = some d.files.length := by rw [hd1]; exact get_put_same _ _ _
  rw [this]
 have h1at : ∀ i, i < d.files.length → d1.fileAt i = d.fileAt i := fun i hi => by
  rw [hd1]
  unfold Dk.fileAt
  simp only [List.getElem?_append_left hi]
 have h1n : d1.fileAt d.files.length = ⟨[], 0⟩ := by
  rw [hd1]
  unfold Dk.fileAt
  simp
 have hu : d1.used = d.used := by
  unfold Dk.used
  have : d1.now = dirIns (s, d.files.length) d.now := by rw [hd1]; show dirPut _ _ _ = _; unfold dirPut; rw [del_none hno]
  rw [this, sum_ins]
  show (d1.fileAt d.files.length).b.length + _ = _
  rw [h1n]
  simp only [List.length_nil, Nat.zero_add]
  congr 1
  exact List.map_congr_left fun p hp => by rw [h1at p.2 (hf p hp)]
 obtain ⟨d2, hd2⟩ : ∃ d2, d2 = d1.setF d.files.length ⟨b, 0⟩ := ⟨_, rfl⟩
 have hap : d1.append s b = (0, d2) := by
  unfold Dk.append
  have hcap : d1.cap = d.cap := by rw [hd1]
  rw [h1f, if_neg (by simp), if_neg (by rw [h1n]; simp; omega), if_neg (by rw [hu, hcap]; omega)]
  rw [did_off (by show d1.armed = -1; exact h1a), h1n, hd2]
  rfl
 have h2a : d2.armed = -1 := by rw [hd2]; exact h1a
 have h2n : d2.now = d1.now := by rw [hd2]; rfl
 have h2l : d.files.length < d1.files.length := by rw [hd1]; simp
 have h2f : d2.fnd s = (0, d.files.length) := by
  unfold Dk.fnd
  rw [if_neg (by rw [h2a]; decide), h2n]
  have : dirGet d1.now s = some d.files.length := by rw [hd1]; exact get_put_same _ _ _
  rw [this]
 have h2at : d2.fileAt d.files.length = ⟨b, 0⟩ := by rw [hd2]; exact fileAt_set h2l
 have hsy : d2.sync s = (0, d2.setF d.files.length ⟨b, b.length⟩) := by
  unfold Dk.sync
  rw [h2f, if_neg (by simp), h2at]
  rw [did_off (by show d2.armed = -1; exact h2a)]
 unfold Dk.fresh
 rw [hcr, if_neg (by simp), hap, if_neg (by simp), hsy, hd2, hd1]
 congr 1
 unfold Dk.setF
 simp only [set_last]
theorem VI.make {num most epoch : Nat} (h1 : 1 ≤ num) (h2 : num ≤ 65535) (hm : 16 ≤ most) (he : epoch ≤ 2147483647) :
  ∃ d, (Dk.new 1048576).make num most epoch = (0, d, ⟨num, 1, epoch, false, most, 16, []⟩) ∧ VI d ⟨num, 1, epoch, false, most, 16, []⟩ [] := by
 have hs := superB_len num 1
 have hmn := manB_len num 1 epoch false
 have hvm := v_ne_m num 1 num
 have hvs := v_ne_s num 1 num
 have hsm := s_ne_m num
 have f1 := fresh_new (d := Dk.new 1048576) (s := vName num 1) (b := superB num 1) rfl (named_v h2 (by omega)) rfl (by show 0 < 64; omega) (by omega) (by show 0 + (superB num 1).length ≤ 1048576; omega) (fun p hp => absurd hp List.not_mem_nil)
 obtain ⟨d1, hd1⟩ : ∃ d1 : Dk, d1 = ⟨1048576, [(vName num 1, 0)], [], [⟨0, [], vName num 1, 0⟩], [⟨superB num 1, (superB num 1).length⟩], -1⟩ := ⟨_, rfl⟩
 have f1' : (Dk.new 1048576).fresh (vName num 1) (superB num 1) = (0, d1) := by rw [f1, hd1]; rfl
 have n1 : dirGet d1.now (sName num) = none := by
  rw [hd1]
  have : (vName num 1 == sName num) = false := by simpa using hvs
  simp [dirGet, this]
 have u1 : d1.used = 16 := by rw [hd1]; simp [Dk.used, Dk.fileAt, hs]
 have f2 := fresh_new (d := d1) (s := sName num) (b := manB num 1 epoch false) (by rw [hd1]) (named_s h2) n1 (by rw [hd1]; show 1 < 64; omega) (by omega) (by rw [u1, hmn, hd1]; show 16 + 24 ≤ 1048576; omega) (fun p hp => by rw [hd1] at hp ⊢; obtain rfl := List.mem_singleton.1 hp; show 0 < 1; omega)
 obtain ⟨d2, hd2⟩ : ∃ d2 : Dk, d2 = { d1 with files := d1.files ++ [⟨manB num 1 epoch false, (manB num 1 epoch false).length⟩], now := dirPut d1.now (sName num) d1.files.length, deeds := d1.deeds ++ [⟨0, [], sName num, d1.files.length⟩] } := ⟨_, rfl⟩
 rw [← hd2] at f2
 have l1 : d1.files.length = 1 := by rw [hd1]; rfl
 have a2 : d2.armed = -1 := by rw [hd2, hd1]
 have g2 : d2.fnd (sName num) = (0, 1) := by
  unfold Dk.fnd
  rw [if_neg (by rw [a2]; decide)]
  have : dirGet d2.now (sName num) = some 1 := by rw [hd2, l1]; exact get_put_same _ _ _
  rw [this]
 obtain ⟨d3, hd3⟩ : ∃ d3 : Dk, d3 = { d2 with now := dirPut [(vName num 1, 0)] (mName num) 1, deeds := d2.deeds ++ [⟨1, sName num, mName num, 1⟩] } := ⟨_, rfl⟩
 have e1 : d1.now = [(vName num 1, 0)] := by rw [hd1]
 have hno : ∀ p ∈ d1.now, p.1 ≠ sName num := get_none n1
 have e2 : dirDel d2.now (sName num) = [(vName num 1, 0)] := by
  rw [hd2, l1]
  show dirDel (dirPut d1.now (sName num) 1) (sName num) = _
  unfold dirPut
  rw [del_none hno, del_ins 1 hno, e1]
 have r3 : d2.rename (sName num) (mName num) = (0, d3) := by
  unfold Dk.rename
  rw [g2, if_neg (by simp), if_neg (by rw [named_m h2]; simp)]
  congr 1
  unfold Dk.turn
  rw [did_off (by show d2.armed = -1; exact a2), hd3]
  have : (⟨1, sName num, mName num, 1⟩ : Deed).app d2.now = dirPut (dirDel d2.now (sName num)) (mName num) 1 := rfl
  rw [this, e2]
 have a3 : d3.armed = -1 := by rw [hd3]; exact a2
 have s3 : d3.syncNames = (0, { d3 with lasting := d3.now, deeds := [] }) := by
  unfold Dk.syncNames
  rw [if_neg (by rw [a3]; decide), did_off (by show d3.armed = -1; exact a3)]
 refine ⟨{ d3 with lasting := d3.now, deeds := [] }, ?_, ?_⟩
 ·unfold Dk.make
  have hh : hasName (Dk.new 1048576) (mName num) = false := rfl
  have hr : rightV num 1 epoch = true := by unfold rightV; simp; omega
  have hh2 : hasName d1 (sName num) = false := by unfold hasName; rw [n1]; rfl
  have hl : d1.lay num 1 epoch false = (0, { d3 with lasting := d3.now, deeds := [] }) := by
   unfold Dk.lay
   rw [if_neg (by rw [hr]; simp), if_neg (by rw [hh2]; simp)]
   unfold Dk.layTo
   rw [f2, if_neg (by simp), r3, if_neg (by simp), s3]
  rw [if_neg (by rw [hh]; simp), f1', if_neg (by simp), hl]
 ·have n4 : d3.now = dirPut [(vName num 1, 0)] (mName num) 1 := by rw [hd3]
  have fl : d3.files = [⟨superB num 1, (superB num 1).length⟩, ⟨manB num 1 epoch false, (manB num 1 epoch false).length⟩] := by rw [hd3, hd2, hd1]; rfl
  refine ⟨a3, by show d3.cap = _; rw [hd3, hd2, hd1], ⟨h1, h2⟩, rfl, he, ⟨0, 1, by omega, ?_, ?_, ?_, ?_, ?_⟩, by simp [ndsB], hm, fun n hn => absurd hn List.not_mem_nil, List.Pairwise.nil, fun k => rfl, Nat.le_refl _⟩
  ·show d3.now.length = 2
   rw [n4]
   unfold dirPut
   rw [del_none (fun p hp => by obtain rfl := List.mem_singleton.1 hp; exact hvm), len_ins]
   rfl
  ·show dirGet d3.now (vName num 1) = some 0
   rw [n4, get_put_other _ _ hvm]
   simp [dirGet]
  ·show dirGet d3.now (mName num) = some 1
   rw [n4, get_put_same]
  ·show (d3.fileAt 0).b = _
   unfold Dk.fileAt
   rw [fl]
   simp [ndsB]
  ·show (d3.fileAt 1).b.length = _
   unfold Dk.fileAt
   rw [fl]
   exact hmn
theorem two_mem {l : Dir} {a b : Nm} {f g : Nat} (hl : l.length = 2) (ha : dirGet l a = some f) (hb : dirGet l b = some g) (hab : a ≠ b) : l = [(a, f), (b, g)] ∨ l = [(b, g), (a, f)] := by
 have h1 := get_mem ha
 have h2 := get_mem hb
 match l, hl with
 | [x, y], _ =>
  rcases List.mem_cons.1 h1 with h1 | h1
  ·rcases List.mem_cons.1 h2 with h2 | h2
   ·rw [← h1] at h2
    exact absurd (congrArg Prod.fst h2).symm hab
   ·rcases List.mem_cons.1 h2 with h2 | h2
    ·exact .inl (by rw [h1, h2])
    ·exact absurd h2 List.not_mem_nil
  ·rcases List.mem_cons.1 h1 with h1 | h1
   ·rcases List.mem_cons.1 h2 with h2 | h2
    ·exact .inr (by rw [h1, h2])
    ·rcases List.mem_cons.1 h2 with h2 | h2
     ·rw [← h1] at h2
      exact absurd (congrArg Prod.fst h2).symm hab
     ·exact absurd h2 List.not_mem_nil
   ·exact absurd h1 List.not_mem_nil
theorem VI.lay {d : Dk} {v : Vl} {ns : List Nd} (h : VI d v ns) (e : Nat) (s : Bool) (he : e ≤ 2147483647) (hcap : v.size + 48 ≤ 1048576) : ∃ d', d.lay v.num v.gen e s = (0, d') ∧ VI d' { v with epoch := e, shut := s } ns := by
 obtain ⟨f, g, hfg, hl, hf, hg, hfb, hgb⟩ := h.now
 have hvm : v.file ≠ mName v.num := v_ne_m _ _ _
 have hvs : v.file ≠ sName v.num := v_ne_s _ _ _
 have hsm := s_ne_m v.num
 have hflen : (d.fileAt f).b.length = v.size := by rw [hfb, List.length_append, superB_len, h.size]
 have hltf : f < d.files.length := fileAt_lt (by intro e; rw [e] at hflen; have := h.size; simp at hflen; omega)
 have hltg : g < d.files.length := fileAt_lt (by intro e; rw [e] at hgb; simp at hgb)
 have htwo := two_mem hl hf hg hvm
 have hno : ∀ p ∈ d.now, p.1 ≠ sName v.num := fun p hp => by
  rcases htwo with e | e <;> rw [e] at hp <;> simp only [List.mem_cons, List.not_mem_nil, or_false] at hp <;> rcases hp with rfl | rfl
  ·exact hvs
  ·exact fun e => hsm e.symm
  ·exact fun e => hsm e.symm
  ·exact hvs
 have hin : ∀ p ∈ d.now, p.2 < d.files.length := fun p hp => by
  rcases htwo with e | e <;> rw [e] at hp <;> simp only [List.mem_cons, List.not_mem_nil, or_false] at hp <;> rcases hp with rfl | rfl <;> assumption
 have hsn : dirGet d.now (sName v.num) = none := by
  cases e : dirGet d.now (sName v.num) with
  | none => rfl
  | some x => exact absurd rfl (hno _ (get_mem e))
 have hu := used_two hl hf hg hvm
 rw [hflen, hgb] at hu
 have hml := manB_len v.num v.gen e s
 have f2 := fresh_new (d := d) (s := sName v.num) (b := manB v.num v.gen e s) h.armed (named_s h.num.2) hsn (by omega) (by omega) (by rw [hu, hml, h.cap]; omega) hin
 obtain ⟨N, hN⟩ : ∃ N, N = d.files.length := ⟨_, rfl⟩
 rw [← hN] at f2 hltf hltg
 obtain ⟨d2, hd2⟩ : ∃ d2 : Dk, d2 = { d with files := d.files ++ [⟨manB v.num v.gen e s, (manB v.num v.gen e s).length⟩], now := dirPut d.now (sName v.num) N, deeds := d.deeds ++ [⟨0, [], sName v.num, N⟩] } := ⟨_, rfl⟩
 rw [← hd2] at f2
 have a2 : d2.armed = -1 := by rw [hd2]; exact h.armed
 have g2 : d2.fnd (sName v.num) = (0, N) := by
  unfold Dk.fnd
  rw [if_neg (by rw [a2]; decide)]
  have : dirGet d2.now (sName v.num) = some N := by rw [hd2]; exact get_put_same _ _ _
  rw [this]
 obtain ⟨d3, hd3⟩ : ∃ d3 : Dk, d3 = { d2 with now := dirPut d.now (mName v.num) N, deeds := d2.deeds ++ [⟨1, sName v.num, mName v.num, N⟩] } := ⟨_, rfl⟩
 have e2 : dirDel d2.now (sName v.num) = d.now := by
  rw [hd2]
  show dirDel (dirPut d.now (sName v.num) N) (sName v.num) = _
  unfold dirPut
  rw [del_none hno, del_ins N hno]
 have r3 : d2.rename (sName v.num) (mName v.num) = (0, d3) := by
  unfold Dk.rename
  rw [g2, if_neg (by simp), if_neg (by rw [named_m h.num.2]; simp)]
  congr 1
  unfold Dk.turn
  rw [did_off (by show d2.armed = -1; exact a2), hd3]
  have : (⟨1, sName v.num, mName v.num, N⟩ : Deed).app d2.now = dirPut (dirDel d2.now (sName v.num)) (mName v.num) N := rfl
  rw [this, e2]
 have a3 : d3.armed = -1 := by rw [hd3]; exact a2
 have s3 : d3.syncNames = (0, { d3 with lasting := d3.now, deeds := [] }) := by
  unfold Dk.syncNames
  rw [if_neg (by rw [a3]; decide), did_off (by show d3.armed = -1; exact a3)]
 refine ⟨{ d3 with lasting := d3.now, deeds := [] }, ?_, ?_⟩
 ·have hr : rightV v.num v.gen e = true := by
   have h1 := h.num
   have h2 := h.gen
   unfold rightV
   simp
   omega
  have hh2 : hasName d (sName v.num) = false := by unfold hasName; rw [hsn]; rfl
  unfold Dk.lay
  rw [if_neg (by rw [hr]; simp), if_neg (by rw [hh2]; simp)]
  unfold Dk.layTo
  rw [f2, if_neg (by simp), r3, if_neg (by simp), s3]
 ·have n4 : d3.now = dirPut d.now (mName v.num) N := by rw [hd3]
  have fl : d3.files = d.files ++ [⟨manB v.num v.gen e s, (manB v.num v.gen e s).length⟩] := by rw [hd3, hd2]
  have hfe : d3.fileAt f = d.fileAt f := by
   unfold Dk.fileAt
   rw [fl, List.getElem?_append_left (by omega)]
  refine ⟨a3, by show d3.cap = _; rw [hd3, hd2]; exact h.cap, h.num, h.gen, he, ⟨f, N, by omega, ?_, ?_, ?_, ?_, ?_⟩, h.size, h.most, h.ok, h.srt, h.idx, h.len⟩
  ·show d3.now.length = 2
   rw [n4]
   unfold dirPut
   rw [len_ins]
   have hb1 : (v.file == mName v.num) = false := by simpa using hvm
   rcases htwo with e | e <;> rw [e] <;> simp [dirDel, hb1]
  ·show dirGet d3.now v.file = some f
   rw [n4, get_put_other _ _ hvm]
   exact hf
  ·show dirGet d3.now (mName v.num) = some N
   rw [n4, get_put_same]
  ·show (d3.fileAt f).b = _
   rw [hfe]
   exact hfb
  ·show (d3.fileAt N).b.length = _
   unfold Dk.fileAt
   rw [fl, hN]
   simp [hml]
structure Rv where
 num : Nat
 most : Nat
 epoch : Nat
 size : Nat
 shut : Bool
 l : List Ps
 d : List Nd
def Rv.of (v : Vl) (ns : List Nd) : Rv := ⟨v.num, v.most, v.epoch, v.size, v.shut, v.idx, ns⟩
def lastOf : List Nd → Nat → Option Nd
 | [], _ => none
 | n :: r, k => match lastOf r k with | some x => some x | none => if n.key = k then some n else none
theorem newest_last : ∀ (l : List Nd) (off k : Nat), (newest l off k).map (·.2) = lastOf l k
 | [], _, _ => rfl
 | n :: r, off, k => by
  have ih := newest_last r (off + (ndBytes n).length) k
  unfold newest lastOf
  cases e : newest r (off + (ndBytes n).length) k with
  | some x =>
   rw [e] at ih
   rw [← ih]
   rfl
  | none =>
   rw [e] at ih
   rw [← ih]
   show Option.map _ (if n.key = k then some (off, n) else none) = if n.key = k then some n else none
   split <;> rfl
def Rv.write (v : Rv) (n : Nd) : Nat × Rv :=
 if v.most < v.size + ndSize n.data.length ∨ (ixFind v.l n.key = none ∧ 4096 ≤ v.l.length) then (11, v) else
 (0, { v with l := ixPut v.l (posOf v.size n), d := v.d ++ [n], size := v.size + ndSize n.data.length })
def Rv.look (v : Rv) (key cookie : Nat) : Nat :=
 match lastOf v.d key with | none => 6 | some n => if n.gone = true then 7 else if n.cookie ≠ cookie then 9 else 0
def Rv.put (v : Rv) (n : Nd) : Nat × Rv :=
 if n.gone = true then (1, v) else if ndCheck n ≠ 0 then (ndCheck n, v) else if v.shut = true then (10, v) else
 match lastOf v.d n.key with | some o => (if o.gone = true then 7 else 8, v) | none => v.write n
def Rv.del (v : Rv) (key cookie : Nat) : Nat × Rv :=
 if v.look key cookie ≠ 0 then (v.look key cookie, v) else if v.shut = true then (10, v) else v.write ⟨key, cookie, true, []⟩
def Rv.set (v : Rv) (e : Int) (s : Bool) : Nat × Rv :=
 if e < 0 ∨ 2147483647 < e then (1, v) else if e < v.epoch then (13, v) else (0, { v with epoch := e.toNat, shut := s })
structure VAct where
 kind : Int
 m : Int
 n : Nd
def Rv.act (v : Rv) (a : VAct) : Nat × Rv :=
 if a.kind = 0 then v.put a.n else if a.kind = 1 then v.del a.n.key a.n.cookie else if a.kind = 2 then (v.look a.n.key a.n.cookie, v) else if a.kind = 3 then (0, v) else if a.kind = 4 then v.set a.m a.n.gone else (0, v)
def Vl.act (v : Vl) (d : Dk) (a : VAct) : Nat × Dk × Vl :=
 if a.kind = 0 then v.put d a.n else if a.kind = 1 then v.del d a.n.key a.n.cookie else if a.kind = 2 then ((v.get d a.n.key a.n.cookie).1, d, v) else if a.kind = 3 then (0, d, v) else if a.kind = 4 then v.set d a.m a.n.gone else (0, d, v)
theorem VI.write_r {d : Dk} {v : Vl} {ns : List Nd} {n : Nd} (h : VI d v ns) (hk : n.key < 18446744073709551616) (hck : n.cookie < 4294967296) (hc : ndCheck n = 0) (hcap : v.size + ndSize n.data.length + 24 ≤ 1048576) :
  ∃ d' v' ns', v.write d n = (((Rv.of v ns).write n).1, d', v') ∧ VI d' v' ns' ∧ Rv.of v' ns' = ((Rv.of v ns).write n).2 ∧ v'.size ≤ v.size + ndSize n.data.length ∧ ns'.length ≤ ns.length + 1 := by
 cases hr : v.room n.key (ndSize n.data.length) with
 | true =>
  obtain ⟨d', v', h1, h2, h3⟩ := h.write hk hck hc hr hcap
  have e : (Rv.of v ns).write n = (0, Rv.of v' (ns ++ [n])) := by
   unfold Rv.write
   have hr2 := hr
   unfold Vl.room at hr2
   simp only [Bool.and_eq_true, Bool.or_eq_true, decide_eq_true_eq, Option.isSome_iff_ne_none] at hr2
   rw [if_neg (by
    show ¬ (v.most < v.size + ndSize n.data.length ∨ (ixFind v.idx n.key = none ∧ 4096 ≤ v.idx.length))
    rintro (e | ⟨e1, e2⟩)
    ·omega
    ·rcases hr2.2 with e3 | e3
     ·exact e3 e1
     ·omega), h3]
   rfl
  refine ⟨d', v', ns ++ [n], ?_, h2, ?_, ?_, ?_⟩
  ·rw [e]; exact h1
  ·rw [e]
  ·rw [h3]; exact Nat.le_refl _
  ·simp
 | false =>
  have e : (Rv.of v ns).write n = (11, Rv.of v ns) := by
   unfold Rv.write
   unfold Vl.room at hr
   simp only [Bool.and_eq_false_iff, Bool.or_eq_false_iff, decide_eq_false_iff_not] at hr
   rw [if_pos (by
    show v.most < v.size + ndSize n.data.length ∨ (ixFind v.idx n.key = none ∧ 4096 ≤ v.idx.length)
    rcases hr with e | ⟨e1, e2⟩
    ·exact .inl (by omega)
    ·refine .inr ⟨?_, by omega⟩
     cases e3 : ixFind v.idx n.key with
     | none => rfl
     | some x => rw [e3] at e1; cases e1)]
  refine ⟨d, v, ns, ?_, h, ?_, by omega, by omega⟩
  ·rw [e]
   unfold Vl.write
   rw [if_neg (by rw [hc]; simp), if_pos hr]
  ·rw [e]
theorem VI.look {d : Dk} {v : Vl} {ns : List Nd} (h : VI d v ns) (key cookie : Nat) : (v.find key cookie).1 = (Rv.of v ns).look key cookie := by
 rw [(h.find key cookie).1]
 unfold Rv.look
 show _ = match lastOf ns key with | none => 6 | some n => if n.gone = true then 7 else if n.cookie ≠ cookie then 9 else 0
 rw [← newest_last ns 16 key]
 cases newest ns 16 key <;> rfl
theorem VI.gets {d : Dk} {v : Vl} {ns : List Nd} (h : VI d v ns) (key cookie : Nat) : (v.get d key cookie).1 = (Rv.of v ns).look key cookie ∧ ((Rv.of v ns).look key cookie = 0 → ∃ n, lastOf ns key = some n ∧ n.gone = false ∧ n.cookie = cookie ∧ v.get d key cookie = (0, false, n)) := by
 have hl := h.look key cookie
 by_cases h0 : (Rv.of v ns).look key cookie = 0
 ·have e : (Rv.of v ns).look key cookie = match lastOf ns key with | none => 6 | some n => if n.gone = true then 7 else if n.cookie ≠ cookie then 9 else 0 := rfl
  rw [h0] at e
  rw [← newest_last ns 16 key] at e
  cases hx : newest ns 16 key with
  | none => rw [hx] at e; cases e
  | some x =>
   obtain ⟨o, n⟩ := x
   rw [hx] at e
   simp only [Option.map_some] at e
   cases hg : n.gone with
   | true => rw [hg] at e; cases e
   | false =>
    by_cases hc : n.cookie = cookie
    ·subst hc
     have := h.got hx hg
     refine ⟨by rw [this, h0], fun _ => ⟨n, by rw [← newest_last ns 16 key, hx]; rfl, hg, rfl, this⟩⟩
    ·rw [hg, if_neg (by simp), if_pos hc] at e
     cases e
 ·refine ⟨?_, fun e => absurd e h0⟩
  unfold Vl.get
  rw [if_pos (by rw [hl]; exact h0)]
  exact hl
theorem VI.act {d : Dk} {v : Vl} {ns : List Nd} (h : VI d v ns) (a : VAct) (hk : a.n.key < 18446744073709551616) (hck : a.n.cookie < 4294967296) (hcap : v.size + ndSize a.n.data.length + 56 ≤ 1048576) :
  ∃ d' v' ns', v.act d a = (((Rv.of v ns).act a).1, d', v') ∧ VI d' v' ns' ∧ Rv.of v' ns' = ((Rv.of v ns).act a).2 ∧ v'.size ≤ v.size + ndSize a.n.data.length ∧ ns'.length ≤ ns.length + 1 := by
 have hstay : ∀ e, ∃ d' v' ns', ((e, d, v) : Nat × Dk × Vl) = (e, d', v') ∧ VI d' v' ns' ∧ Rv.of v' ns' = Rv.of v ns ∧ v'.size ≤ v.size + ndSize a.n.data.length ∧ ns'.length ≤ ns.length + 1 := fun e => ⟨d, v, ns, rfl, h, rfl, by omega, by omega⟩
 unfold Vl.act Rv.act
 split
 ·unfold Vl.put Rv.put
  split
  ·exact hstay 1
  split
  ·exact hstay _
  rename_i hc
  have hsh : (Rv.of v ns).shut = v.shut := rfl
  rw [hsh]
  split
  ·exact hstay 10
  ·have hx := h.idx a.n.key
   have hn := newest_last ns 16 a.n.key
   show ∃ d' v' ns', (match ixFind v.idx a.n.key with | some p => (if p.gone = true then 7 else 8, d, v) | none => v.write d a.n) = ((match lastOf ns a.n.key with | some o => (if o.gone = true then 7 else 8, Rv.of v ns) | none => (Rv.of v ns).write a.n).1, d', v') ∧ VI d' v' ns' ∧ Rv.of v' ns' = (match lastOf ns a.n.key with | some o => (if o.gone = true then 7 else 8, Rv.of v ns) | none => (Rv.of v ns).write a.n).2 ∧ _
   rw [hx, ← hn]
   cases newest ns 16 a.n.key with
   | none => exact h.write_r hk hck (by omega) (by omega)
   | some x => exact hstay _
 split
 ·unfold Vl.del Rv.del
  rw [h.look]
  split
  ·exact hstay _
  have hsh : (Rv.of v ns).shut = v.shut := rfl
  rw [hsh]
  split
  ·exact hstay 10
  ·obtain ⟨d', v', ns', h1, h2, h3, h4, h5⟩ := h.write_r (n := ⟨a.n.key, a.n.cookie, true, []⟩) hk hck rfl (by
    show v.size + ndSize 0 + 24 ≤ 1048576
    have : ndSize 0 = 32 := rfl
    omega)
   refine ⟨d', v', ns', h1, h2, h3, Nat.le_trans h4 ?_, h5⟩
   have : ndSize 0 = 32 := rfl
   have h9 : 32 ≤ ndSize a.n.data.length := by unfold ndSize; omega
   show v.size + ndSize 0 ≤ _
   omega
 split
 ·rw [(h.gets _ _).1]
  exact hstay _
 split
 ·exact hstay 0
 split
 ·unfold Vl.set Rv.set
  split
  ·exact hstay 1
  have he : (Rv.of v ns).epoch = v.epoch := rfl
  rw [he]
  split
  ·exact hstay 13
  ·rename_i h1 h2
   have h9 : 32 ≤ ndSize a.n.data.length := by unfold ndSize; omega
   obtain ⟨d', e1, e2⟩ := h.lay a.m.toNat a.n.gone (by omega) (by omega)
   rw [e1, if_neg (by simp)]
   exact ⟨d', _, ns, rfl, e2, rfl, by show v.size ≤ _; omega, by omega⟩
 ·exact hstay 0
def posL : Nat → List Nd → List Ps
 | _, [] => []
 | off, n :: r => posOf off n :: posL (off + ndSize n.data.length) r
def putAll (l ps : List Ps) : List Ps := ps.foldl ixPut l
def ixOf (ns : List Nd) : List Ps := putAll [] (posL 16 ns)
theorem posL_len : ∀ (off : Nat) (ns : List Nd), (posL off ns).length = ns.length
 | _, [] => rfl
 | off, n :: r => by
  show (posL _ r).length + 1 = r.length + 1
  rw [posL_len]
theorem posL_append : ∀ (off : Nat) (a b : List Nd), posL off (a ++ b) = posL off a ++ posL (off + (ndsB a).length) b
 | off, [], b => by simp [posL, ndsB]
 | off, n :: r, b => by
  show posOf off n :: posL _ (r ++ b) = posOf off n :: (posL _ r ++ _)
  rw [posL_append]
  congr 3
  show _ = off + (ndBytes n ++ ndsB r).length
  rw [List.length_append, ndBytes_len]
  omega
theorem putAll_snoc (l ps : List Ps) (p : Ps) : putAll l (ps ++ [p]) = ixPut (putAll l ps) p := by
 unfold putAll
 rw [List.foldl_append]
 rfl
theorem putAll_append (l a b : List Ps) : putAll l (a ++ b) = putAll (putAll l a) b := List.foldl_append
theorem putAll_srt : ∀ {ps l : List Ps}, IxS l → IxS (putAll l ps)
 | [], _, h => h
 | _ :: r, _, h => putAll_srt (ps := r) h.put
theorem putAll_find : ∀ (ns : List Nd) (off : Nat) (l : List Ps) (k : Nat), IxS l → ixFind (putAll l (posL off ns)) k = match newest ns off k with | some x => some (posOf x.1 x.2) | none => ixFind l k
 | [], _, _, _, _ => rfl
 | n :: r, off, l, k, h => by
  show ixFind (putAll (ixPut l (posOf off n)) (posL (off + ndSize n.data.length) r)) k = _
  rw [putAll_find r _ _ k h.put, ixFind_put l _ k h]
  rw [show newest (n :: r) off k = (match newest r (off + (ndBytes n).length) k with | some x => some x | none => if n.key = k then some (off, n) else none) from rfl]
  rw [ndBytes_len]
  cases newest r (off + ndSize n.data.length) k with
  | some x => rfl
  | none =>
   show (if n.key = k then some (posOf off n) else ixFind l k) = (match (if n.key = k then some (off, n) else none) with | some x => some (posOf x.1 x.2) | none => ixFind l k)
   by_cases e : n.key = k
   ·rw [if_pos e, if_pos e]
   ·rw [if_neg e, if_neg e]
theorem ixS_ext : ∀ {a b : List Ps}, IxS a → IxS b → (∀ k, ixFind a k = ixFind b k) → a = b
 | [], [], _, _, _ => rfl
 | [], y :: r, _, _, h => by
  have := h y.key
  simp [ixFind] at this
 | x :: r, [], _, _, h => by
  have := h x.key
  simp [ixFind] at this
 | x :: r, y :: s, ha, hb, h => by
  have pa := List.pairwise_cons.1 ha
  have pb := List.pairwise_cons.1 hb
  have hx := h x.key
  have hy := h y.key
  have exy : x = y := by
   simp only [ixFind, if_true] at hx hy
   by_cases e : y.key = x.key
   ·rw [if_pos e] at hx
    exact Option.some.inj hx
   ·rw [if_neg e] at hx
    rw [if_neg (fun q => e q.symm)] at hy
    have h1 := mem_of_ixFind hx.symm
    have h2 := mem_of_ixFind hy
    have h3 := pb.1 x h1.1
    have h4 := pa.1 y h2.1
    omega
  subst exy
  congr 1
  refine ixS_ext pa.2 pb.2 fun k => ?_
  have hk := h k
  unfold ixFind at hk
  by_cases e : x.key = k
  ·have n1 : ixFind r k = none := by
    cases e1 : ixFind r k with
    | none => rfl
    | some q =>
     have h1 := mem_of_ixFind e1
     have := pa.1 q h1.1
     omega
   have n2 : ixFind s k = none := by
    cases e1 : ixFind s k with
    | none => rfl
    | some q =>
     have h1 := mem_of_ixFind e1
     have := pb.1 q h1.1
     omega
   rw [n1, n2]
  ·rw [if_neg e, if_neg e] at hk
   exact hk
theorem VI.ixOf {d : Dk} {v : Vl} {ns : List Nd} (h : VI d v ns) : ixOf ns = v.idx := by
 refine ixS_ext (putAll_srt List.Pairwise.nil) h.srt fun k => ?_
 rw [h.idx k]
 show ixFind (putAll [] (posL 16 ns)) k = _
 rw [putAll_find ns 16 [] k List.Pairwise.nil]
 cases newest ns 16 k <;> rfl
theorem ixPut_grows {l : List Ps} {p : Ps} (h : IxS l) : l.length ≤ (ixPut l p).length := by
 rw [ixPut_len h]
 split <;> omega
theorem putAll_grows : ∀ {ps l : List Ps}, IxS l → l.length ≤ (putAll l ps).length
 | [], _, _ => Nat.le_refl _
 | p :: r, l, h => Nat.le_trans (ixPut_grows (p := p) h) (putAll_grows (ps := r) h.put)
def Dk.tidyL (o : Nm → Bool) : List Nm → Bool → Dk → Nat × Dk
 | [], m, d => if m = true then d.syncNames else (0, d)
 | s :: r, m, d => if o s = true then (if (d.remove s).1 ≠ 0 then d.remove s else Dk.tidyL o r true (d.remove s).2) else Dk.tidyL o r m d
theorem tidyL_none {o : Nm → Bool} {d : Dk} : ∀ {l : List Nm}, (∀ s ∈ l, o s = false) → Dk.tidyL o l false d = (0, d)
 | [], _ => rfl
 | s :: r, h => by
  unfold Dk.tidyL
  rw [if_neg (by rw [h s List.mem_cons_self]; simp)]
  exact tidyL_none fun x hx => h x (List.mem_cons_of_mem _ hx)
def Dk.whole (d : Dk) (s : Nm) : Nat × List UInt8 := if (d.size s).1 ≠ 0 then ((d.size s).1, []) else d.read s 0 (d.size s).2
theorem whole_at {d : Dk} {s : Nm} {f : Nat} (ha : d.armed ≠ 0) (h : dirGet d.now s = some f) : d.whole s = (0, (d.fileAt f).b) := by
 have hf : d.fnd s = (0, f) := by unfold Dk.fnd; rw [if_neg ha, h]
 have hs : d.size s = (0, (d.fileAt f).b.length) := by unfold Dk.size; rw [hf]; simp
 unfold Dk.whole
 rw [hs, if_neg (by simp)]
 unfold Dk.read
 rw [hf, if_neg (by simp), if_neg (by omega), if_neg (by simp)]
 simp
theorem whole_none {d : Dk} {s : Nm} (ha : d.armed ≠ 0) (h : dirGet d.now s = none) : d.whole s = (6, []) := by
 have hf : d.fnd s = (6, 0) := by unfold Dk.fnd; rw [if_neg ha, h]
 have hs : d.size s = (6, 0) := by unfold Dk.size; rw [hf]; simp
 unfold Dk.whole
 rw [hs, if_pos (by simp)]
structure Opens (d : Dk) (v : Vl) (ns : List Nd) (t : List UInt8) : Prop where
 armed : d.armed ≠ 0
 num : 1 ≤ v.num ∧ v.num ≤ 65535
 gen : 1 ≤ v.gen ∧ v.gen ≤ 2147483647
 epoch : v.epoch ≤ 2147483647
 man : ∃ g, dirGet d.now (mName v.num) = some g ∧ (d.fileAt g).b = manB v.num v.gen v.epoch v.shut
 data : ∃ f, dirGet d.now v.file = some f ∧ (d.fileAt f).b = superB v.num v.gen ++ (ndsB ns ++ t)
 tail : t = [] ∨ (ndGet t).1 ≠ 0
 ok : ∀ n ∈ ns, NdOk n
 size : v.size = 16 + (ndsB ns).length
def Dk.mendT (d : Dk) (v : Vl) (t : List UInt8) : Dk := if t = [] then d else (d.cut v.file v.size).2
structure VD (d : Dk) (v : Vl) (ns : List Nd) : Prop where
 vi : VI d v ns
 man : ∃ g, dirGet d.now (mName v.num) = some g ∧ (d.fileAt g).b = manB v.num 1 v.epoch v.shut
 last : d.lasting = d.now
 deeds : d.deeds = []
 sync : ∀ x ∈ d.files, x.lasts = x.b.length
theorem VD.opens {d : Dk} {v : Vl} {ns : List Nd} (h : VD d v ns) : Opens d v ns [] := by
 obtain ⟨f, g, hfg, hl, hf, hg, hfb, hgb⟩ := h.vi.now
 have e := h.vi.gen
 refine ⟨by rw [h.vi.armed]; decide, h.vi.num, by omega, h.vi.epoch, ?_, ⟨f, hf, ?_⟩, .inl rfl, h.vi.ok, h.vi.size⟩
 ·rw [e]; exact h.man
 ·rw [e, hfb, List.append_nil]
theorem settle_same {f : DFile} (h : f.lasts = f.b.length) (p : DPick) : f.settle p = f := by
 obtain ⟨b, n⟩ := f
 simp only at h
 subst h
 have hk : keepN ⟨b, b.length⟩ p = 0 := by unfold keepN; simp
 unfold DFile.settle
 rw [hk]
 simp
theorem crash_same {d : Dk} (ha : d.armed = -1) (hl : d.lasting = d.now) (hd : d.deeds = []) (hs : ∀ x ∈ d.files, x.lasts = x.b.length) (p : DPicks) : d.crash p = d := by
 have h1 : d.lastDir p = d.now := by unfold Dk.lastDir; rw [hd, hl, List.take_nil]; rfl
 have h2 : settleAll d.now p d.files = d.files := by
  unfold settleAll
  refine List.ext_getElem (by simp) fun i h3 h4 => ?_
  simp only [List.getElem_mapIdx]
  split
  ·exact settle_same (hs _ (List.getElem_mem _)) _
  ·rfl
 unfold Dk.crash
 rw [h1, h2]
 obtain ⟨c, n, l, dd, f, a⟩ := d
 simp only at ha hl hd
 subst ha hl hd
 rfl
theorem VD.crash {d : Dk} {v : Vl} {ns : List Nd} (h : VD d v ns) (p : DPicks) : d.crash p = d := crash_same h.vi.armed h.last h.deeds h.sync p
theorem setF_twice (d : Dk) (f : Nat) (x y : DFile) : (d.setF f x).setF f y = d.setF f y := by
 unfold Dk.setF
 simp [List.set_set]
theorem app_sync {d : Dk} {s : Nm} {b : List UInt8} (ha : d.armed = -1) (h : (d.append s b).1 = 0) (hf : (d.fnd s).2 < d.files.length) : ((d.append s b).2.sync s) = (0, d.setF (d.fnd s).2 ⟨(d.fileAt (d.fnd s).2).b ++ b, ((d.fileAt (d.fnd s).2).b ++ b).length⟩) := by
 obtain ⟨f, hfe⟩ : ∃ f, f = (d.fnd s).2 := ⟨_, rfl⟩
 have h0 : (d.fnd s).1 = 0 := by
  apply Classical.byContradiction
  intro e
  unfold Dk.append at h
  rw [if_pos e] at h
  exact e h
 rw [← hfe] at hf ⊢
 have hgt := (fnd_get (d := d) (s := s) (by omega)).2
 rw [← hfe] at hgt
 have hap : (d.append s b).2 = d.setF f ⟨(d.fileAt f).b ++ b, (d.fileAt f).lasts⟩ := by
  unfold Dk.append at h ⊢
  rw [if_neg (by omega), ← hfe] at h ⊢
  split at h
  ·cases h
  ·split at h
   ·cases h
   ·rename_i h1 h2
    rw [if_neg h1, if_neg h2]
    exact did_off (by show d.armed = -1; exact ha)
 rw [hap]
 have hfn : (d.setF f ⟨(d.fileAt f).b ++ b, (d.fileAt f).lasts⟩).fnd s = (0, f) := by
  unfold Dk.fnd
  rw [if_neg (by show ¬ d.armed = 0; rw [ha]; decide)]
  show (match dirGet d.now s with | none => _ | some i => _) = _
  rw [hgt]
 unfold Dk.sync
 rw [hfn, if_neg (by simp), fileAt_set hf, setF_twice, did_off (by show d.armed = -1; exact ha)]
theorem set_mem_sync {l : List DFile} {i : Nat} {x : DFile} (h : ∀ y ∈ l, y.lasts = y.b.length) (hx : x.lasts = x.b.length) : ∀ y ∈ l.set i x, y.lasts = y.b.length := fun y hy => by
 rcases List.mem_or_eq_of_mem_set hy with h1 | rfl
 ·exact h y h1
 ·exact hx
theorem VD.write {d : Dk} {v : Vl} {ns : List Nd} (h : VD d v ns) (n : Nd) : (v.write d n).2.1.lasting = (v.write d n).2.1.now ∧ (v.write d n).2.1.deeds = [] ∧ (∀ x ∈ (v.write d n).2.1.files, x.lasts = x.b.length) ∧ ∃ g, dirGet (v.write d n).2.1.now (mName v.num) = some g ∧ ((v.write d n).2.1.fileAt g).b = manB v.num 1 v.epoch v.shut := by
 obtain ⟨g, hg, hgb⟩ := h.man
 obtain ⟨f, g', hfg, hl, hf, hg', hfb, hgb'⟩ := h.vi.now
 obtain rfl : g = g' := Option.some.inj (hg.symm.trans hg')
 have hstay := fun (e : Nat) => (show (((e, d, v) : Nat × Dk × Vl)).2.1.lasting = (((e, d, v) : Nat × Dk × Vl)).2.1.now ∧ (((e, d, v) : Nat × Dk × Vl)).2.1.deeds = [] ∧ (∀ x ∈ (((e, d, v) : Nat × Dk × Vl)).2.1.files, x.lasts = x.b.length) ∧ ∃ g, dirGet (((e, d, v) : Nat × Dk × Vl)).2.1.now (mName v.num) = some g ∧ ((((e, d, v) : Nat × Dk × Vl)).2.1.fileAt g).b = manB v.num 1 v.epoch v.shut from ⟨h.last, h.deeds, h.sync, g, hg, hgb⟩)
 unfold Vl.write
 split
 ·exact hstay _
 split
 ·exact hstay _
 have hfn : d.fnd v.file = (0, f) := by unfold Dk.fnd; rw [if_neg (by rw [h.vi.armed]; decide), hf]
 have hlt : f < d.files.length := fileAt_lt (by rw [hfb]; intro e; have := congrArg List.length e; rw [List.length_append, superB_len] at this; simp at this)
 split
 ·rename_i h1
  have : (d.append v.file (ndBytes n)).2 = d := by
   unfold Dk.append at h1 ⊢
   split
   ·rfl
   split
   ·rfl
   split
   ·rfl
   ·rename_i a b c
    rw [if_neg a, if_neg b, if_neg c] at h1
    exact absurd rfl h1
  show (d.append v.file (ndBytes n)).2.lasting = _ ∧ _
  rw [this]
  exact hstay 0
 ·rename_i h1
  have hs := app_sync (s := v.file) (b := ndBytes n) h.vi.armed (by omega) (by rw [hfn]; exact hlt)
  rw [hs, hfn]
  refine ⟨h.last, h.deeds, set_mem_sync h.sync rfl, g, hg, ?_⟩
  show ((d.setF f _).fileAt g).b = _
  rw [fileAt_ne hfg]
  exact hgb
theorem lay_last_eq {d : Dk} {v : Vl} {ns : List Nd} (h : VI d v ns) (e : Nat) (s : Bool) (he : e ≤ 2147483647) (hcap : v.size + 48 ≤ 1048576) :
  d.lay v.num v.gen e s = (0, { d with files := d.files ++ [⟨manB v.num v.gen e s, (manB v.num v.gen e s).length⟩], now := dirPut d.now (mName v.num) d.files.length, lasting := dirPut d.now (mName v.num) d.files.length, deeds := [] }) := by
 obtain ⟨f, g, hfg, hl, hf, hg, hfb, hgb⟩ := h.now
 have hvm : v.file ≠ mName v.num := v_ne_m _ _ _
 have hvs : v.file ≠ sName v.num := v_ne_s _ _ _
 have hsm := s_ne_m v.num
 have hflen : (d.fileAt f).b.length = v.size := by rw [hfb, List.length_append, superB_len, h.size]
 have hltf : f < d.files.length := fileAt_lt (by intro e; rw [e] at hflen; have := h.size; simp at hflen; omega)
 have hltg : g < d.files.length := fileAt_lt (by intro e; rw [e] at hgb; simp at hgb)
 have htwo := two_mem hl hf hg hvm
 have hno : ∀ p ∈ d.now, p.1 ≠ sName v.num := fun p hp => by
  rcases htwo with e | e <;> rw [e] at hp <;> simp only [List.mem_cons, List.not_mem_nil, or_false] at hp <;> rcases hp with rfl | rfl
  ·exact hvs
  ·exact fun e => hsm e.symm
  ·exact fun e => hsm e.symm
  ·exact hvs
 have hin : ∀ p ∈ d.now, p.2 < d.files.length := fun p hp => by
  rcases htwo with e | e <;> rw [e] at hp <;> simp only [List.mem_cons, List.not_mem_nil, or_false] at hp <;> rcases hp with rfl | rfl <;> assumption
 have hsn : dirGet d.now (sName v.num) = none := by
  cases e : dirGet d.now (sName v.num) with
  | none => rfl
  | some x => exact absurd rfl (hno _ (get_mem e))
 have hu := used_two hl hf hg hvm
 rw [hflen, hgb] at hu
 have hml := manB_len v.num v.gen e s
 have f2 := fresh_new (d := d) (s := sName v.num) (b := manB v.num v.gen e s) h.armed (named_s h.num.2) hsn (by omega) (by omega) (by rw [hu, hml, h.cap]; omega) hin
 obtain ⟨N, hN⟩ : ∃ N, N = d.files.length := ⟨_, rfl⟩
 rw [← hN] at f2 hltf hltg ⊢
 obtain ⟨d2, hd2⟩ : ∃ d2 : Dk, d2 = { d with files := d.files ++ [⟨manB v.num v.gen e s, (manB v.num v.gen e s).length⟩], now := dirPut d.now (sName v.num) N, deeds := d.deeds ++ [⟨0, [], sName v.num, N⟩] } := ⟨_, rfl⟩
 rw [← hd2] at f2
 have a2 : d2.armed = -1 := by rw [hd2]; exact h.armed
 have g2 : d2.fnd (sName v.num) = (0, N) := by
  unfold Dk.fnd
  rw [if_neg (by rw [a2]; decide)]
  have : dirGet d2.now (sName v.num) = some N := by rw [hd2]; exact get_put_same _ _ _
  rw [this]
 have e2 : dirDel d2.now (sName v.num) = d.now := by
  rw [hd2]
  show dirDel (dirPut d.now (sName v.num) N) (sName v.num) = _
  unfold dirPut
  rw [del_none hno, del_ins N hno]
 have r3 : d2.rename (sName v.num) (mName v.num) = (0, { d2 with now := dirPut d.now (mName v.num) N, deeds := d2.deeds ++ [⟨1, sName v.num, mName v.num, N⟩] }) := by
  unfold Dk.rename
  rw [g2, if_neg (by simp), if_neg (by rw [named_m h.num.2]; simp)]
  congr 1
  unfold Dk.turn
  rw [did_off (by show d2.armed = -1; exact a2)]
  have : (⟨1, sName v.num, mName v.num, N⟩ : Deed).app d2.now = dirPut (dirDel d2.now (sName v.num)) (mName v.num) N := rfl
  rw [this, e2]
 have hr : rightV v.num v.gen e = true := by
  have h1 := h.num
  have h2 := h.gen
  unfold rightV
  simp
  omega
 have hh2 : hasName d (sName v.num) = false := by unfold hasName; rw [hsn]; rfl
 unfold Dk.lay
 rw [if_neg (by rw [hr]; simp), if_neg (by rw [hh2]; simp)]
 unfold Dk.layTo
 rw [f2, if_neg (by simp), r3, if_neg (by simp)]
 unfold Dk.syncNames
 rw [if_neg (by show ¬ d2.armed = 0; rw [a2]; decide), did_off (by show d2.armed = -1; exact a2), hd2]
theorem VD.lay {d : Dk} {v : Vl} {ns : List Nd} (h : VD d v ns) (e : Nat) (s : Bool) (he : e ≤ 2147483647) (hcap : v.size + 48 ≤ 1048576) : ∃ d', d.lay v.num v.gen e s = (0, d') ∧ VD d' { v with epoch := e, shut := s } ns := by
 obtain ⟨d', h1, h2⟩ := h.vi.lay e s he hcap
 have h3 := lay_last_eq h.vi e s he hcap
 refine ⟨d', h1, ?_⟩
 obtain rfl : d' = _ := congrArg Prod.snd (h1.symm.trans h3)
 refine ⟨h2, ⟨d.files.length, get_put_same _ _ _, ?_⟩, rfl, rfl, ?_⟩
 ·unfold Dk.fileAt
  simp [h.vi.gen]
 ·intro x hx
  rcases List.mem_append.1 hx with hx | hx
  ·exact h.sync x hx
  ·obtain rfl := List.mem_singleton.1 hx
   rfl
theorem VD.act {d : Dk} {v : Vl} {ns : List Nd} (h : VD d v ns) (a : VAct) (hcap : v.size + ndSize a.n.data.length + 56 ≤ 1048576) {e : Nat} {d' : Dk} {v' : Vl} {ns' : List Nd} (ha : v.act d a = (e, d', v')) (hi : VI d' v' ns') (hnum : v'.num = v.num) : VD d' v' ns' := by
 have hstay : ∀ k, ((k, d, v) : Nat × Dk × Vl) = (e, d', v') → VD d' v' ns' := fun k q => by
  cases q
  exact ⟨hi, h.man, h.last, h.deeds, h.sync⟩
 have hwr : ∀ n, v.write d n = (e, d', v') → VD d' v' ns' := fun n q => by
  obtain ⟨h1, h2, h3, g, h4, h5⟩ := h.write n
  have hv : (v.write d n).2.2.epoch = v.epoch ∧ (v.write d n).2.2.shut = v.shut := by
   unfold Vl.write
   split
   ·exact ⟨rfl, rfl⟩
   split
   ·exact ⟨rfl, rfl⟩
   split <;> exact ⟨rfl, rfl⟩
  rw [q] at h1 h2 h3 h4 h5 hv
  refine ⟨hi, ⟨g, ?_, ?_⟩, h1, h2, h3⟩
  ·rw [hnum]; exact h4
  ·rw [hnum, hv.1, hv.2]; exact h5
 unfold Vl.act at ha
 split at ha
 ·unfold Vl.put at ha
  split at ha
  ·exact hstay _ ha
  split at ha
  ·exact hstay _ ha
  split at ha
  ·exact hstay _ ha
  split at ha
  ·exact hstay _ ha
  ·exact hwr _ ha
 split at ha
 ·unfold Vl.del at ha
  split at ha
  ·exact hstay _ ha
  split at ha
  ·exact hstay _ ha
  ·exact hwr _ ha
 split at ha
 ·exact hstay _ ha
 split at ha
 ·exact hstay _ ha
 split at ha
 ·unfold Vl.set at ha
  split at ha
  ·exact hstay _ ha
  split at ha
  ·exact hstay _ ha
  rename_i h1 h2
  have h9 : 32 ≤ ndSize a.n.data.length := by unfold ndSize; omega
  obtain ⟨d2, e1, e2⟩ := h.lay a.m.toNat a.n.gone (by omega) (by omega)
  rw [e1, if_neg (by simp)] at ha
  cases ha
  exact ⟨hi, e2.man, e2.last, e2.deeds, e2.sync⟩
 ·exact hstay _ ha
theorem VD.make {num most epoch : Nat} (h1 : 1 ≤ num) (h2 : num ≤ 65535) (hm : 16 ≤ most) (he : epoch ≤ 2147483647) :
  ∃ d, (Dk.new 1048576).make num most epoch = (0, d, ⟨num, 1, epoch, false, most, 16, []⟩) ∧ VD d ⟨num, 1, epoch, false, most, 16, []⟩ [] := by
 have hs := superB_len num 1
 have hmn := manB_len num 1 epoch false
 have hvm := v_ne_m num 1 num
 have hvs := v_ne_s num 1 num
 have hsm := s_ne_m num
 have f1 := fresh_new (d := Dk.new 1048576) (s := vName num 1) (b := superB num 1) rfl (named_v h2 (by omega)) rfl (by show 0 < 64; omega) (by omega) (by show 0 + (superB num 1).length ≤ 1048576; omega) (fun p hp => absurd hp List.not_mem_nil)
 obtain ⟨d1, hd1⟩ : ∃ d1 : Dk, d1 = ⟨1048576, [(vName num 1, 0)], [], [⟨0, [], vName num 1, 0⟩], [⟨superB num 1, (superB num 1).length⟩], -1⟩ := ⟨_, rfl⟩
 have f1' : (Dk.new 1048576).fresh (vName num 1) (superB num 1) = (0, d1) := by rw [f1, hd1]; rfl
 have n1 : dirGet d1.now (sName num) = none := by
  rw [hd1]
  have : (vName num 1 == sName num) = false := by simpa using hvs
  simp [dirGet, this]
 have u1 : d1.used = 16 := by rw [hd1]; simp [Dk.used, Dk.fileAt, hs]
 have f2 := fresh_new (d := d1) (s := sName num) (b := manB num 1 epoch false) (by rw [hd1]) (named_s h2) n1 (by rw [hd1]; show 1 < 64; omega) (by omega) (by rw [u1, hmn, hd1]; show 16 + 24 ≤ 1048576; omega) (fun p hp => by rw [hd1] at hp ⊢; obtain rfl := List.mem_singleton.1 hp; show 0 < 1; omega)
 obtain ⟨d2, hd2⟩ : ∃ d2 : Dk, d2 = { d1 with files := d1.files ++ [⟨manB num 1 epoch false, (manB num 1 epoch false).length⟩], now := dirPut d1.now (sName num) d1.files.length, deeds := d1.deeds ++ [⟨0, [], sName num, d1.files.length⟩] } := ⟨_, rfl⟩
 rw [← hd2] at f2
 have l1 : d1.files.length = 1 := by rw [hd1]; rfl
 have a2 : d2.armed = -1 := by rw [hd2, hd1]
 have g2 : d2.fnd (sName num) = (0, 1) := by
  unfold Dk.fnd
  rw [if_neg (by rw [a2]; decide)]
  have : dirGet d2.now (sName num) = some 1 := by rw [hd2, l1]; exact get_put_same _ _ _
  rw [this]
 obtain ⟨d3, hd3⟩ : ∃ d3 : Dk, d3 = { d2 with now := dirPut [(vName num 1, 0)] (mName num) 1, deeds := d2.deeds ++ [⟨1, sName num, mName num, 1⟩] } := ⟨_, rfl⟩
 have e1 : d1.now = [(vName num 1, 0)] := by rw [hd1]
 have hno : ∀ p ∈ d1.now, p.1 ≠ sName num := get_none n1
 have e2 : dirDel d2.now (sName num) = [(vName num 1, 0)] := by
  rw [hd2, l1]
  show dirDel (dirPut d1.now (sName num) 1) (sName num) = _
  unfold dirPut
  rw [del_none hno, del_ins 1 hno, e1]
 have r3 : d2.rename (sName num) (mName num) = (0, d3) := by
  unfold Dk.rename
  rw [g2, if_neg (by simp), if_neg (by rw [named_m h2]; simp)]
  congr 1
  unfold Dk.turn
  rw [did_off (by show d2.armed = -1; exact a2), hd3]
  have : (⟨1, sName num, mName num, 1⟩ : Deed).app d2.now = dirPut (dirDel d2.now (sName num)) (mName num) 1 := rfl
  rw [this, e2]
 have a3 : d3.armed = -1 := by rw [hd3]; exact a2
 have s3 : d3.syncNames = (0, { d3 with lasting := d3.now, deeds := [] }) := by
  unfold Dk.syncNames
  rw [if_neg (by rw [a3]; decide), did_off (by show d3.armed = -1; exact a3)]
 refine ⟨{ d3 with lasting := d3.now, deeds := [] }, ?_, ?_⟩
 ·unfold Dk.make
  have hh : hasName (Dk.new 1048576) (mName num) = false := rfl
  have hr : rightV num 1 epoch = true := by unfold rightV; simp; omega
  have hh2 : hasName d1 (sName num) = false := by unfold hasName; rw [n1]; rfl
  have hl : d1.lay num 1 epoch false = (0, { d3 with lasting := d3.now, deeds := [] }) := by
   unfold Dk.lay
   rw [if_neg (by rw [hr]; simp), if_neg (by rw [hh2]; simp)]
   unfold Dk.layTo
   rw [f2, if_neg (by simp), r3, if_neg (by simp), s3]
  rw [if_neg (by rw [hh]; simp), f1', if_neg (by simp), hl]
 ·have n4 : d3.now = dirPut [(vName num 1, 0)] (mName num) 1 := by rw [hd3]
  have fl : d3.files = [⟨superB num 1, (superB num 1).length⟩, ⟨manB num 1 epoch false, (manB num 1 epoch false).length⟩] := by rw [hd3, hd2, hd1]; rfl
  refine ⟨?_, ⟨1, ?_, ?_⟩, rfl, rfl, ?_⟩
  rotate_left
  ·show dirGet d3.now (mName num) = some 1
   rw [n4, get_put_same]
  ·show (d3.fileAt 1).b = _
   unfold Dk.fileAt
   rw [fl]
   rfl
  ·intro x hx
   rw [show ({ d3 with lasting := d3.now, deeds := [] } : Dk).files = d3.files from rfl, fl] at hx
   simp only [List.mem_cons, List.not_mem_nil, or_false] at hx
   rcases hx with rfl | rfl <;> rfl
  refine ⟨a3, by show d3.cap = _; rw [hd3, hd2, hd1], ⟨h1, h2⟩, rfl, he, ⟨0, 1, by omega, ?_, ?_, ?_, ?_, ?_⟩, by simp [ndsB], hm, fun n hn => absurd hn List.not_mem_nil, List.Pairwise.nil, fun k => rfl, Nat.le_refl _⟩
  ·show d3.now.length = 2
   rw [n4]
   unfold dirPut
   rw [del_none (fun p hp => by obtain rfl := List.mem_singleton.1 hp; exact hvm), len_ins]
   rfl
  ·show dirGet d3.now (vName num 1) = some 0
   rw [n4, get_put_other _ _ hvm]
   simp [dirGet]
  ·show dirGet d3.now (mName num) = some 1
   rw [n4, get_put_same]
  ·show (d3.fileAt 0).b = _
   unfold Dk.fileAt
   rw [fl]
   simp [ndsB]
  ·show (d3.fileAt 1).b.length = _
   unfold Dk.fileAt
   rw [fl]
   exact hmn
inductive Shape (v : Vl) : Nat → Vl → Prop
 | stay (c : Nat) : Shape v c v
 | more (n : Nd) (h : ∀ q, ixFind v.idx n.key = some q → q.gone = true → n.gone = true) : Shape v 0 { v with idx := ixPut v.idx (posOf v.size n), size := v.size + ndSize n.data.length }
 | set (e : Nat) (s : Bool) (h : v.epoch ≤ e) : Shape v 0 { v with epoch := e, shut := s }
theorem goneN_put : ∀ {l : List Ps} {p : Ps}, (∀ q, ixFind l p.key = some q → q.gone = true → p.gone = true) → goneN l ≤ goneN (ixPut l p)
 | [], p, _ => Nat.zero_le _
 | q :: r, p, h => by
  unfold ixPut
  split
  ·rename_i h1
   have ih := goneN_put (l := r) (p := p) (fun x hx hg => h x (by unfold ixFind; rw [if_neg (by omega)]; exact hx) hg)
   show goneN (q :: r) ≤ goneN (q :: ixPut r p)
   unfold goneN at ih ⊢
   rw [List.countP_cons, List.countP_cons]
   omega
  split
  ·rename_i h1 h2
   have hq := h q (by unfold ixFind; rw [if_pos h2])
   unfold goneN
   rw [List.countP_cons, List.countP_cons]
   cases hg : q.gone with
   | false => simp
   | true => rw [hq hg]; exact Nat.le_refl _
  ·unfold goneN
   rw [List.countP_cons (a := p)]
   omega
theorem Shape.grows {v v' : Vl} {c : Nat} (h : Shape v c v') (hs : IxS v.idx) : v.size ≤ v'.size ∧ (∃ q, v'.size = v.size + 8 * q) ∧ v.idx.length ≤ v'.idx.length ∧ goneN v.idx ≤ goneN v'.idx ∧ v.epoch ≤ v'.epoch ∧ (c ≠ 0 → v' = v) ∧ v'.num = v.num ∧ v'.gen = v.gen ∧ v'.most = v.most := by
 cases h with
 | stay c => exact ⟨Nat.le_refl _, ⟨0, rfl⟩, Nat.le_refl _, Nat.le_refl _, Nat.le_refl _, fun _ => rfl, rfl, rfl, rfl⟩
 | more n hg =>
  have h8 := ndSize_8 n.data.length
  refine ⟨Nat.le_add_right _ _, ⟨ndSize n.data.length / 8, by show v.size + _ = _; omega⟩, ?_, goneN_put hg, Nat.le_refl _, fun h => absurd rfl h, rfl, rfl, rfl⟩
  show v.idx.length ≤ (ixPut v.idx (posOf v.size n)).length
  rw [ixPut_len hs]
  split <;> omega
 | set e s h => exact ⟨Nat.le_refl _, ⟨0, rfl⟩, Nat.le_refl _, Nat.le_refl _, h, fun h => absurd rfl h, rfl, rfl, rfl⟩
end Go.Proofs.YtmkhacgdejkimaaGreatDoor
