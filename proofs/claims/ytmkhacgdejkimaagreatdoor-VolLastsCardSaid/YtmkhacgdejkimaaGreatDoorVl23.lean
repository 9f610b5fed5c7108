import Derived.Test.YtmkhacgdejkimaaGreatDoorVl21
namespace Go.Proofs.YtmkhacgdejkimaaGreatDoor
open Go.RowKit
def canN (key : Nat) (g : Bool) : Nd := ⟨key, key % 3, g, if g = true then [] else [UInt8.ofNat key]⟩
def Can (n : Nd) : Prop := n = canN n.key n.gone
theorem can_len (key : Nat) (g : Bool) : (canN key g).data.length ≤ 1 := by cases g <;> simp [canN]
theorem can_size (key : Nat) (g : Bool) : ndSize (canN key g).data.length ≤ 40 := by
  have := can_len key g
  unfold ndSize padN
  omega
theorem can_check (key : Nat) (g : Bool) : ndCheck (canN key g) = 0 := by cases g <;> simp [ndCheck, canN]
def gOf (v : Vl) (k : Nat) : Option Bool := (ixFind v.idx k).map fun p => p.gone
def joinG : Option Bool → Bool → Bool
  | none, g => g
  | some o, g => o || g
structure CanV (d : Dk) (v : Vl) (num m : Nat) : Prop where
  vi : ∃ ns, VI d v ns ∧ (∀ n ∈ ns, Can n) ∧ ns.length ≤ m
  num : v.num = num
  most : v.most = 1048576
  size : v.size ≤ 16 + 40 * m
theorem CanV.more {d : Dk} {v : Vl} {num m m' : Nat} (h : CanV d v num m) (hm : m ≤ m') : CanV d v num m' := by
  obtain ⟨⟨ns, h1, h2, h3⟩, h4, h5, h6⟩ := h
  exact ⟨⟨ns, h1, h2, by omega⟩, h4, h5, by omega⟩
theorem CanV.pos {d : Dk} {v : Vl} {num m : Nat} (h : CanV d v num m) (hm : m ≤ 1000) : ∀ p ∈ v.idx, p.len ≤ 4096 ∧ p.off ≤ 1000000000 := by
  obtain ⟨ns, h1, h2, h3⟩ := h.vi
  intro p hp
  have h1' := ixFind_mem h1.srt hp
  rw [h1.idx] at h1'
  cases hx : newest ns 16 p.key with
  | none => rw [hx] at h1'; cases h1'
  | some x =>
    obtain ⟨o, n⟩ := x
    rw [hx] at h1'
    simp only [Option.map_some, Option.some.injEq] at h1'
    obtain ⟨hmem, _, a, b, hab, ho⟩ := newest_some hx
    have hs := h1.size
    have hsz := h.size
    have hl := (h1.ok n hmem).2.2.1
    rw [hab, ndsB_append, List.length_append] at hs
    rw [← h1']
    exact ⟨hl, by show o ≤ _; omega⟩
theorem CanV.lay {d : Dk} {v : Vl} {num m : Nat} (h : CanV d v num m) (hm : m ≤ 1000) (key : Nat) (g : Bool) (hk : key < 18446744073709551616) :
    ∃ d' v', v.lay d (canN key g) = (0, d', v') ∧ CanV d' v' num (m + 1) ∧ (v.get d (canN key g).key (canN key g).cookie).2.1 = false ∧ ∀ k, gOf v' k = if k = key then some (joinG (gOf v k) g) else gOf v k := by
  obtain ⟨ns, h1, h2, h3⟩ := h.vi
  have hsz := h.size
  have hcs := can_size key g
  have hcl := can_len key g
  have hix := h1.idx key
  have hgt : (v.get d (canN key g).key (canN key g).cookie).2.1 = false := by
    have := h1.gets (canN key g).key (canN key g).cookie
    by_cases h0 : (Rv.of v ns).look (canN key g).key (canN key g).cookie = 0
    · obtain ⟨_, _, _, _, e⟩ := this.2 h0
      rw [e]
    · have h9 := h1.look (canN key g).key (canN key g).cookie
      unfold Vl.get
      rw [if_pos (by rw [h9]; exact h0)]
  -- a needle written
  have hwrite : ∃ d' v', v.write d (canN key g) = (0, d', v') ∧ CanV d' v' num (m + 1) ∧ ∀ k, gOf v' k = if k = key then some g else gOf v k := by
    have hroom : v.room key (ndSize (canN key g).data.length) = true := by
      unfold Vl.room
      have := h1.len
      simp only [Bool.and_eq_true, Bool.or_eq_true, decide_eq_true_eq]
      rw [h.most]
      exact ⟨by omega, .inr (by omega)⟩
    obtain ⟨d', v', e1, e2, e3⟩ := h1.write (n := canN key g) hk (by show key % 3 < _; omega) (can_check key g) hroom (by omega)
    refine ⟨d', v', e1, ⟨⟨ns ++ [canN key g], e2, fun n hn => ?_, by simp; omega⟩, by rw [e3]; exact h.num, by rw [e3]; exact h.most, by rw [e3]; show v.size + _ ≤ _; omega⟩, fun k => ?_⟩
    · rcases List.mem_append.1 hn with hn | hn
      · exact h2 n hn
      · obtain rfl : n = canN key g := by simpa using hn
        rfl
    · unfold gOf
      rw [e3]
      show (ixFind (ixPut v.idx (posOf v.size (canN key g))) k).map _ = _
      rw [ixFind_put _ _ _ h1.srt]
      have ek : (posOf v.size (canN key g)).key = key := rfl
      rw [ek]
      by_cases e : key = k
      · rw [if_pos e, if_pos e.symm]; rfl
      · rw [if_neg e, if_neg (fun e2 => e e2.symm)]
  unfold Vl.lay
  rw [if_neg (by rw [can_check]; simp)]
  have ekey : (canN key g).key = key := rfl
  rw [ekey]
  cases hx : newest ns 16 key with
  | none =>
    rw [hx] at hix
    rw [hix]
    obtain ⟨d', v', e1, e2, e3⟩ := hwrite
    refine ⟨d', v', e1, e2, hgt, fun k => ?_⟩
    rw [e3]
    by_cases e : k = key
    · subst e
      rw [if_pos rfl, if_pos rfl]
      unfold gOf
      rw [hix]
      rfl
    · rw [if_neg e, if_neg e]
  | some x =>
    obtain ⟨o, n⟩ := x
    obtain ⟨hmem, hnk, _⟩ := newest_some hx
    have hcan := h2 n hmem
    rw [hx] at hix
    simp only [Option.map_some] at hix
    rw [hix]
    have hgk : gOf v key = some n.gone := by unfold gOf; rw [hix]; rfl
    have hck : (posOf o n).cookie = (canN key g).cookie := by
      show n.cookie = key % 3
      rw [hcan]
      show n.key % 3 = _
      rw [hnk]
    have hsame : CanV d v num (m + 1) := h.more (by omega)
    simp only
    rw [if_neg (by rw [hck]; simp)]
    have hpg : (posOf o n).gone = n.gone := rfl
    rw [hpg]
    cases hng : n.gone with
    | true =>
      rw [if_pos rfl]
      refine ⟨d, v, rfl, hsame, hgt, fun k => ?_⟩
      by_cases e : k = key
      · subst e
        rw [if_pos rfl, hgk, hng]
        cases g <;> rfl
      · rw [if_neg e]
    | false =>
      rw [if_neg (by simp)]
      have hcg : (canN key g).gone = g := rfl
      rw [hcg]
      cases g with
      | true =>
        rw [if_pos rfl]
        obtain ⟨d', v', e1, e2, e3⟩ := hwrite
        refine ⟨d', v', e1, e2, hgt, fun k => ?_⟩
        rw [e3]
        by_cases e : k = key
        · subst e
          rw [if_pos rfl, if_pos rfl, hgk]
          cases n.gone <;> rfl
        · rw [if_neg e, if_neg e]
      | false =>
        rw [if_neg (by simp)]
        have hgot := h1.got hx hng
        have hnc : n.cookie = (canN key false).cookie := hck
        rw [hnc] at hgot
        have hgot' : v.get d key (canN key false).cookie = (0, false, n) := hgot
        rw [hgot', if_neg (by simp)]
        have hnn : n = canN key false := by
          rw [hcan, hng, hnk]
        rw [if_pos hnn]
        refine ⟨d, v, rfl, hsame, rfl, fun k => ?_⟩
        by_cases e : k = key
        · subst e
          rw [if_pos rfl, hgk, hng]
          rfl
        · rw [if_neg e]
theorem CanV.load {d : Dk} {v : Vl} {num m : Nat} (h : CanV d v num m) (hm : m ≤ 64) : (v.load d 0 64).l = v.idx.map (fun p => canN p.key p.gone) ∧ (v.load d 0 64).more = false ∧ v.idx.length ≤ 64 ∧ ∀ p ∈ v.idx, p.key < 18446744073709551616 := by
  obtain ⟨ns, h1, h2, h3⟩ := h.vi
  have hil : v.idx.length ≤ 64 := by have := h1.len; omega
  have hk65 : v.keys 0 (((64 : Nat) : Int) + 1) = v.idx := keys_zero v (by omega) (by show v.idx.length ≤ 65; omega)
  have hone : ∀ p ∈ v.idx, takeOne v d p = some (canN p.key p.gone) ∧ p.key < 18446744073709551616 := by
    intro p hp
    have h1' := ixFind_mem h1.srt hp
    rw [h1.idx] at h1'
    cases hx : newest ns 16 p.key with
    | none => rw [hx] at h1'; cases h1'
    | some x =>
      obtain ⟨o, n⟩ := x
      rw [hx] at h1'
      simp only [Option.map_some, Option.some.injEq] at h1'
      obtain ⟨hmem, hnk, _⟩ := newest_some hx
      have hcan := h2 n hmem
      have hgn : p.gone = n.gone := by rw [← h1']; rfl
      have hck : p.cookie = n.cookie := by rw [← h1']; rfl
      have hc3 : n.cookie = p.key % 3 := by
        rw [hcan]
        show n.key % 3 = _
        rw [hnk]
      refine ⟨?_, by have := (h1.ok n hmem).1; omega⟩
      unfold takeOne
      rw [hgn]
      cases hng : n.gone with
      | true =>
        rw [if_pos rfl, hck, hc3]
        rfl
      | false =>
        rw [if_neg (by simp)]
        have hgot := h1.got hx hng
        rw [hck, hgot, if_neg (by simp)]
        congr 1
        rw [hcan, hng, hnk]
  refine ⟨?_, ?_, hil, fun p hp => (hone p hp).2⟩
  · show ((v.keys 0 (((64 : Nat) : Int) + 1)).take 64).filterMap (takeOne v d) = _
    rw [hk65, List.take_of_length_le hil]
    have : ∀ l : List Ps, (∀ p ∈ l, takeOne v d p = some (canN p.key p.gone)) → l.filterMap (takeOne v d) = l.map fun p => canN p.key p.gone := by
      intro l
      induction l with
      | nil => intro _; rfl
      | cons a r ih =>
        intro ha
        rw [List.filterMap_cons, ha a List.mem_cons_self]
        simp only [List.map_cons]
        rw [ih fun q hq => ha q (List.mem_cons_of_mem _ hq)]
    exact this _ fun p hp => (hone p hp).1
  · show decide (64 < (v.keys 0 (((64 : Nat) : Int) + 1)).length) = false
    rw [hk65]
    simp
    omega
def ndAt (ns : List Nd) (p : Ps) : Nd := (lastOf ns p.key).getD ⟨0, 0, false, []⟩
theorem VI.pos {d : Dk} {v : Vl} {ns : List Nd} (h : VI d v ns) {p : Ps} (hp : p ∈ v.idx) : ∃ o n, newest ns 16 p.key = some (o, n) ∧ lastOf ns p.key = some n ∧ n ∈ ns ∧ n.key = p.key ∧ p = posOf o n ∧ ndAt ns p = n := by
  have h1 := ixFind_mem h.srt hp
  rw [h.idx] at h1
  cases hx : newest ns 16 p.key with
  | none => rw [hx] at h1; cases h1
  | some x =>
    obtain ⟨o, n⟩ := x
    rw [hx] at h1
    simp only [Option.map_some, Option.some.injEq] at h1
    obtain ⟨hmem, hnk, _⟩ := newest_some hx
    have hl : lastOf ns p.key = some n := by rw [← newest_last ns 16 p.key, hx]; rfl
    exact ⟨o, n, rfl, hl, hmem, hnk, h1.symm, by unfold ndAt; rw [hl]; rfl⟩
theorem VI.takeOne {d : Dk} {v : Vl} {ns : List Nd} (h : VI d v ns) {p : Ps} (hp : p ∈ v.idx) : takeOne v d p = some (ndAt ns p) := by
  obtain ⟨o, n, hx, hl, hmem, hnk, hpo, hnd⟩ := h.pos hp
  have hgn : p.gone = n.gone := by rw [hpo]; rfl
  have hck : p.cookie = n.cookie := by rw [hpo]; rfl
  rw [hnd]
  unfold Go.Proofs.YtmkhacgdejkimaaGreatDoor.takeOne
  rw [hgn]
  cases hng : n.gone with
  | true =>
    rw [if_pos rfl, hck, ← hnk]
    have := (h.ok n hmem)
    obtain ⟨k, c, g, dt⟩ := n
    simp only at hng
    subst hng
    have hd := this.2.2.2 rfl
    simp only at hd
    subst hd
    rfl
  | false =>
    rw [if_neg (by simp)]
    have hgot := h.got hx hng
    rw [hck, hgot, if_neg (by simp)]
theorem filterMap_all {α β : Type} {f : α → Option β} {g : α → β} : ∀ {l : List α}, (∀ p ∈ l, f p = some (g p)) → l.filterMap f = l.map g
  | [], _ => rfl
  | a :: r, h => by
    rw [List.filterMap_cons, h a List.mem_cons_self]
    simp only [List.map_cons]
    rw [filterMap_all fun q hq => h q (List.mem_cons_of_mem _ hq)]
def Rv.load (v : Rv) (fr n : Nat) : Ld :=
  ⟨((v.l.drop (ixAt v.l fr)).take n).map (ndAt v.d), (match v.l[ixAt v.l fr + n]? with | some p => p.key | none => 0), decide (ixAt v.l fr + n < v.l.length), 0⟩
theorem VI.load {d : Dk} {v : Vl} {ns : List Nd} (h : VI d v ns) (fr n : Nat) : v.load d fr n = (Rv.of v ns).load fr n := by
  obtain ⟨X, hX⟩ : ∃ X, X = ixAt v.idx fr := ⟨_, rfl⟩
  have hks : v.keys fr ((n : Int) + 1) = (v.idx.drop X).take (n + 1) := by
    unfold Vl.keys
    rw [if_neg (by omega), hX]
    congr 1
  have hone : ∀ p ∈ (v.idx.drop X).take n, Go.Proofs.YtmkhacgdejkimaaGreatDoor.takeOne v d p = some (ndAt ns p) := fun p hp => h.takeOne (List.mem_of_mem_drop (List.mem_of_mem_take hp))
  have htt : ((v.idx.drop X).take (n + 1)).take n = (v.idx.drop X).take n := by rw [List.take_take]; congr 1; omega
  unfold Vl.load Rv.load
  rw [hks, htt]
  show _ = (⟨((v.idx.drop (ixAt v.idx fr)).take n).map (ndAt ns), (match v.idx[ixAt v.idx fr + n]? with | some p => p.key | none => 0), decide (ixAt v.idx fr + n < v.idx.length), 0⟩ : Ld)
  rw [← hX]
  have h1 : ((v.idx.drop X).take (n + 1))[n]? = v.idx[X + n]? := by rw [List.getElem?_take, if_pos (by omega), List.getElem?_drop]
  have h2 : decide (n < ((v.idx.drop X).take (n + 1)).length) = decide (X + n < v.idx.length) := by
    rw [List.length_take, List.length_drop]
    congr 1
    apply propext
    constructor <;> intro _ <;> omega
  have h3 : ((v.idx.drop X).take n).countP (fun p => (Go.Proofs.YtmkhacgdejkimaaGreatDoor.takeOne v d p).isNone) = 0 := by
    rw [List.countP_eq_zero]
    intro p hp
    rw [hone p hp]
    simp
  rw [h1, h2, h3, filterMap_all hone]
  rfl
theorem VI.len_le {d : Dk} {v : Vl} {ns : List Nd} (h : VI d v ns) {p : Ps} (hp : p ∈ v.idx) : p.len ≤ 4096 ∧ p.off ≤ v.size := by
  obtain ⟨o, n, hx, hl, hmem, hnk, hpo, hnd⟩ := h.pos hp
  obtain ⟨_, _, a, b, hab, ho⟩ := newest_some hx
  have hd := (h.ok n hmem).2.2.1
  refine ⟨by rw [hpo]; exact hd, ?_⟩
  rw [hpo, h.size]
  show o ≤ _
  rw [hab, ndsB_append, List.length_append, ho]
  omega
theorem lastOf_snoc (l : List Nd) (n : Nd) (k : Nat) : lastOf (l ++ [n]) k = if n.key = k then some n else lastOf l k := by
  have h := newest_snoc l n 16 k
  rw [← newest_last (l ++ [n]) 16 k, h, ← newest_last l 16 k]
  split <;> rfl
def Rv.acts (v : Rv) : List VAct → Rv
  | [] => v
  | a :: r => Rv.acts (v.act a).2 r
def Pre (nb na : List Nd) : Prop := ∀ k x, lastOf nb k = some x → ∃ y, lastOf na k = some y ∧ x.cookie = y.cookie ∧ (x = y ∨ (x.gone = false ∧ y.gone = true))
theorem Pre.refl (l : List Nd) : Pre l l := fun _ x h => ⟨x, h, rfl, .inl rfl⟩
theorem Pre.write {nb : List Nd} {v : Rv} {n : Nd} (h : Pre nb v.d) (hn : ∀ y, lastOf v.d n.key = some y → y.gone = false ∧ y.cookie = n.cookie ∧ n.gone = true) : Pre nb (v.write n).2.d := by
  unfold Rv.write
  split
  · exact h
  · intro k x hx
    obtain ⟨y, h1, h2, h3⟩ := h k x hx
    show ∃ y, lastOf (v.d ++ [n]) k = some y ∧ _
    rw [lastOf_snoc]
    by_cases hk : n.key = k
    · rw [if_pos hk]
      have := hn y (by rw [hk]; exact h1)
      refine ⟨n, rfl, h2.trans this.2.1, .inr ⟨?_, this.2.2⟩⟩
      rcases h3 with e | e
      · rw [e]; exact this.1
      · exact e.1
    · rw [if_neg hk]
      exact ⟨y, h1, h2, h3⟩
theorem Pre.act {nb : List Nd} {v : Rv} (h : Pre nb v.d) (a : VAct) : Pre nb (v.act a).2.d := by
  unfold Rv.act
  split
  · unfold Rv.put
    split
    · exact h
    split
    · exact h
    split
    · exact h
    cases hl : lastOf v.d a.n.key with
    | none => exact Pre.write h (fun y e => by rw [hl] at e; cases e)
    | some o => exact h
  split
  · unfold Rv.del
    split
    · exact h
    rename_i hlk
    split
    · exact h
    · refine Pre.write h (fun y e => ?_)
      have e' : lastOf v.d a.n.key = some y := e
      unfold Rv.look at hlk
      rw [e'] at hlk
      simp only at hlk
      cases hg : y.gone with
      | true => rw [hg] at hlk; simp at hlk
      | false =>
        refine ⟨rfl, ?_, rfl⟩
        apply Classical.byContradiction
        intro hc
        rw [hg, if_neg (by simp), if_pos hc] at hlk
        simp at hlk
  split
  · exact h
  split
  · exact h
  split
  · unfold Rv.set
    split
    · exact h
    split
    · exact h
    · exact h
  · exact h
theorem Pre.acts : ∀ (l : List VAct) {nb : List Nd} {v : Rv}, Pre nb v.d → Pre nb (v.acts l).d
  | [], _, _, h => h
  | a :: r, _, _, h => Pre.acts r (Pre.act h a)
theorem VI.told {d : Dk} {v : Vl} {ns : List Nd} (h : VI d v ns) (key cookie : Nat) : (v.get d key cookie).2.1 = false := by
  by_cases h0 : (Rv.of v ns).look key cookie = 0
  · obtain ⟨n, _, _, _, e⟩ := (h.gets key cookie).2 h0
    rw [e]
  · rw [vg_find (by rw [h.look]; exact h0)]
end Go.Proofs.YtmkhacgdejkimaaGreatDoor
