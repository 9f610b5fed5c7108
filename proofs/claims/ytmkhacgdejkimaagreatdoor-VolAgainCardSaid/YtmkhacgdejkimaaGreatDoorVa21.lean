/- Joined texts: ShipLay, Ref09a, Ref08, Ref09w, Ref09l, Ref09d, Ref09p, Ref09o, Ref09q, ShipAll. -/
import Derived.Test.YtmkhacgdejkimaaGreatDoorVa20
import Derived.Test.YtmkhacgdejkimaaGreatDoorVaOpenNd
/- Package ship: Lay. -/
namespace Go.Proofs.YtmkhacgdejkimaaGreatDoor
open Go.RowKit
theorem Reads.keepsZ {F : Nat → Prop} {w w' : World} {sz : Nat} {a : Option Addr} {n c : Nat} {xs : List Value} (hz : 0 < sz) (h : Reads w sz (.slice a n c) n xs) (hk : Keeps F w w') (ha : ∀ ad, a = some ad → 0 < n → ad.block < w.heap.size ∧ ¬ F ad.block) : Reads w' sz (.slice a n c) n xs := by
  by_cases hn : n = 0
  · subst hn
    obtain ⟨h1, h2⟩ := h
    have hx : xs = [] := List.eq_nil_of_length_eq_zero (by simpa using h1)
    subst hx
    refine ⟨h1, ?_⟩
    rcases h2 with h2 | ⟨ad, c', e, hm, _⟩
    · exact .inl h2
    · exact .inr ⟨ad, c', e, hm, fun j u hu => by simp at hu⟩
  · obtain ⟨b, o, c', e, hb, hm, hc⟩ := reads_at h (by omega) hz
    obtain ⟨rfl, -, rfl⟩ := sl_inj e
    refine ⟨h.1, .inr ⟨⟨b, o, none⟩, c, rfl, hm, fun j u hu => ?_⟩⟩
    have e1 : (⟨b, o, none⟩ : Addr).add j = ⟨b, o + j, none⟩ := by
      unfold Addr.add
      by_cases hj : j = 0 <;> simp [hj]
    rw [e1, hk.cell hb (ha _ rfl (by omega)).2]
    exact hc j u hu
theorem Reads.keepsN {F : Nat → Prop} {w w' : World} {sz : Nat} {a : Option Addr} {n c : Nat} {xs : List Value} (hz : 0 < sz) (h : Reads w sz (.slice a n c) n xs) (hk : Keeps F w w') (ha : ∀ ad, a = some ad → ad.block < w.heap.size ∧ ¬ F ad.block) : Reads w' sz (.slice a n c) n xs := h.keepsZ hz hk fun ad e _ => ha ad e
structure NdsAt (w : World) (P : Nat → Prop) (a : Option Addr) (n c : Nat) (xs : List NdE) : Prop where
  len : xs.length = n
  row : Reads w 4 (.slice a n c) n (xs.flatMap NdE.cs)
  blk : ∀ ad, a = some ad → P ad.block ∧ ad.block < w.heap.size
  ins : ∀ x ∈ xs, NdArg w x ∧ ∀ ad, x.a = some ad → 0 < x.n.data.length → P ad.block ∧ ad.block < w.heap.size
theorem NdsAt.kp {P : Nat → Prop} {w w' : World} {a : Option Addr} {n c : Nat} {xs : List NdE} (h : NdsAt w P a n c xs) (hk : KP P w w') : NdsAt w' P a n c xs :=
  ⟨h.len, h.row.keepsN (by omega) hk (fun ad e => ⟨(h.blk ad e).2, fun e2 => e2 (h.blk ad e).1⟩), fun ad e => ⟨(h.blk ad e).1, Nat.lt_of_lt_of_le (h.blk ad e).2 hk.size⟩,
    fun x hx => ⟨⟨(h.ins x hx).1.key, (h.ins x hx).1.cookie, (h.ins x hx).1.data.keepsZ (by omega) hk (fun ad e hl => ⟨((h.ins x hx).2 ad e hl).2, fun e2 => e2 ((h.ins x hx).2 ad e hl).1⟩)⟩, fun ad e hl => ⟨((h.ins x hx).2 ad e hl).1, Nat.lt_of_lt_of_le ((h.ins x hx).2 ad e hl).2 hk.size⟩⟩⟩
theorem NdRow.at' {T : TypeId} {P : Nat → Prop} {w : World} {B : Nat} {a : Option Addr} {n c : Nat} {xs : List NdE} (h : NdRow T w B (.slice a n c) xs) (hn : xs.length = n) (hP : ∀ k, B ≤ k → k < w.heap.size → P k) (hx : ∀ x ∈ xs, x.n.key < 18446744073709551616 ∧ x.n.cookie < 4294967296) : NdsAt w P a n c xs := by
  have hr := h.row
  rw [hn] at hr
  refine ⟨hn, reads_of_owns hr, fun ad e => ?_, fun x hxm => ⟨⟨(hx x hxm).1, (hx x hxm).2, (h.ins x hxm).1⟩, fun ad e _ => ⟨hP _ ((h.ins x hxm).2 ad e).1 ((h.ins x hxm).2 ad e).2, ((h.ins x hxm).2 ad e).2⟩⟩⟩
  have := hr.lt ad.block (by rw [e]; rfl)
  exact ⟨hP _ this.1 this.2, this.2⟩
end Go.Proofs.YtmkhacgdejkimaaGreatDoor

/- References 01, 03, 08, 09: Pad, Check, Find, Newest. -/
namespace Go.Proofs.YtmkhacgdejkimaaGreatDoor
open Go.RowKit
theorem ps_cells {w : World} {v : Value} {n : Nat} {l : List Ps} (h : Reads w 5 v n (l.flatMap psC)) {k : Nat} {x : Ps} (hx : l[k]? = some x) (hn : 0 < n) :
    ∃ b o c, v = .slice (some ⟨b, o, none⟩) n c ∧ b < w.heap.size ∧ w.cell? ⟨b, o + k * 5, none⟩ = some (.int .u64 x.key) ∧ w.cell? ⟨b, o + k * 5 + 1, none⟩ = some (.int .i64 x.off) ∧ w.cell? ⟨b, o + k * 5 + 2, none⟩ = some (.int .i64 x.len) ∧ w.cell? ⟨b, o + k * 5 + 3, none⟩ = some (.int .u32 x.cookie) ∧ w.cell? ⟨b, o + k * 5 + 4, none⟩ = some (.bool x.gone) := by
  obtain ⟨b, o, c, e, h1, _, h2⟩ := reads_at h hn (by omega)
  have key : ∀ j u, j < 5 → (psC x)[j]? = some u → w.cell? ⟨b, o + (k * 5 + j), none⟩ = some u := fun j u hj hu => h2 (k * 5 + j) u (by rw [getElem?_flatMap_row psC 5 psC_len l k j hj, hx]; exact hu)
  exact ⟨b, o, c, e, h1, key 0 _ (by omega) rfl, key 1 _ (by omega) rfl, key 2 _ (by omega) rfl, key 3 _ (by omega) rfl, key 4 _ (by omega) rfl⟩
end Go.Proofs.YtmkhacgdejkimaaGreatDoor

/- Reference 08: Put. (Written by wip/genref08.py.) -/
namespace Go.Proofs.YtmkhacgdejkimaaGreatDoor
open Go.RowKit
theorem p05info : (Tryz.prog.info? 127).map (fun i => (i.zero, i.size, i.bytes)) = some (some (.agg #[.int .u64 0, .int .i64 0, .int .i64 0, .int .u32 0, .bool false]), 5, 32) := by kernel_rfl
end Go.Proofs.YtmkhacgdejkimaaGreatDoor

/- Reference 09: a volume in memory; Write. (Written by wip/genref09w.py.) -/
namespace Go.Proofs.YtmkhacgdejkimaaGreatDoor
open Go.RowKit
def rvV (v : Rv) (al : Option Addr) (cl : Nat) (ad : Option Addr) (cd : Nat) : Value := .agg #[.int .i64 v.num, .int .i64 v.most, .int .i64 v.epoch, .int .i64 v.size, .bool v.shut, .slice al v.l.length cl, .slice ad v.d.length cd]
structure RvAt (w : World) (P : Nat → Prop) (v : Rv) (al : Option Addr) (cl : Nat) (ad : Option Addr) (cd : Nat) (xs : List NdE) : Prop where
  rl : Reads w 5 (.slice al v.l.length cl) v.l.length (v.l.flatMap psC)
  bl : ∀ a, al = some a → P a.block ∧ a.block < w.heap.size
  rd : NdsAt w P ad v.d.length cd xs
  eq : xs.map NdE.n = v.d
def RvIn (w : World) (P : Nat → Prop) (val : Value) (v : Rv) : Prop := ∃ al cl ad cd xs, val = rvV v al cl ad cd ∧ RvAt w P v al cl ad cd xs
theorem RvAt.kp {P : Nat → Prop} {w w' : World} {v : Rv} {al ad : Option Addr} {cl cd : Nat} {xs : List NdE} (h : RvAt w P v al cl ad cd xs) (hk : KP P w w') : RvAt w' P v al cl ad cd xs :=
  ⟨h.rl.keepsN (by omega) hk (fun a e => ⟨(h.bl a e).2, fun e2 => e2 (h.bl a e).1⟩), fun a e => ⟨(h.bl a e).1, Nat.lt_of_lt_of_le (h.bl a e).2 hk.size⟩, h.rd.kp hk, h.eq⟩
theorem RvIn.kp {P : Nat → Prop} {w w' : World} {val : Value} {v : Rv} (h : RvIn w P val v) (hk : KP P w w') : RvIn w' P val v := by
  obtain ⟨al, cl, ad, cd, xs, e, h⟩ := h
  exact ⟨al, cl, ad, cd, xs, e, h.kp hk⟩
theorem NdsAt.wide {P Q : Nat → Prop} {w : World} {a : Option Addr} {n c : Nat} {xs : List NdE} (h : NdsAt w P a n c xs) (hq : ∀ k, P k → k < w.heap.size → Q k) : NdsAt w Q a n c xs :=
  ⟨h.len, h.row, fun ad e => ⟨hq _ (h.blk ad e).1 (h.blk ad e).2, (h.blk ad e).2⟩, fun x hx => ⟨(h.ins x hx).1, fun ad e hl => ⟨hq _ ((h.ins x hx).2 ad e hl).1 ((h.ins x hx).2 ad e hl).2, ((h.ins x hx).2 ad e hl).2⟩⟩⟩
theorem RvIn.wide {P Q : Nat → Prop} {w : World} {val : Value} {v : Rv} (h : RvIn w P val v) (hq : ∀ k, P k → k < w.heap.size → Q k) : RvIn w Q val v := by
  obtain ⟨al, cl, ad, cd, xs, e, h⟩ := h
  exact ⟨al, cl, ad, cd, xs, e, h.rl, fun a ea => ⟨hq _ (h.bl a ea).1 (h.bl a ea).2, (h.bl a ea).2⟩, h.rd.wide hq, h.eq⟩
def PNew (P : Nat → Prop) (w : World) (k : Nat) : Prop := P k ∨ w.heap.size ≤ k
def NdP (w : World) (P : Nat → Prop) (x : NdE) : Prop := NdArg w x ∧ ∀ ad, x.a = some ad → 0 < x.n.data.length → P ad.block ∧ ad.block < w.heap.size
theorem NdP.kp {P : Nat → Prop} {w w' : World} {x : NdE} (h : NdP w P x) (hk : KP P w w') : NdP w' P x :=
  ⟨⟨h.1.key, h.1.cookie, h.1.data.keepsZ (by omega) hk (fun ad e hl => ⟨(h.2 ad e hl).2, fun e2 => e2 (h.2 ad e hl).1⟩)⟩, fun ad e hl => ⟨(h.2 ad e hl).1, Nat.lt_of_lt_of_le (h.2 ad e hl).2 hk.size⟩⟩
theorem NdP.below {P : Nat → Prop} {w w' : World} {x : NdE} (h : NdP w P x) (hb : Below w.heap.size w w') : NdP w' P x := h.kp (KP.of hb)
theorem NdP.wide {P Q : Nat → Prop} {w : World} {x : NdE} (h : NdP w P x) (hq : ∀ k, P k → k < w.heap.size → Q k) : NdP w Q x :=
  ⟨h.1, fun ad e hl => ⟨hq _ (h.2 ad e hl).1 (h.2 ad e hl).2, (h.2 ad e hl).2⟩⟩
theorem blk_drew {w : World} {k : Nat} {x : Obj} (h : w.heap[k]? = some x) : w.drew.heap[k]? = some x := h
end Go.Proofs.YtmkhacgdejkimaaGreatDoor

/- Reference 09: Look, Set. -/
namespace Go.Proofs.YtmkhacgdejkimaaGreatDoor
open Go.RowKit
end Go.Proofs.YtmkhacgdejkimaaGreatDoor

/- Reference 09: Del. -/
namespace Go.Proofs.YtmkhacgdejkimaaGreatDoor
open Go.RowKit
def POld (P : Nat → Prop) (w : World) (k : Nat) : Prop := P k ∧ k < w.heap.size
theorem RvAt.wide {P Q : Nat → Prop} {w : World} {v : Rv} {al ad : Option Addr} {cl cd : Nat} {xs : List NdE} (h : RvAt w P v al cl ad cd xs) (hq : ∀ k, P k → k < w.heap.size → Q k) : RvAt w Q v al cl ad cd xs :=
  ⟨h.rl, fun a ea => ⟨hq _ (h.bl a ea).1 (h.bl a ea).2, (h.bl a ea).2⟩, h.rd.wide hq, h.eq⟩
theorem RvAt.old {P : Nat → Prop} {w w0 : World} {v : Rv} {al ad : Option Addr} {cl cd : Nat} {xs : List NdE} (h : RvAt w P v al cl ad cd xs) (hb : Below w.heap.size w w0) : RvAt w0 (POld P w) v al cl ad cd xs :=
  (h.wide (Q := POld P w) (fun _ hk hs => ⟨hk, hs⟩)).kp (KP.of hb)
theorem RvIn.ret {P : Nat → Prop} {w w0 w1 wf : World} {val : Value} {v : Rv} {R : Nat} (h : RvIn w1 (PNew (POld P w) w0) val v) (hR : w.heap.size ≤ R) (hR0 : R < w0.heap.size) (hk : Keeps (fun k => k = R) w1 wf) : RvIn wf (PNew P w) val v := by
  have hkp : KP (PNew (POld P w) w0) w1 wf := Keeps.mono hk (fun k _ e f => by
    rcases f with ⟨_, f⟩ | f <;> omega)
  refine (h.kp hkp).wide (fun k hq _ => ?_)
  rcases hq with ⟨f, _⟩ | f
  · exact .inl f
  · exact .inr (by omega)
end Go.Proofs.YtmkhacgdejkimaaGreatDoor

/- Reference 09: Put. (Written by wip/genref09p.py.) -/
namespace Go.Proofs.YtmkhacgdejkimaaGreatDoor
open Go.RowKit
theorem NdP.old {P : Nat → Prop} {w w0 : World} {x : NdE} (h : NdP w P x) (hb : Below w.heap.size w w0) : NdP w0 (POld P w) x :=
  (h.wide (Q := POld P w) (fun _ hk hs => ⟨hk, hs⟩)).kp (KP.of hb)
end Go.Proofs.YtmkhacgdejkimaaGreatDoor

/- Reference 09: Do, all but reads. (Written by wip/genref09o.py.) -/
namespace Go.Proofs.YtmkhacgdejkimaaGreatDoor
open Go.RowKit
theorem acells {w : World} {b : Nat} {v0 v1 v2 v3 v4 v5 : Value} {t : TypeId} (h : w.heap[b]? = some (.cells #[v0, v1, v2, v3, v4, v5] t (0, 0))) : w.cell? ⟨b, 0, none⟩ = some v0 ∧ w.cell? ⟨b, 1, none⟩ = some v1 ∧ w.cell? ⟨b, 2, none⟩ = some v2 ∧ w.cell? ⟨b, 3, none⟩ = some v3 ∧ w.cell? ⟨b, 4, none⟩ = some v4 ∧ w.cell? ⟨b, 5, none⟩ = some v5 := by
  refine ⟨?_, ?_, ?_, ?_, ?_, ?_⟩ <;> (rw [cell_of_row w b _ _ _ _ h]; rfl)
end Go.Proofs.YtmkhacgdejkimaaGreatDoor

/- Reference 09: Do, Get. (Written by wip/genref09q.py.) -/
namespace Go.Proofs.YtmkhacgdejkimaaGreatDoor
open Go.RowKit
end Go.Proofs.YtmkhacgdejkimaaGreatDoor

/- Package ship: All (one page). Two volumes beside each other. -/
namespace Go.Proofs.YtmkhacgdejkimaaGreatDoor
open Go.RowKit
def VF (w : World) (vp dp : Nat) (F : Nat → Prop) (K : Nat) (d : Dk) (v : Vl) : Prop :=
  ∃ ix vx G q, VolAt w vp dp ix vx v ∧ DiskAt w dp G q d ∧ DkOk K d ∧ (∀ k, G k → ¬ VFoot vp ix vx k) ∧ (∀ k, F k ↔ G k ∨ VFoot vp ix vx k) ∧ (∀ k, F k → k < w.heap.size) ∧ VOk v
theorem VF.vs {w : World} {vp dp K : Nat} {F P : Nat → Prop} {d : Dk} {v : Vl} (h : VF w vp dp F K d v) (hF : ∀ k, F k → ¬ P k) : VS w vp dp P K d v := by
  obtain ⟨ix, vx, G, q, h1, h2, h3, h4, h5, h6, h7⟩ := h
  refine ⟨ix, vx, h1, ⟨G, q, h2, h3, fun k hk => ⟨fun e => ?_, h6 k ((h5 k).2 (.inl hk))⟩⟩, fun k hk => ⟨hF k ((h5 k).2 (.inr hk)), h6 k ((h5 k).2 (.inr hk))⟩, h7⟩
  rcases e with e | e
  · exact hF k ((h5 k).2 (.inl hk)) e
  · exact h4 k hk e
theorem VF.keeps {w w' : World} {vp dp K : Nat} {F R : Nat → Prop} {d : Dk} {v : Vl} (h : VF w vp dp F K d v) (hk : Keeps R w w') (hR : ∀ k, F k → ¬ R k) : VF w' vp dp F K d v := by
  obtain ⟨ix, vx, G, q, h1, h2, h3, h4, h5, h6, h7⟩ := h
  exact ⟨ix, vx, G, q, h1.keeps hk (fun k hf => hR k ((h5 k).2 (.inr hf))), h2.keeps hk (fun k hg => hR k ((h5 k).2 (.inl hg))), h3, h4, h5, fun k hf => Nat.lt_of_lt_of_le (h6 k hf) hk.size, h7⟩
theorem VF.kp {w w' : World} {vp dp K : Nat} {F P : Nat → Prop} {d : Dk} {v : Vl} (h : VF w vp dp F K d v) (hk : KP P w w') (hP : ∀ k, F k → P k) : VF w' vp dp F K d v :=
  h.keeps hk fun k hf e => e (hP k hf)
theorem VF.lt {w : World} {vp dp K : Nat} {F : Nat → Prop} {d : Dk} {v : Vl} (h : VF w vp dp F K d v) : ∀ k, F k → k < w.heap.size := by
  obtain ⟨ix, vx, G, q, h1, h2, h3, h4, h5, h6, h7⟩ := h
  exact h6
theorem VF.at' {w : World} {vp dp K : Nat} {F : Nat → Prop} {d : Dk} {v : Vl} (h : VF w vp dp F K d v) : ∃ ix vx P, VolAt w vp dp ix vx v ∧ DS w dp P K d ∧ VOk v := by
  obtain ⟨ix, vx, h1, h2, h3, h4⟩ := h.vs (P := fun _ => False) (fun _ _ e => e)
  exact ⟨ix, vx, _, h1, h2, h4⟩
end Go.Proofs.YtmkhacgdejkimaaGreatDoor
