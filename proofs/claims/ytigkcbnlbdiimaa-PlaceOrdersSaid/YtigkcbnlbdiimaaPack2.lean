/- Package pack: what Put holds while it works. -/
import Derived.Test.YtigkcbnlbdiimaaPack
import Derived.Deep.AppendLies
namespace Go.Proofs.Ytigkcbnlbdiimaa
open Go.RowKit Go.Shelf
theorem Reads.below {w w' : World} {sz : Nat} {v : Value} {n : Nat} {xs : List Value} (h : Reads w sz v n xs) (hb : Below w.heap.size w w') : Reads w' sz v n xs := by
  refine ⟨h.1, h.2.imp id ?_⟩
  rintro ⟨a, c, rfl, hn, hc⟩
  exact ⟨a, c, rfl, hn, fun j u hu => cell_later hb (hc j u hu)⟩
/-- The boxes of Put: the number's at Bn, out's at Bo, rest's at Br. -/
structure PutSt (w0 w : World) (Bn Bo Br n : Nat) (vo : Value) (os : List UInt8) (vr : Value) (rs : List UInt8) : Prop where
  bel : Below w0.heap.size w0 w
  hn : w.heap[Bn]? = some (.cells #[.int .u64 n] 114 (0, 0))
  ho : w.heap[Bo]? = some (.cells #[vo] 44 (0, 0))
  hr : w.heap[Br]? = some (.cells #[vr] 44 (0, 0))
  ro : w.ownsRow w0.heap.size 5 1 vo os.length (os.map bv)
  rr : w.ownsRow w0.heap.size 5 1 vr rs.length (rs.map bv)
  low : w0.heap.size ≤ Bn ∧ w0.heap.size ≤ Bo ∧ w0.heap.size ≤ Br
  ne : Bn ≠ Bo ∧ Bn ≠ Br ∧ Bo ≠ Br
  no : vo.ownBlock ≠ some Bn ∧ vo.ownBlock ≠ some Bo ∧ vo.ownBlock ≠ some Br
  nr : vr.ownBlock ≠ some Bn ∧ vr.ownBlock ≠ some Bo ∧ vr.ownBlock ≠ some Br
  apart : ∀ g, vo.ownBlock = some g → vr.ownBlock ≠ some g
theorem PutSt.lt {w0 w : World} {Bn Bo Br n : Nat} {vo : Value} {os : List UInt8} {vr : Value} {rs : List UInt8} (h : PutSt w0 w Bn Bo Br n vo os vr rs) : Bn < w.heap.size ∧ Bo < w.heap.size ∧ Br < w.heap.size :=
  ⟨(Array.getElem?_eq_some_iff.1 h.hn).1, (Array.getElem?_eq_some_iff.1 h.ho).1, (Array.getElem?_eq_some_iff.1 h.hr).1⟩
theorem PutSt.cells {w0 w : World} {Bn Bo Br n : Nat} {vo : Value} {os : List UInt8} {vr : Value} {rs : List UInt8} (h : PutSt w0 w Bn Bo Br n vo os vr rs) :
    w.cell? ⟨Bn, 0, none⟩ = some (.int .u64 n) ∧ w.cell? ⟨Bo, 0, none⟩ = some vo ∧ w.cell? ⟨Br, 0, none⟩ = some vr ∧ w.frozen? ⟨Bo, 0, none⟩ = false ∧ w.frozen? ⟨Br, 0, none⟩ = false :=
  ⟨by rw [cell_of_row w Bn 0 _ _ _ h.hn]; rfl, by rw [cell_of_row w Bo 0 _ _ _ h.ho]; rfl, by rw [cell_of_row w Br 0 _ _ _ h.hr]; rfl, frozen_of_row w Bo 0 _ _ h.ho, frozen_of_row w Br 0 _ _ h.hr⟩
theorem PutSt.keep {w0 w w' : World} {Bn Bo Br n : Nat} {vo : Value} {os : List UInt8} {vr : Value} {rs : List UInt8} (h : PutSt w0 w Bn Bo Br n vo os vr rs) (hb : Below w.heap.size w w') : PutSt w0 w' Bn Bo Br n vo os vr rs := by
  obtain ⟨h1, h2, h3⟩ := h.lt
  exact ⟨h.bel.trans (hb.mono h.bel.size), (hb.block _ h1).trans h.hn, (hb.block _ h2).trans h.ho, (hb.block _ h3).trans h.hr,
    ownsRow_at h.ro (fun k hk => hb.block k (h.ro.lt k hk).2), ownsRow_at h.rr (fun k hk => hb.block k (h.rr.lt k hk).2), h.low, h.ne, h.no, h.nr, h.apart⟩
theorem PutSt.drew {w0 w : World} {Bn Bo Br n : Nat} {vo : Value} {os : List UInt8} {vr : Value} {rs : List UInt8} (h : PutSt w0 w Bn Bo Br n vo os vr rs) : PutSt w0 w.drew Bn Bo Br n vo os vr rs :=
  h.keep ((Below.refl _ w).drew)
/-- An append to rest, stored back. -/
theorem PutSt.onRest {w0 w w2 : World} {Bn Bo Br n g cap m : Nat} {vo : Value} {os : List UInt8} {vr : Value} {rs ns : List UInt8} (h : PutSt w0 w Bn Bo Br n vo os vr rs)
    (hg : w.grownBy w2 vr.ownBlock) (hown : w2.ownsRow w0.heap.size 5 1 (.slice (some ⟨g, 0, none⟩) m cap) m ((rs ++ ns).map bv)) (hm : m = (rs ++ ns).length) (hat : vr.ownBlock = some g ∨ g = w.heap.size) :
    PutSt w0 (w2.setCell ⟨Br, 0, none⟩ (.slice (some ⟨g, 0, none⟩) m cap)) Bn Bo Br n vo os (.slice (some ⟨g, 0, none⟩) m cap) (rs ++ ns) := by
  subst hm
  obtain ⟨h1, h2, h3⟩ := h.lt
  obtain ⟨e1, e2, e3⟩ := h.ne
  have hgn : g ≠ Bn ∧ g ≠ Bo ∧ g ≠ Br := by
    obtain ⟨x1, x2, x3⟩ := h.nr
    rcases hat with h' | h'
    · refine ⟨fun e => x1 (by rw [h', e]), fun e => x2 (by rw [h', e]), fun e => x3 (by rw [h', e])⟩
    · omega
  have b1 := hg.block Bn h1 (fun e => h.nr.1 e.symm)
  have b2 := hg.block Bo h2 (fun e => h.nr.2.1 e.symm)
  have b3 := hg.block Br h3 (fun e => h.nr.2.2 e.symm)
  refine ⟨(h.bel.grown hg h.bel.size (fun k e => (h.rr.lt k e).1)).setCell h.low.2.2 _, (heap_setCell_other w2 _ Bn _ e2).trans (b1.trans h.hn), (heap_setCell_other w2 _ Bo _ e3).trans (b2.trans h.ho), heap_setCell_same w2 Br 0 _ _ _ (b3.trans h.hr),
    ownsRow_at (ownsRow_at h.ro (fun k hk => hg.block k (h.ro.lt k hk).2 (fun e => h.apart k hk e.symm))) (fun k hk => heap_setCell_other w2 _ k _ (fun e => h.no.2.2 (by rw [hk, e]))), ownsRow_at hown (fun k hk => heap_setCell_other w2 _ k _ (fun e => hgn.2.2 (by have h1 : g = k := (by simpa [Value.ownBlock] using hk); exact h1.trans e))),
    h.low, h.ne, h.no, ⟨fun e => hgn.1 (by simpa [Value.ownBlock] using e), fun e => hgn.2.1 (by simpa [Value.ownBlock] using e), fun e => hgn.2.2 (by simpa [Value.ownBlock] using e)⟩, ?_⟩
  intro k hk e
  have e' : g = k := by simpa [Value.ownBlock] using e
  subst e'
  rcases hat with h' | h'
  · exact h.apart g hk h'
  · have := (h.ro.lt g hk).2; omega
/-- An append to out, stored back. -/
theorem PutSt.onOut {w0 w w2 : World} {Bn Bo Br n g cap m : Nat} {vo : Value} {os ns : List UInt8} {vr : Value} {rs : List UInt8} (h : PutSt w0 w Bn Bo Br n vo os vr rs)
    (hg : w.grownBy w2 vo.ownBlock) (hown : w2.ownsRow w0.heap.size 5 1 (.slice (some ⟨g, 0, none⟩) m cap) m ((os ++ ns).map bv)) (hm : m = (os ++ ns).length) (hat : vo.ownBlock = some g ∨ g = w.heap.size) :
    PutSt w0 (w2.setCell ⟨Bo, 0, none⟩ (.slice (some ⟨g, 0, none⟩) m cap)) Bn Bo Br n (.slice (some ⟨g, 0, none⟩) m cap) (os ++ ns) vr rs := by
  subst hm
  obtain ⟨h1, h2, h3⟩ := h.lt
  obtain ⟨e1, e2, e3⟩ := h.ne
  have hgn : g ≠ Bn ∧ g ≠ Bo ∧ g ≠ Br := by
    obtain ⟨x1, x2, x3⟩ := h.no
    rcases hat with h' | h'
    · refine ⟨fun e => x1 (by rw [h', e]), fun e => x2 (by rw [h', e]), fun e => x3 (by rw [h', e])⟩
    · omega
  have b1 := hg.block Bn h1 (fun e => h.no.1 e.symm)
  have b2 := hg.block Bo h2 (fun e => h.no.2.1 e.symm)
  have b3 := hg.block Br h3 (fun e => h.no.2.2 e.symm)
  refine ⟨(h.bel.grown hg h.bel.size (fun k e => (h.ro.lt k e).1)).setCell h.low.2.1 _, (heap_setCell_other w2 _ Bn _ e1).trans (b1.trans h.hn), heap_setCell_same w2 Bo 0 _ _ _ (b2.trans h.ho), (heap_setCell_other w2 _ Br _ (fun e => e3 e.symm)).trans (b3.trans h.hr),
    ownsRow_at hown (fun k hk => heap_setCell_other w2 _ k _ (fun e => hgn.2.1 (by have h1 : g = k := (by simpa [Value.ownBlock] using hk); exact h1.trans e))), ownsRow_at (ownsRow_at h.rr (fun k hk => hg.block k (h.rr.lt k hk).2 (fun e => h.apart k e.symm hk))) (fun k hk => heap_setCell_other w2 _ k _ (fun e => h.nr.2.1 (by rw [hk, e]))),
    h.low, h.ne, ⟨fun e => hgn.1 (by simpa [Value.ownBlock] using e), fun e => hgn.2.1 (by simpa [Value.ownBlock] using e), fun e => hgn.2.2 (by simpa [Value.ownBlock] using e)⟩, h.nr, ?_⟩
  intro k hk e
  have e' : g = k := by simpa [Value.ownBlock] using hk
  subst e'
  rcases hat with h' | h'
  · exact h.apart g h' e
  · have := (h.rr.lt g e).2; omega
theorem PutSt.start (w w1 : World) (n : Nat) (a1 : Option Addr) (nb c1 : Nat) (bs : List UInt8) (hnb : nb = bs.length) (x : UInt8) (hB : Below w.heap.size w w1) (kb : w1.heap[w.heap.size]? = some (.cells #[.int .u64 n] 114 (0, 0)))
    (ho : w1.ownsRow (w.heap.size + 1) 5 1 (.slice a1 nb c1) nb (bs.map bv)) (hz : w.heap.size < w1.heap.size) :
    PutSt w (((w1.alloc (.cells #[.slice a1 nb c1] 44)).alloc (.cells #[.int .u8 (x.toNat : Int)] 5)).alloc (.cells #[.slice (some ⟨w1.heap.size + 1, 0, none⟩) 1 1] 44))
      w.heap.size w1.heap.size (w1.heap.size + 1 + 1) n (.slice a1 nb c1) bs (.slice (some ⟨w1.heap.size + 1, 0, none⟩) 1 1) [x] := by
  subst hnb
  have hlt := ho.lt
  have h1 : ∀ k, k < w1.heap.size → (((w1.alloc (.cells #[.slice a1 bs.length c1] 44)).alloc (.cells #[.int .u8 (x.toNat : Int)] 5)).alloc (.cells #[.slice (some ⟨w1.heap.size + 1, 0, none⟩) 1 1] 44)).heap[k]? = w1.heap[k]? := fun k hk => by
    rw [Below.heap_alloc _ _ _ (by simp; omega), Below.heap_alloc _ _ _ (by simp; omega), Below.heap_alloc _ _ _ hk]
  refine ⟨((hB.alloc (by omega) _).alloc (by simp; omega) _).alloc (by simp; omega) _, (h1 _ hz).trans kb, ?_, ?_, ownsRow_at (ownsRow_mono ho (by omega)) (fun k hk => h1 k (hlt k hk).2), ?_, ⟨Nat.le_refl _, by omega, by omega⟩, ⟨by omega, by omega, by omega⟩,
    ⟨fun e => by have := hlt _ e; omega, fun e => by have := hlt _ e; omega, fun e => by have := hlt _ e; omega⟩, ⟨by simp [Value.ownBlock]; omega, by simp [Value.ownBlock], by simp [Value.ownBlock]⟩, fun g hg => by have := hlt _ hg; simp [Value.ownBlock]; omega⟩
  · rw [Below.heap_alloc _ _ _ (by simp; omega), Below.heap_alloc _ _ _ (by simp)]
    exact heap_alloc_new _ _
  · have := heap_alloc_new ((w1.alloc (.cells #[.slice a1 bs.length c1] 44)).alloc (.cells #[.int .u8 (x.toNat : Int)] 5)) (.cells #[.slice (some ⟨w1.heap.size + 1, 0, none⟩) 1 1] 44)
    simpa using this
  · have h2 := (World.ownsRow_lit (base := w.heap.size) (e := 5) (size := 1) (w1.alloc (.cells #[.slice a1 bs.length c1] 44)) #[.int .u8 (x.toNat : Int)] 1 (by simp; omega) (by unfold maxLen; omega) rfl).alloc (.cells #[.slice (some ⟨w1.heap.size + 1, 0, none⟩) 1 1] 44)
    simpa [bv] using h2
theorem wpIn_append_lies {P : Program} {F : Fence} {nn : Nat} (w : World) {o : Oper} {a : Act} {K : Act → World → Prop} {Q : Exit → Act → World → Prop} (s x : Operand) (t : TypeId)
    (ho : o.op = .call { callee := .builtin .append, args := #[s, x], argTypes := #[t, t] })
    (base : Nat) (e : TypeId) (i : TypeInfo) (z : Value) (size bytes : Nat) (ht : P.underlying t = some (.slice e)) (hi : P.info? e = some i) (hz : i.zero = some z)
    (hsize : i.size = size) (hby : i.bytes = bytes) (hzs : z.cells.size = size) (hsz : 0 < size)
    (v : Value) (n : Nat) (xs : List Value) (hs : a.eval s = v) (hown : w.ownsRow base e size v n xs)
    (ad : Addr) (m c : Nat) (news : List Value) (hx : a.eval x = .slice (some ad) m c) (hl : news.length = m * size) (hnews : ∀ j u, news[j]? = some u → w.cell? (ad.add j) = some u) (h1 : ∀ u ∈ news, u.oneCell' = true)
    (hm : 0 < m) (h63 : n + m ≤ maxLen) (hbytes : (n + m) * bytes ≤ 140737488355328) (hbase : base ≤ w.heap.size) (H : Nat) (hH : w.heap.size = H)
    (h : ∀ g cap w', w'.ownsRow base e size (.slice (some ⟨g, 0, none⟩) (n + m) cap) (n + m) (xs ++ news) → w.grownBy w' v.ownBlock → (v.ownBlock = some g ∨ g = H) → g < w'.heap.size → K (a.put o.dst (.slice (some ⟨g, 0, none⟩) (n + m) cap)) w') : o.wpIn F nn P a w K Q := by
  obtain ⟨g, cap, w', hr, h2, h3, h4, h5⟩ := run_append_lies (P := P) w t o.type base e i z size bytes ht hi hz hsize hby hzs hsz v n xs hown ad m c news hl hnews h1 hm h63 hbytes hbase H hH
  unfold Oper.wpIn
  refine ⟨fun f hf => ?_, ?_⟩
  · simp [Oper.about, ho, resolve, Target.leads] at hf
  · rw [Oper.semAt_eq _ _ _ (by rw [ho]; intro c hc; cases hc)]
    unfold execOp
    simp only [ho, resolve, invoke, builtin, Sem.run_bind, Sem.run_pure, Result.andThen_ok, List.map_toArray, List.map_cons, List.map_nil, hs, hx, hr]
    exact h g cap w' h2 h3 h4 h5
theorem owns_cells {w : World} {base : Nat} {e : TypeId} {size n : Nat} {v : Value} {xs : List Value} (h : w.ownsRow base e size v n xs) (k : Nat) (hk : v.ownBlock = some k) : ∃ cs t f, w.heap[k]? = some (.cells cs t f) := by
  rcases h.2 with ⟨rfl, _⟩ | ⟨g, cap, cur, rfl, _, hg, _⟩
  · cases hk
  · have e : g = k := by simpa [Value.ownBlock] using hk
    subst e
    exact ⟨_, _, _, hg⟩
theorem PutSt.grown {w0 w w' : World} {Bn Bo Br n : Nat} {vo : Value} {os : List UInt8} {vr : Value} {rs : List UInt8} {row : Option Nat} {B : Nat} (h : PutSt w0 w Bn Bo Br n vo os vr rs) (hg : w.grownBy w' row)
    (hB : w0.heap.size ≤ B) (hr : ∀ r, row = some r → B ≤ r ∧ ∃ o : Obj, w.heap[r]? = some o ∧ o.isCells = false) : PutSt w0 w' Bn Bo Br n vo os vr rs := by
  obtain ⟨h1, h2, h3⟩ := h.lt
  have key : ∀ (k : Nat) (cs : Array Value) (t : TypeId) (f : Nat × Nat), w.heap[k]? = some (Obj.cells cs t f) → w'.heap[k]? = w.heap[k]? := fun k cs t f hk => hg.block k (Array.getElem?_eq_some_iff.1 hk).1 (fun e => by
    obtain ⟨_, o, ho, hc⟩ := hr k e.symm
    rw [hk] at ho
    cases ho
    cases hc)
  refine ⟨h.bel.grown hg h.bel.size (fun k e => Nat.le_trans hB (hr k e).1), (key _ _ _ _ h.hn).trans h.hn, (key _ _ _ _ h.ho).trans h.ho, (key _ _ _ _ h.hr).trans h.hr,
    ownsRow_at h.ro (fun k hk => ?_), ownsRow_at h.rr (fun k hk => ?_), h.low, h.ne, h.no, h.nr, h.apart⟩
  · obtain ⟨cs, t, f, hc⟩ := owns_cells h.ro k hk
    exact key k cs t f hc
  · obtain ⟨cs, t, f, hc⟩ := owns_cells h.rr k hk
    exact key k cs t f hc
theorem owns_len {w : World} {base : Nat} {e : TypeId} {size n : Nat} {v : Value} {xs : List Value} (h : w.ownsRow base e size v n xs) : ∃ a m c, v = .slice a m c ∧ Hid (m = n) := by
  obtain ⟨a, c, rfl⟩ := ownsRow_len h
  exact ⟨a, n, c, rfl, Lib.hid rfl⟩
theorem owns_cap {w : World} {base : Nat} {e : TypeId} {size n c : Nat} {a : Addr} {xs : List Value} (h : w.ownsRow base e size (.slice (some a) n c) n xs) : n ≤ c ∧ c ≤ 9223372036854775807 := by
  rcases h.2 with ⟨h1, _⟩ | ⟨g, cap, cur, h1, _, _, h2, h3, _⟩
  · cases h1
  · obtain ⟨_, _, rfl⟩ : some a = some ⟨g, 0, none⟩ ∧ n = n ∧ c = cap := by simpa using h1
    exact ⟨h2, h3⟩
end Go.Proofs.Ytigkcbnlbdiimaa
