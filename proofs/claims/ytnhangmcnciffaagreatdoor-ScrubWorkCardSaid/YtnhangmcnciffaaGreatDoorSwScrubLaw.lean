/- Law ScrubWork: what was written is whole, and eight bytes beside it there is none (plain). -/
import Derived.Test.YtnhangmcnciffaaGreatDoorSw17
import Derived.Test.YtnhangmcnciffaaGreatDoorSw19
namespace Go.Proofs.YtnhangmcnciffaaGreatDoor
theorem leNat_append (a b : List UInt8) : leNat (a ++ b) = leNat a + 256 ^ a.length * leNat b := by
  induction a with
  | nil => simp [leNat]
  | cons x a ih =>
    show x.toNat + 256 * leNat (a ++ b) = (x.toNat + 256 * leNat a) + 256 ^ (a.length + 1) * leNat b
    rw [ih, Nat.mul_add, Nat.pow_succ, ← Nat.mul_assoc, Nat.mul_comm 256 (256 ^ a.length), Nat.add_assoc]
theorem numAt_split (b : List UInt8) (i j k : Nat) (h : i + j ≤ b.length) : numAt b i (j + k) = numAt b i j + 256 ^ j * numAt b (i + j) k := by
  unfold numAt
  rw [List.take_add, leNat_append, List.drop_drop, List.length_take, List.length_drop, Nat.min_eq_left (by omega)]
theorem numAt_drop (b : List UInt8) (m i k : Nat) : numAt (b.drop m) i k = numAt b (m + i) k := by
  unfold numAt
  rw [List.drop_drop]
theorem numAt_take (b : List UInt8) (m i k : Nat) (h : i + k ≤ m) : numAt (b.take m) i k = numAt b i k := by
  unfold numAt
  rw [List.drop_take, List.take_take, Nat.min_eq_left (by omega)]
theorem ndSum_magic : ndSum ⟨ndMagic, ndMagic, false, []⟩ ≠ ndMagic := by decide +kernel
theorem beside {n : Nd} (hok : NdOk n) (r : List UInt8) (b : List UInt8) (hb : b = ((ndBytes n ++ r).drop 8).take (ndSize n.data.length)) (h0 : (ndGet b).1 = 0) :
    (ndGet b).2.1.key ≠ n.key ∨ (ndGet b).2.1.cookie ≠ n.cookie ∨ (ndGet b).2.1.gone ≠ n.gone ∨ (ndGet b).2.1.data.length ≠ n.data.length := by
  obtain ⟨hk, hc, hd, hg⟩ := hok
  have hl := ndBytes_len n
  have hs := ndSize_le hd
  have eb : ndBytes n ++ r = ndHead n ++ (le 4 (ndSum n) ++ List.replicate 4 0 ++ n.data ++ List.replicate (padN n.data.length) 0 ++ r) := by simp [ndBytes]
  obtain ⟨p1, p2, p3, p4, p5⟩ := ndHead_parts n (le 4 (ndSum n) ++ List.replicate 4 0 ++ n.data ++ List.replicate (padN n.data.length) 0 ++ r)
  rw [← eb] at p1 p2 p3 p4 p5
  rw [Nat.mod_eq_of_lt (by simpa using hk)] at p3
  rw [Nat.mod_eq_of_lt (by simpa using hc)] at p4
  rw [Nat.mod_eq_of_lt (Nat.lt_of_le_of_lt hd (by decide))] at p5
  have p6 : numAt (ndBytes n ++ r) 24 4 = ndSum n := by
    have e : ndBytes n ++ r = ndHead n ++ le 4 (ndSum n) ++ (List.replicate 4 0 ++ n.data ++ List.replicate (padN n.data.length) 0 ++ r) := by simp [ndBytes]
    rw [e, numAt_mid (ndHead_len n) (le_len _ _), leNat_le]
    refine Nat.mod_eq_of_lt ?_
    exact UInt32.toNat_lt _
  have hlen : 32 ≤ (ndBytes n ++ r).length := by rw [List.length_append, hl]; omega
  have s1 := numAt_split (ndBytes n ++ r) 8 4 4 (by omega)
  have s2 := numAt_split (ndBytes n ++ r) 16 4 4 (by omega)
  have q0 : numAt b 0 4 = numAt (ndBytes n ++ r) 8 4 := by rw [hb, numAt_take _ _ _ _ (by omega), numAt_drop]
  have q1 : numAt b 4 4 = numAt (ndBytes n ++ r) 12 4 := by rw [hb, numAt_take _ _ _ _ (by omega), numAt_drop]
  have q2 : numAt b 8 8 = numAt (ndBytes n ++ r) 16 8 := by rw [hb, numAt_take _ _ _ _ (by omega), numAt_drop]
  have q3 : numAt b 16 4 = numAt (ndBytes n ++ r) 24 4 := by rw [hb, numAt_take _ _ _ _ (by omega), numAt_drop]
  simp only [Nat.reduceAdd, Nat.reducePow] at s1 s2
  by_cases a1 : b.length < 32
  · unfold ndGet at h0; rw [if_pos a1] at h0; cases h0
  by_cases a2 : numAt b 0 4 ≠ ndMagic ∨ 1 < numAt b 4 4 ∨ numAt b 28 4 ≠ 0 ∨ 4096 < numAt b 20 4 ∨ (numAt b 4 4 = 1 ∧ 0 < numAt b 20 4)
  · unfold ndGet at h0; rw [if_neg a1, if_pos a2] at h0; cases h0
  by_cases a3 : b.length < ndSize (numAt b 20 4)
  · unfold ndGet at h0; rw [if_neg a1, if_neg a2, if_pos a3] at h0; cases h0
  by_cases a4 : numAt b 24 4 ≠ (sumMore (sumOf (b.take 24)) ((b.drop 32).take (numAt b 20 4))).toNat
  · unfold ndGet at h0; rw [if_neg a1, if_neg a2, if_neg a3, if_pos a4] at h0; cases h0
  by_cases a5 : ((b.drop (32 + numAt b 20 4)).take (padN (numAt b 20 4))).any (fun c => c != 0) = true
  · unfold ndGet at h0; rw [if_neg a1, if_neg a2, if_neg a3, if_neg a4, if_pos a5] at h0; cases h0
  have e : ndGet b = (0, ⟨numAt b 8 8, numAt b 16 4, numAt b 4 4 == 1, (b.drop 32).take (numAt b 20 4)⟩, ndSize (numAt b 20 4)) := by
    unfold ndGet
    rw [if_neg a1, if_neg a2, if_neg a3, if_neg a4, if_neg a5]
  rw [e]
  simp only
  have b1 : numAt b 0 4 = ndMagic := Classical.byContradiction fun h => a2 (.inl h)
  have b2 : numAt b 4 4 ≤ 1 := by
    apply Classical.byContradiction
    intro h
    exact a2 (.inr (.inl (by omega)))
  apply Classical.byContradiction
  intro hall
  have c1 : numAt b 8 8 = n.key := Classical.byContradiction fun h => hall (.inl h)
  have c2 : numAt b 16 4 = n.cookie := Classical.byContradiction fun h => hall (.inr (.inl h))
  have c3 : (numAt b 4 4 == 1) = n.gone := Classical.byContradiction fun h => hall (.inr (.inr (.inl h)))
  have hmg : ndMagic < 4294967296 := by decide
  have d1 : n.cookie = ndMagic := by omega
  have d2 : n.data.length = numAt b 4 4 := by omega
  by_cases hone : numAt b 4 4 = 1
  · rw [hone] at c3
    have := hg c3.symm
    rw [this] at d2
    simp at d2
    omega
  · have hz : numAt b 4 4 = 0 := by omega
    have d3 : n.key = ndMagic := by omega
    have d4 : n.data = [] := List.eq_nil_of_length_eq_zero (by omega)
    have d5 : n.gone = false := by rw [← c3, hz]; rfl
    have d6 : ndSum n = ndMagic := by omega
    apply ndSum_magic
    obtain ⟨nk, nc, ng, nd⟩ := n
    simp only at d1 d3 d4 d5
    subst d1 d3 d4 d5
    exact d6
theorem VI.lies {d : Dk} {v : Vl} {ns : List Nd} (h : VI d v ns) {key o : Nat} {n : Nd} (hx : newest ns 16 key = some (o, n)) : ∃ pre r, (d.fileAt (d.fnd v.file).2).b = pre ++ (ndBytes n ++ r) ∧ pre.length = o ∧ (d.fnd v.file).1 = 0 ∧ NdOk n := by
  obtain ⟨f, g, hfg, hl, hf, hgn, hfb, hgb⟩ := h.now
  obtain ⟨hm, hk, a, b, hab, ho⟩ := newest_some hx
  have ha : d.armed ≠ 0 := by rw [h.armed]; decide
  have hfnd : d.fnd v.file = (0, f) := by unfold Dk.fnd; rw [if_neg ha, hf]
  refine ⟨superB v.num 1 ++ ndsB a, ndsB b, ?_, ?_, by rw [hfnd], h.ok n hm⟩
  · rw [hfnd]
    show (d.fileAt f).b = _
    rw [hfb, hab, ndsB_append, List.append_assoc]
    rfl
  · rw [List.length_append, superB_len, ho]
theorem read_mid {d : Dk} {s : Nm} {pre m r : List UInt8} (h0 : (d.fnd s).1 = 0) (hb : (d.fileAt (d.fnd s).2).b = pre ++ (m ++ r)) : d.read s pre.length m.length = (0, m) := by
  unfold Dk.read
  rw [if_neg (by rw [h0]; simp), if_neg (by omega), if_neg (by rw [hb]; simp; omega)]
  have e1 : ((pre.length : Nat) : Int).toNat = pre.length := rfl
  have e2 : ((m.length : Nat) : Int).toNat = m.length := rfl
  rw [e1, e2, hb, List.drop_left, List.take_left]
theorem VI.wrong0 {d : Dk} {v : Vl} {ns : List Nd} (h : VI d v ns) {p : Ps} (hp : p ∈ v.idx) : v.wrong d p = 0 := by
  obtain ⟨o, n, hx, hl, hmem, hnk, hpo, hnd⟩ := h.pos hp
  obtain ⟨pre, r, e1, e2, e3, hok⟩ := h.lies hx
  have hr := read_mid e3 e1
  rw [ndBytes_len] at hr
  have hr' : d.read v.file p.off (ndSize p.len) = (0, ndBytes n) := by rw [hpo, ← hr, e2]; rfl
  have hg := ndGet_put hok []
  rw [List.append_nil] at hg
  refine wr_ok (by rw [hr']; simp) (by rw [hr', hg]; simp) ?_
  rw [hr', hg, hpo]
  simp [posOf]
theorem VI.wrong8 {d : Dk} {v : Vl} {ns : List Nd} (h : VI d v ns) {p : Ps} (hp : p ∈ v.idx) : v.wrong d { p with off := p.off + 8 } ≠ 0 := by
  obtain ⟨o, n, hx, hl, hmem, hnk, hpo, hnd⟩ := h.pos hp
  obtain ⟨pre, r, e1, e2, e3, hok⟩ := h.lies hx
  by_cases hrd : (d.read v.file ((p.off + 8 : Nat) : Int) (ndSize p.len)).1 ≠ 0
  · rw [wr_read (p := { p with off := p.off + 8 }) hrd]; exact hrd
  by_cases hge : (ndGet (d.read v.file ((p.off + 8 : Nat) : Int) (ndSize p.len)).2).1 ≠ 0
  · rw [wr_nd (p := { p with off := p.off + 8 }) hrd hge]; exact hge
  have hb : (d.read v.file ((p.off + 8 : Nat) : Int) (ndSize p.len)).2 = ((ndBytes n ++ r).drop 8).take (ndSize n.data.length) := by
    unfold Dk.read at hrd ⊢
    rw [if_neg (by rw [e3]; simp), if_neg (by omega)] at hrd ⊢
    split at hrd
    · exact absurd (by decide) hrd
    · rename_i hn
      rw [if_neg hn]
      have x1 : (((p.off + 8 : Nat)) : Int).toNat = p.off + 8 := rfl
      have x2 : ((ndSize p.len : Nat) : Int).toNat = ndSize p.len := rfl
      show List.take _ (List.drop _ _) = _
      have x3 : p.off = pre.length := by rw [hpo, e2]; rfl
      have x4 : p.len = n.data.length := by rw [hpo]; rfl
      rw [x1, x2, e1, x3, x4, ← List.drop_drop, List.drop_left]
  have hbe := beside hok r _ hb (Classical.byContradiction fun e => hge e)
  rw [wr_form (p := { p with off := p.off + 8 }) hrd hge (by rw [show p.key = n.key by rw [hpo]; rfl, show p.cookie = n.cookie by rw [hpo]; rfl, show p.gone = n.gone by rw [hpo]; rfl, show p.len = n.data.length by rw [hpo]; rfl]; rw [show p.len = n.data.length by rw [hpo]; rfl] at hbe; exact hbe)]
  decide
end Go.Proofs.YtnhangmcnciffaaGreatDoor
