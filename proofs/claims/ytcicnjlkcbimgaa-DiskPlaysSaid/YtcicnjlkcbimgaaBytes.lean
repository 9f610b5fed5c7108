/- Bytes as values; what is read from memory. -/
import Derived.Test.YtcicnjlkcbimgaaBase
namespace Go.Proofs.Ytcicnjlkcbimgaa
open Go.RowKit
/-- A byte as a value. -/
def bv (x : UInt8) : Value := .int .u8 (x.toNat : Int)
theorem bv_one (bs : List UInt8) : ∀ u ∈ bs.map bv, u.oneCell' = true := by
  intro u hu
  obtain ⟨x, _, rfl⟩ := List.mem_map.1 hu
  rfl
theorem spot_none {w : World} {a : Addr} {u : Value} (h : w.cell? a = some u) : a = ⟨a.block, a.off, none⟩ := by
  have hs : a.spot = none := by
    cases hs : a.spot with
    | none => rfl
    | some s => simp [World.cell?, hs] at h; split at h <;> simp_all
  cases a
  simp_all
theorem reads_addr {w : World} {v : Value} {n : Nat} {xs : List Value} (h : Reads w 1 v n xs) (hn : 0 < n) :
    ∃ b o c, v = .slice (some ⟨b, o, none⟩) n c ∧ b < w.heap.size ∧ n ≤ maxLen ∧ ∀ (j : Nat) (u : Value), xs[j]? = some u → w.cell? ⟨b, o + j, none⟩ = some u := by
  obtain ⟨hl, ⟨_, h0⟩ | ⟨a, c, rfl, hm, hc⟩⟩ := h
  · omega
  · have h0 : xs[0]? = some xs[0] := List.getElem?_eq_getElem (by omega)
    have h1 := hc 0 _ h0
    have ha : a = ⟨a.block, a.off, none⟩ := spot_none (by simpa [Addr.add] using h1)
    have hb := World.block_lt_of_cell? w _ h1
    refine ⟨a.block, a.off, c, by rw [← ha], by simpa [Addr.add] using hb, hm, fun j u hu => ?_⟩
    have h2 := hc j u hu
    have e : a.add j = ⟨a.block, a.off + j, none⟩ := by
      rw [ha]
      unfold Addr.add
      split
      · rename_i hz; rw [hz]; rfl
      · rfl
    rwa [e] at h2
theorem reads_len {w : World} {sz : Nat} {v : Value} {n : Nat} {xs : List Value} (h : Reads w sz v n xs) : ∃ a c, v = .slice a n c := by
  obtain ⟨_, ⟨rfl, rfl⟩ | ⟨a, c, rfl, _⟩⟩ := h
  · exact ⟨none, 0, rfl⟩
  · exact ⟨some a, c, rfl⟩
theorem sl_inj {a b : Option Addr} {n m c d : Nat} (h : Value.slice a n c = .slice b m d) : a = b ∧ n = m ∧ c = d := by simpa using h
theorem Reads.below {w w' : World} {sz : Nat} {v : Value} {n : Nat} {xs : List Value} (h : Reads w sz v n xs) (hb : Below w.heap.size w w') : Reads w' sz v n xs := by
  refine ⟨h.1, h.2.imp id ?_⟩
  rintro ⟨a, c, rfl, hn, hc⟩
  exact ⟨a, c, rfl, hn, fun j u hu => cell_later hb (hc j u hu)⟩
theorem Reads.le {w : World} {sz : Nat} {v : Value} {n : Nat} {xs : List Value} (h : Reads w sz v n xs) : n ≤ maxLen := by
  obtain ⟨_, ⟨_, rfl⟩ | ⟨_, _, _, h, _⟩⟩ := h
  · exact Nat.zero_le _
  · exact h
end Go.Proofs.Ytcicnjlkcbimgaa
