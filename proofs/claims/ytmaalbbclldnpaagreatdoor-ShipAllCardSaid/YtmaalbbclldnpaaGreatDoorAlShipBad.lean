/- Law ShipBad: the walk. -/
import Derived.Test.YtmaalbbclldnpaaGreatDoorAl17
import Derived.Test.YtmaalbbclldnpaaGreatDoorAl18
namespace Go.Proofs.YtmaalbbclldnpaaGreatDoor
open Go.RowKit
theorem VI.idx_ok {d : Dk} {v : Vl} {ns : List Nd} (h : VI d v ns) {p : Ps} (hp : p ∈ v.idx) : ∃ o n, newest ns 16 p.key = some (o, n) ∧ p = posOf o n ∧ n ∈ ns ∧ o + ndSize n.data.length ≤ v.size := by
  have h1 := ixFind_mem h.srt hp
  rw [h.idx] at h1
  cases hx : newest ns 16 p.key with
  | none => rw [hx] at h1; cases h1
  | some x =>
    obtain ⟨o, n⟩ := x
    rw [hx] at h1
    simp only [Option.map_some, Option.some.injEq] at h1
    obtain ⟨hm, _, a, b, hab, ho⟩ := newest_some hx
    refine ⟨o, n, rfl, h1.symm, hm, ?_⟩
    rw [h.size, ho, hab, ndsB_append, List.length_append]
    show 16 + (ndsB a).length + ndSize n.data.length ≤ 16 + ((ndsB a).length + (ndBytes n ++ ndsB b).length)
    rw [List.length_append, ndBytes_len]
    omega
theorem VI.idx_pos {d : Dk} {v : Vl} {ns : List Nd} (h : VI d v ns) (hs : v.size ≤ 1000000000) : ∀ p ∈ v.idx, p.len ≤ 4096 ∧ p.off ≤ 1000000000 := by
  intro p hp
  obtain ⟨o, n, _, e, hn, ho⟩ := h.idx_ok hp
  rw [e]
  have := (h.ok n hn).2.2.1
  exact ⟨this, by show o ≤ _; omega⟩
end Go.Proofs.YtmaalbbclldnpaaGreatDoor
