/- corncribref19.Do whole. -/
import Derived.Test.YtigkcbnlbdiimaaRef19e
namespace Go.Proofs.Ytigkcbnlbdiimaa
open Go.RowKit
theorem ref_do_any (base : Nat) (v : Value) (es : List Ent) (c : Cmd) (w : World) (h : w.ownsRow base 128 6 v es.length (es.flatMap Ent.row)) (hl : es.length ≤ 4096) (hbase : base ≤ w.heap.size) :
    Calls Try.prog 39 #[v, .agg #[.int .i64 c.kind, .int .i64 c.vol, .int .i64 c.epoch, .int .i64 c.spot, .int .i64 c.node, .int .i64 c.n0, .int .i64 c.n1, .int .i64 c.n2]] w
      (RefOut w base (doEs es c) (doN es c) (doK es c)) := by
  by_cases h1 : c.kind = 1
  · cases h2 : threeB c.n0 c.n1 c.n2
    · have e1 : doEs es c = es := by simp [doEs, h1, h2]
      have e2 : doN es c = 0 := by simp [doN, h1, h2]
      have e3 : (doK es c : Int) = 1 := by simp [doK, h1, h2]
      rw [e1, e2, e3]
      exact ref_arg base v es c w h h1 h2
    · by_cases h3 : es.length < 4096
      · have e1 : doEs es c = es ++ [⟨(es.length : Int) + 1, 1, c.n0, c.n1, c.n2, false⟩] := by simp [doEs, h1, h2, h3]
        have e2 : doN es c = (es.length : Int) + 1 := by simp [doN, h1, h2, h3]
        have e3 : (doK es c : Int) = 0 := by simp [doK, h1, h2, h3]
        rw [e1, e2, e3]
        exact ref_new base v es c w h h1 h2 h3 hbase
      · have e1 : doEs es c = es := by simp [doEs, h1, h2, h3]
        have e2 : doN es c = 0 := by simp [doN, h1, h2, h3]
        have e3 : (doK es c : Int) = 11 := by simp [doK, h1, h2, h3]
        rw [e1, e2, e3]
        exact ref_full base v es c w h h1 h2 (by omega)
  · by_cases hk : c.kind = 2 ∨ c.kind = 3 ∨ c.kind = 4
    · by_cases hv : 1 ≤ c.vol ∧ c.vol ≤ es.length
      · obtain ⟨j, hj⟩ : ∃ j : Nat, c.vol = (j : Int) + 1 := ⟨(c.vol - 1).toNat, by omega⟩
        have hjl : j < es.length := by omega
        have hx : es[j]? = some es[j] := List.getElem?_eq_getElem hjl
        have hvj : (c.vol - 1).toNat = j := by omega
        generalize es[j] = x at hx
        by_cases he : x.epoch = c.epoch
        · by_cases ht : turnE x c = 0
          · have e1 : doEs es c = es.set j (turnX x c) := by rw [doEs, if_neg h1, if_pos hk, if_pos hv, hvj, hx]; exact if_pos ⟨he, ht⟩
            have e2 : doN es c = (turnX x c).epoch := by rw [doN, if_neg h1, if_pos hk, if_pos hv, hvj, hx]; exact if_pos ⟨he, ht⟩
            have e3 : (doK es c : Int) = 0 := by rw [doK, if_neg h1, if_pos hk, if_pos hv, hvj, hx]; show ((if x.epoch = c.epoch then turnE x c else 13 : Nat) : Int) = 0; rw [if_pos he, ht]; rfl
            rw [e1, e2, e3]
            exact ref_turn base v es c j x w h (by omega) (by omega) hj hx he ht (by omega)
          · have e1 : doEs es c = es := by rw [doEs, if_neg h1, if_pos hk, if_pos hv, hvj, hx]; exact if_neg (fun e => ht e.2)
            have e2 : doN es c = 0 := by rw [doN, if_neg h1, if_pos hk, if_pos hv, hvj, hx]; exact if_neg (fun e => ht e.2)
            have e3 : (doK es c : Int) = (turnE x c : Int) := by rw [doK, if_neg h1, if_pos hk, if_pos hv, hvj, hx]; show ((if x.epoch = c.epoch then turnE x c else 13 : Nat) : Int) = _; rw [if_pos he]
            rw [e1, e2, e3]
            exact ref_err base v es c j x w h (by omega) (by omega) hj hx he ht
        · have e1 : doEs es c = es := by rw [doEs, if_neg h1, if_pos hk, if_pos hv, hvj, hx]; exact if_neg (fun e => he e.1)
          have e2 : doN es c = 0 := by rw [doN, if_neg h1, if_pos hk, if_pos hv, hvj, hx]; exact if_neg (fun e => he e.1)
          have e3 : (doK es c : Int) = 13 := by rw [doK, if_neg h1, if_pos hk, if_pos hv, hvj, hx]; show ((if x.epoch = c.epoch then turnE x c else 13 : Nat) : Int) = _; rw [if_neg he]; rfl
          rw [e1, e2, e3]
          exact ref_stale base v es c j x w h (by omega) (by omega) hj hx he
      · have e1 : doEs es c = es := by rw [doEs, if_neg h1, if_pos hk, if_neg hv]
        have e2 : doN es c = 0 := by rw [doN, if_neg h1, if_pos hk, if_neg hv]
        have e3 : (doK es c : Int) = 6 := by rw [doK, if_neg h1, if_pos hk, if_neg hv]; rfl
        rw [e1, e2, e3]
        exact ref_none base v es c w h (by omega) (by omega) (by omega)
    · have e1 : doEs es c = es := by rw [doEs, if_neg h1, if_neg hk]
      have e2 : doN es c = 0 := by rw [doN, if_neg h1, if_neg hk]
      have e3 : (doK es c : Int) = 1 := by rw [doK, if_neg h1, if_neg hk]; rfl
      rw [e1, e2, e3]
      exact ref_wild base v es c w h (by omega)
end Go.Proofs.Ytigkcbnlbdiimaa
