/- More small laws: an append to an owned row inside a region that draws; facts behind a Below. -/
import Derived.Test.YtmaalbbclldnpaaGreatDoorSo2
import Derived.Deep.RegionLaw
namespace Go.Proofs.YtmaalbbclldnpaaGreatDoor
open Go.RowKit
theorem step_append_own {P : Program} {ops : Array Oper} {o : Oper} {a : Act} {w : World} {K : Act → World → Prop} {Q : Exit → Act → World → Prop} {E : Prop}
    (hg : o.guard = none) (s x : Operand) (t : TypeId) (ho : o.op = Op.call { callee := Callee.builtin Builtin.append, args := #[s, x], argTypes := #[t, t] })
    (base : Nat) (e : TypeId) (i : TypeInfo) (z : Value) (size bytes : Nat) (ht : P.underlying t = some (.slice e)) (hi : P.info? e = some i) (hz : i.zero = some z)
    (hsize : i.size = size) (hby : i.bytes = bytes) (hzs : z.cells.size = size) (hsz : 0 < size)
    (v : Value) (n : Nat) (xs : List Value) (hs : a.eval s = v) (hown : w.ownsRow base e size v n xs)
    (ad : Addr) (m c : Nat) (news : List Value) (hx : a.eval x = .slice (some ad) m c) (hl : news.length = m * size) (hnews : ∀ j u, news[j]? = some u → w.cell? (ad.add j) = some u) (h1 : ∀ u ∈ news, u.oneCell' = true)
    (h63 : n + m ≤ maxLen) (hbytes : (n + m) * bytes ≤ 140737488355328) (hbase : base ≤ w.heap.size)
    (h : ∀ v' w', w'.ownsRow base e size v' (n + m) (xs ++ news) → w.grownBy w' v.ownBlock → K (a.put o.dst v') w') :
    if Region.wanted o (yielded ops a.tmps) = true then Oper.wp P o a w K Q else E := by
  have hw : Region.wanted o (yielded ops a.tmps) = true := by simp [Region.wanted, hg]
  rw [if_pos hw]
  exact wp_append_own w s x t ho base e i z size bytes ht hi hz hsize hby hzs hsz v n xs hs hown ad m c news hx hl hnews h1 h63 hbytes hbase (fun v' w' p q _ => h v' w' p q)
theorem bcell {W w1 : World} (hb : Below W.heap.size W w1) : (∀ b o, b < W.heap.size → w1.cell? ⟨b, o, none⟩ = W.cell? ⟨b, o, none⟩) ∧ (∀ b o, b < W.heap.size → w1.frozen? ⟨b, o, none⟩ = W.frozen? ⟨b, o, none⟩) :=
  ⟨fun b o h => hb.cell (p := ⟨b, o, none⟩) h, fun b o h => hb.frozen (p := ⟨b, o, none⟩) h⟩
theorem grown_cell {w w' : World} {row : Option Nat} (hg : w.grownBy w' row) {b o : Nat} (h : b < w.heap.size) (hne : row ≠ some b) : w'.cell? ⟨b, o, none⟩ = w.cell? ⟨b, o, none⟩ :=
  World.cell?_of_block (w := w) (hg.block b h (fun e => hne e.symm))
theorem grown_frozen {w w' : World} {row : Option Nat} (hg : w.grownBy w' row) {b o : Nat} (h : b < w.heap.size) (hne : row ≠ some b) : w'.frozen? ⟨b, o, none⟩ = w.frozen? ⟨b, o, none⟩ :=
  World.frozen?_of_block (w := w) (hg.block b h (fun e => hne e.symm))
/-- Values laid one behind the other from place p on. -/
def setAll : List Value → Nat → List Value → List Value
  | xs, _, [] => xs
  | xs, p, v :: vs => setAll (xs.set p v) (p + 1) vs
theorem setAll_eq : ∀ (vs xs : List Value) (p : Nat), p + vs.length ≤ xs.length → setAll xs p vs = xs.take p ++ vs ++ xs.drop (p + vs.length)
  | [], xs, p, _ => by simp [setAll]
  | v :: vs, xs, p, h => by
    have h' : p < xs.length := by simp at h; omega
    rw [setAll, setAll_eq vs (xs.set p v) (p + 1) (by simp at h ⊢; omega)]
    have e1 : (xs.set p v).take (p + 1) = xs.take p ++ [v] := by
      rw [List.take_succ_eq_append_getElem (by simpa using h'), List.take_set, List.set_eq_of_length_le (by simp; omega)]
      simp
    have e2 : (xs.set p v).drop (p + 1 + vs.length) = xs.drop (p + (v :: vs).length) := by
      rw [List.drop_set_of_lt (by omega)]
      congr 1
      simp; omega
    rw [e1, e2]
    simp
def setCellsAt (w : World) (g : Nat) : Nat → List Value → World
  | _, [] => w
  | p, v :: vs => setCellsAt (w.setCell ⟨g, p, none⟩ v) g (p + 1) vs
theorem ownsRow_setAll {base : Nat} {e : TypeId} {size g n cap : Nat} : ∀ (vs : List Value) (p : Nat) (w : World) (xs : List Value), w.ownsRow base e size (.slice (some ⟨g, 0, none⟩) n cap) n xs →
    (setCellsAt w g p vs).ownsRow base e size (.slice (some ⟨g, 0, none⟩) n cap) n (setAll xs p vs)
  | [], _, _, _, h => h
  | v :: vs, p, _, _, h => ownsRow_setAll vs (p + 1) _ _ (h.stored p v).1
/-- A struct stored whole into an owned row of structs. -/
theorem ownsRow_struct {α : Type} {w : World} {base : Nat} {e : TypeId} {g n cap : Nat} (f : α → List Value) (s : Nat) (hf : ∀ x, (f x).length = s) (l : List α) (i : Nat) (y : α) (hi : i < l.length)
    (h : w.ownsRow base e s (.slice (some ⟨g, 0, none⟩) n cap) n (l.flatMap f)) : (setCellsAt w g (i * s) (f y)).ownsRow base e s (.slice (some ⟨g, 0, none⟩) n cap) n ((l.set i y).flatMap f) := by
  have h1 := ownsRow_setAll (f y) (i * s) w _ h
  rw [setAll_eq (f y) (l.flatMap f) (i * s) (by
    rw [hf, length_flatMap_row f s hf]
    have : (i + 1) * s ≤ l.length * s := Nat.mul_le_mul_right s hi
    rw [Nat.succ_mul] at this; omega), hf] at h1
  rw [flatMap_set f s hf l i y hi]
  exact h1
end Go.Proofs.YtmaalbbclldnpaaGreatDoor
