/- Small laws on worlds, rows of structs and frames: whatever the program. No condition. -/
import Derived.WalkKit
import Derived.WalkSpells
import Derived.WalkLawsBesides
import Derived.Lib.Hide
import Derived.BigQuiet
import Derived.Deep.QuietTactic
namespace Go.Proofs.Ytcicnjlkcbimgaa
open Go.RowKit

/-- Only blocks of F (and new ones) may have turned. -/
structure Keeps (F : Nat → Prop) (w w' : World) : Prop where
  os : w'.os = w.os
  tape : w'.tape = w.tape
  output : w'.output = w.output
  size : w.heap.size ≤ w'.heap.size
  block : ∀ k, k < w.heap.size → ¬ F k → w'.heap[k]? = w.heap[k]?

theorem Keeps.refl (F : Nat → Prop) (w : World) : Keeps F w w := ⟨rfl, rfl, rfl, Nat.le_refl _, fun _ _ _ => rfl⟩
theorem Keeps.mono {F G : Nat → Prop} {w w' : World} (h : Keeps F w w') (hs : ∀ k, k < w.heap.size → F k → G k) : Keeps G w w' :=
  ⟨h.os, h.tape, h.output, h.size, fun k hk hn => h.block k hk (fun hf => hn (hs k hk hf))⟩
theorem Keeps.trans {F G : Nat → Prop} {a b c : World} (h : Keeps F a b) (k : Keeps G b c) (hs : ∀ i, i < a.heap.size → G i → F i) : Keeps F a c :=
  ⟨k.os.trans h.os, k.tape.trans h.tape, k.output.trans h.output, Nat.le_trans h.size k.size,
   fun i hi hn => (k.block i (Nat.lt_of_lt_of_le hi h.size) (fun hg => hn (hs i hi hg))).trans (h.block i hi hn)⟩
theorem Keeps.of_below {F : Nat → Prop} {B : Nat} {w w' : World} (h : Below B w w') (hB : ∀ k, k < w.heap.size → ¬ F k → k < B) : Keeps F w w' :=
  ⟨h.os, h.tape, h.output, h.size, fun k hk hn => h.block k (hB k hk hn)⟩
theorem Keeps.below {F : Nat → Prop} {B : Nat} {w w' : World} (h : Keeps F w w') (hB : B ≤ w.heap.size) (hF : ∀ k, F k → B ≤ k) : Below B w w' :=
  ⟨h.os, h.tape, h.output, h.size, fun k hk => h.block k (by omega) (fun hf => by have := hF k hf; omega)⟩
theorem Keeps.drew {F : Nat → Prop} {a w : World} (h : Keeps F a w) : Keeps F a w.drew := ⟨h.os, h.tape, h.output, h.size, h.block⟩
theorem Keeps.drewN {F : Nat → Prop} {a w : World} (h : Keeps F a w) (n : Nat) : Keeps F a (w.drewN n) := ⟨h.os, h.tape, h.output, h.size, h.block⟩
theorem Keeps.alloc {F : Nat → Prop} {a w : World} (h : Keeps F a w) (o : Obj) : Keeps F a (w.alloc o) :=
  ⟨h.os, h.tape, h.output, Nat.le_trans h.size (by simp), fun k hk hn => by
    rw [Below.heap_alloc w o k (Nat.lt_of_lt_of_le hk h.size)]; exact h.block k hk hn⟩
theorem Keeps.setCell {F : Nat → Prop} {a w : World} (h : Keeps F a w) (p : Addr) (u : Value) (hp : p.block < a.heap.size → F p.block) : Keeps F a (w.setCell p u) :=
  ⟨h.os, h.tape, h.output, by have := h.size; simpa [World.setCell] using this, fun k hk hn => by
    rw [Below.heap_setCell w p u k (fun e => hn (e ▸ hp (e ▸ hk)))]; exact h.block k hk hn⟩
theorem Keeps.grown {F : Nat → Prop} {a w w' : World} {row : Option Nat} (h : Keeps F a w) (hg : w.grownBy w' row) (hr : ∀ k, row = some k → k < a.heap.size → F k) : Keeps F a w' :=
  ⟨hg.os.trans h.os, hg.tape.trans h.tape, hg.output.trans h.output, Nat.le_trans h.size hg.size, fun k hk hn =>
    (hg.block k (Nat.lt_of_lt_of_le hk h.size) (fun e => hn (hr k e.symm hk))).trans (h.block k hk hn)⟩
theorem Keeps.cell {F : Nat → Prop} {w w' : World} (h : Keeps F w w') {b : Nat} (hb : b < w.heap.size) (hn : ¬ F b) (o : Nat) : w'.cell? ⟨b, o, none⟩ = w.cell? ⟨b, o, none⟩ :=
  World.cell?_of_block (w := w) (h.block b hb hn)
theorem Keeps.frozen {F : Nat → Prop} {w w' : World} (h : Keeps F w w') {b : Nat} (hb : b < w.heap.size) (hn : ¬ F b) (o : Nat) : w'.frozen? ⟨b, o, none⟩ = w.frozen? ⟨b, o, none⟩ :=
  World.frozen?_of_block (w := w) (h.block b hb hn)

/-- An owned row in a world in which its block has not turned. -/
theorem ownsRow_at {w w' : World} {base : Nat} {e : TypeId} {size : Nat} {v : Value} {n : Nat} {xs : List Value} (h : w.ownsRow base e size v n xs)
    (hk : ∀ k, v.ownBlock = some k → w'.heap[k]? = w.heap[k]?) : w'.ownsRow base e size v n xs := by
  obtain ⟨h1, h2⟩ := h
  refine ⟨h1, ?_⟩
  rcases h2 with h2 | ⟨g, cap, cur, rfl, hg, hh, r⟩
  · exact .inl h2
  · exact .inr ⟨g, cap, cur, rfl, hg, by rw [hk g rfl]; exact hh, r⟩
theorem ownsRow_mono {w : World} {base base' : Nat} {e : TypeId} {size : Nat} {v : Value} {n : Nat} {xs : List Value} (h : w.ownsRow base e size v n xs) (hb : base' ≤ base) :
    w.ownsRow base' e size v n xs := by
  obtain ⟨h1, h2⟩ := h
  refine ⟨h1, ?_⟩
  rcases h2 with h2 | ⟨g, cap, cur, rfl, hg, r⟩
  · exact .inl h2
  · exact .inr ⟨g, cap, cur, rfl, Nat.le_trans hb hg, r⟩
theorem ownsRow_keeps {F : Nat → Prop} {w w' : World} {base : Nat} {e : TypeId} {size : Nat} {v : Value} {n : Nat} {xs : List Value} (h : w.ownsRow base e size v n xs)
    (hk : Keeps F w w') (hn : ∀ k, v.ownBlock = some k → ¬ F k) : w'.ownsRow base e size v n xs :=
  ownsRow_at h fun k hv => hk.block k (h.lt k hv).2 (hn k hv)
theorem ownsRow_len {w : World} {base : Nat} {e : TypeId} {size : Nat} {v : Value} {n : Nat} {xs : List Value} (h : w.ownsRow base e size v n xs) :
    ∃ a c, v = .slice a n c := by
  rcases h.2 with ⟨rfl, rfl⟩ | ⟨g, cap, cur, rfl, _⟩
  · exact ⟨_, _, rfl⟩
  · exact ⟨_, _, rfl⟩

/-- The cells of a row of structs. -/
theorem getElem?_flatMap_row {α : Type} (f : α → List Value) (s : Nat) (hf : ∀ x, (f x).length = s) (l : List α) (i j : Nat) (hj : j < s) :
    (l.flatMap f)[i * s + j]? = l[i]?.bind fun x => (f x)[j]? := by
  induction l generalizing i with
  | nil => simp
  | cons x l ih =>
    rw [List.flatMap_cons]
    cases i with
    | zero => rw [List.getElem?_append_left (by rw [hf]; omega)]; simp
    | succ i =>
      rw [List.getElem?_append_right (by rw [hf, Nat.succ_mul]; omega), hf, show (i + 1) * s + j - s = i * s + j by rw [Nat.succ_mul]; omega, ih]
      simp
theorem length_flatMap_row {α : Type} (f : α → List Value) (s : Nat) (hf : ∀ x, (f x).length = s) (l : List α) : (l.flatMap f).length = l.length * s := by
  induction l with
  | nil => simp
  | cons x l ih => rw [List.flatMap_cons, List.length_append, hf, ih, List.length_cons, Nat.succ_mul]; omega
/-- One cell of one struct of an owned row. -/
theorem ownsRow_cell {α : Type} {w : World} {base : Nat} {e : TypeId} {g n cap : Nat} (f : α → List Value) (s : Nat) (hf : ∀ x, (f x).length = s) (l : List α)
    (h : w.ownsRow base e s (.slice (some ⟨g, 0, none⟩) n cap) n (l.flatMap f)) (i j : Nat) (x : α) (hx : l[i]? = some x) (hj : j < s) :
    w.cell? ⟨g, i * s + j, none⟩ = (f x)[j]? := by
  have hl : n = l.length := by
    have h1 := h.1
    rw [length_flatMap_row f s hf] at h1
    exact (Nat.eq_of_mul_eq_mul_right (by omega) h1).symm
  have hi : i < l.length := (List.getElem?_eq_some_iff.1 hx).1
  have hlt : i * s + j < n * s := by
    have : (i + 1) * s ≤ l.length * s := Nat.mul_le_mul_right s hi
    rw [Nat.succ_mul] at this
    rw [hl]; omega
  rw [h.cellAt (i * s + j) hlt, getElem?_flatMap_row f s hf l i j hj, hx]
  rfl
/-- A row of structs as cells of one block. -/
theorem flatMap_set {α : Type} (f : α → List Value) (s : Nat) (hf : ∀ x, (f x).length = s) (l : List α) (i : Nat) (x : α) (hi : i < l.length) :
    (l.set i x).flatMap f = (l.flatMap f).take (i * s) ++ f x ++ (l.flatMap f).drop (i * s + s) := by
  induction l generalizing i with
  | nil => simp at hi
  | cons y l ih =>
    cases i with
    | zero => simp [List.flatMap_cons, List.drop_append, hf]
    | succ i =>
      have hi' : i < l.length := by simpa using hi
      have e1 : (i + 1) * s - s = i * s := by rw [Nat.succ_mul]; omega
      have e2 : (i + 1) * s + s - s = i * s + s := by rw [Nat.succ_mul]; omega
      have t1 : List.take ((i + 1) * s) (f y) = f y := List.take_of_length_le (by rw [hf, Nat.succ_mul]; omega)
      have t2 : List.drop ((i + 1) * s + s) (f y) = [] := List.drop_eq_nil_of_le (by rw [hf, Nat.succ_mul]; omega)
      rw [List.set_cons_succ, List.flatMap_cons, List.flatMap_cons, ih i hi', List.take_append, List.drop_append, hf, e1, e2, t1, t2]
      simp
theorem ret_int {k : IntKind} {a b : Int} (h : a = b) : Ending.returned (.int k a) = .returned (.int k b) := by rw [h]
theorem ret_bool {a b : Bool} (h : a = b) : Ending.returned (.bool a) = .returned (.bool b) := by rw [h]
theorem quiet_of_eq {P : Program} {f : FuncId} {args : Array Value} {w : World} {n : Nat} {v : Value}
    (h : Calls P f args (w.drewN n) fun e w' => e = .returned v ∧ w.drewN n = w') : Calls P f args (w.drewN n) fun e w'' => e = .returned v ∧ ∃ m, w'' = w.drewN m :=
  Calls.quiet_of_same (h.mono fun _ _ ⟨he, hm⟩ => ⟨he, hm.symm⟩)
theorem _root_.Go.RowKit.Below.drewN {B : Nat} {a w : World} (h : Below B a w) (n : Nat) : Below B a (w.drewN n) := ⟨h.os, h.tape, h.output, h.size, h.block⟩
@[go_sem] theorem setCell_drewN (w : World) (n : Nat) (a : Addr) (v : Value) : (w.drewN n).setCell a v = (w.setCell a v).drewN n := rfl
@[go_sem] theorem alloc_drewN (w : World) (n : Nat) (o : Obj) : (w.drewN n).alloc o = (w.alloc o).drewN n := rfl
theorem ownsRow_cast {w : World} {base : Nat} {e : TypeId} {size : Nat} {v : Value} {n m : Nat} {xs ys : List Value} (h : w.ownsRow base e size v n xs) (hn : n = m) (hx : xs = ys) : w.ownsRow base e size v m ys := by
  subst hn hx; exact h
theorem ownsRow_below {w w' : World} {base : Nat} {e : TypeId} {size : Nat} {v : Value} {n : Nat} {xs : List Value} (h : w.ownsRow base e size v n xs) (hb : Below w.heap.size w w') : w'.ownsRow base e size v n xs :=
  ownsRow_at h (fun k hk => hb.block k (h.lt k hk).2)
/-- A slice value of n elements of sz cells each, that reads as xs. -/
def Reads (w : World) (sz : Nat) (v : Value) (n : Nat) (xs : List Value) : Prop :=
  xs.length = n * sz ∧ ((v = .slice none 0 0 ∧ n = 0) ∨ ∃ a c, v = .slice (some a) n c ∧ n ≤ maxLen ∧ ∀ j u, xs[j]? = some u → w.cell? (a.add j) = some u)
theorem reads_of_owns {w : World} {base : Nat} {e : TypeId} {size : Nat} {v : Value} {n : Nat} {xs : List Value} (h : w.ownsRow base e size v n xs) : Reads w size v n xs := by
  refine ⟨h.1, ?_⟩
  rcases h.2 with h2 | ⟨g, cap, cur, rfl, _, _, hn, hc, _⟩
  · exact .inl h2
  · exact .inr ⟨_, _, rfl, Nat.le_trans hn hc, h.cells (g := g) rfl⟩
/-- What a clone leaves. -/
def CloneOut (w : World) (E sz : Nat) (v : Value) (n : Nat) (xs : List Value) (e : Ending) (w' : World) : Prop :=
  ∃ v', e = .returned v' ∧ w'.ownsRow w.heap.size E sz v' n xs ∧ (v' = .slice none 0 0 ↔ v = .slice none 0 0) ∧ Below w.heap.size w w'
end Go.Proofs.Ytcicnjlkcbimgaa
