/- Arguments of chapter 07's statements: acts. -/
import Derived.Test.YtcicnjlkcbimgaaOpen07
import Derived.Test.YtcicnjlkcbimgaaDiskAct
import Derived.Test.YtcicnjlkcbimgaaDiskPicks
namespace Go.Proofs.Ytcicnjlkcbimgaa
open Go.RowKit Go.ChangeShapes Go.WideShapes Go.Deep
/-- An act as it came in: where its rows lie. -/
structure AArg where
  a : DAct
  ab : Option Addr
  cb : Nat
  af : Option Addr
  cf : Nat
def AArg.row (x : AArg) : List Value := [.int .i64 x.a.kind, .string ⟨x.a.name.toArray⟩, .string ⟨x.a.to.toArray⟩, .slice x.ab x.a.b.length x.cb, .int .i64 x.a.n, .int .i64 x.a.m, .int .i64 x.a.p.names, .slice x.af x.a.p.files.length x.cf]
theorem AArg.row_len (x : AArg) : x.row.length = 8 := rfl
structure AOk (w : World) (x : AArg) : Prop where
  name : x.a.name.length ≤ maxLen
  to : x.a.to.length ≤ maxLen
  n : -9223372036854775808 ≤ x.a.n ∧ x.a.n ≤ 9223372036854775807
  m : -9223372036854775808 ≤ x.a.m ∧ x.a.m ≤ 9223372036854775807
  pn : -9223372036854775808 ≤ x.a.p.names ∧ x.a.p.names ≤ 9223372036854775807
  pf : ∀ c ∈ x.a.p.files, PickOk c
  rb : Reads w 1 (.slice x.ab x.a.b.length x.cb) x.a.b.length (x.a.b.map bv)
  rf : Reads w 2 (.slice x.af x.a.p.files.length x.cf) x.a.p.files.length (x.a.p.files.flatMap DPick.row)
theorem AOk.below {w w' : World} {x : AArg} (h : AOk w x) (hb : Below w.heap.size w w') : AOk w' x := ⟨h.name, h.to, h.n, h.m, h.pn, h.pf, h.rb.below hb, h.rf.below hb⟩
section
variable {H : Type} {enc : TypeId × Value → H} {w : World} {base : Nat} {spare : Nat → Bool} {held : Bool}
theorem open_str {t : TypeId} (ht : Try.prog.underlying t = some .string) {fuel : Nat} {cs : List Value} {x : DataW H × List MemPlace} (h : DataW.trod enc Try.prog w base spare held fuel t cs = some x) : ∃ s : List UInt8, cs = [.string ⟨s.toArray⟩] ∧ s.length ≤ maxLen := by
  obtain ⟨s, h1, _, h2⟩ := DataW.trod_string ht h
  exact ⟨s.data.toList, by rw [h1], h2⟩
set_option maxRecDepth 100000 in
theorem act7_of {fuel : Nat} {cs : List Value} {x : DataW H × List MemPlace} (h : DataW.trod enc Try.prog w base spare held fuel 53 cs = some x) : ∃ c : AArg, cs = c.row ∧ AOk w c := by
  obtain ⟨xs, n, _, _, hlen, hxl, hf⟩ := DataW.trod_struct Try.underlying53 h
  have hC : Try.prog.cellsOf 53 = 8 := by kernel_rfl
  have hI : Try.prog.cellsOf 3 = 1 := by kernel_rfl
  have hS : Try.prog.cellsOf 9 = 1 := by kernel_rfl
  have hB : Try.prog.cellsOf 22 = 1 := by kernel_rfl
  have hP : Try.prog.cellsOf 25 = 2 := by kernel_rfl
  rw [hC] at hlen
  match cs, hlen with
  | [c0, c1, c2, c3, c4, c5, c6, c7], _ =>
    have e0 := hf 0 _ rfl
    have e1 := hf 1 _ rfl
    have e2 := hf 2 _ rfl
    have e3 := hf 3 _ rfl
    have e4 := hf 4 _ rfl
    have e5 := hf 5 _ rfl
    have e6 := hf 6 _ rfl
    simp [hI, hS, hB, hP] at e0 e1 e2 e3 e4 e5 e6
    match xs, hxl with
    | [x0, x1, x2, x3, x4, x5, x6], _ =>
      simp at e0 e1 e2 e3 e4 e5 e6
      obtain ⟨kind, h0, _⟩ := open_int Try.underlying3 e0
      obtain ⟨nm, h1, hn1⟩ := open_str Try.underlying9 e1
      obtain ⟨to, h2, hn2⟩ := open_str Try.underlying9 e2
      obtain ⟨ab, lb, cb, b, h3, h3l, h3r, _⟩ := open_bytes e3
      obtain ⟨nn, h4, hw4⟩ := open_int Try.underlying3 e4
      obtain ⟨mm, h5, hw5⟩ := open_int Try.underlying3 e5
      obtain ⟨p, af, cf, h6, h6r, h6o, h6a, h6b⟩ := picks_of e6
      simp at h0 h1 h2 h3 h4 h5 h6
      obtain ⟨h6, h7⟩ := h6
      subst h0 h1 h2 h3 h4 h5 h6 h7 h3l
      exact ⟨⟨⟨kind, nm, to, b, nn, mm, p⟩, ab, cb, af, cf⟩, rfl, ⟨hn1, hn2, wf_of_i64 hw4, wf_of_i64 hw5, ⟨h6a, h6b⟩, h6o, h3r, h6r⟩⟩
/-- The argument itself. -/
theorem arg_acts7 {a : Option Addr} {len cap : Nat} {d : DataW H} {p : List MemPlace} (h : DataW.Trod enc Try.prog w base spare held 50 (.slice a len cap) d p) :
    ∃ l : List AArg, l.length = len ∧ Reads w 8 (.slice a len cap) len (l.flatMap AArg.row) ∧ ∀ x ∈ l, AOk w x := by
  obtain ⟨fuel, hf⟩ := h
  obtain ⟨a', len', cap', l, h1, h2, h3, h4, _⟩ := open_row (α := AArg) Try.underlying50 (by kernel_rfl : Try.prog.cellsOf 53 = 8) (by omega) AArg.row AArg.row_len (AOk w) (fun _ _ _ h => act7_of h) hf
  simp [Value.cells] at h1
  obtain ⟨rfl, rfl, rfl⟩ := h1
  exact ⟨l, h2, h3, h4⟩
end
/-- The cells of one act. -/
theorem act_cells {w : World} {v : Value} {n : Nat} {l : List AArg} (h : Reads w 8 v n (l.flatMap AArg.row)) {k : Nat} {x : AArg} (hx : l[k]? = some x) (hn : 0 < n) :
    ∃ b o c, v = .slice (some ⟨b, o, none⟩) n c ∧ b < w.heap.size ∧ w.cell? ⟨b, o + k * 8, none⟩ = some (.int .i64 x.a.kind) ∧ w.cell? ⟨b, o + k * 8 + 1, none⟩ = some (.string ⟨x.a.name.toArray⟩) ∧ w.cell? ⟨b, o + k * 8 + 2, none⟩ = some (.string ⟨x.a.to.toArray⟩) ∧
      w.cell? ⟨b, o + k * 8 + 3, none⟩ = some (.slice x.ab x.a.b.length x.cb) ∧ w.cell? ⟨b, o + k * 8 + 4, none⟩ = some (.int .i64 x.a.n) ∧ w.cell? ⟨b, o + k * 8 + 5, none⟩ = some (.int .i64 x.a.m) ∧ w.cell? ⟨b, o + k * 8 + 6, none⟩ = some (.int .i64 x.a.p.names) ∧ w.cell? ⟨b, o + k * 8 + 7, none⟩ = some (.slice x.af x.a.p.files.length x.cf) := by
  obtain ⟨b, o, c, e, h1, _, h2⟩ := reads_at h hn (by omega)
  have key : ∀ j u, j < 8 → (x.row)[j]? = some u → w.cell? ⟨b, o + (k * 8 + j), none⟩ = some u := fun j u hj hu => h2 (k * 8 + j) u (by rw [getElem?_flatMap_row AArg.row 8 AArg.row_len l k j hj, hx]; exact hu)
  exact ⟨b, o, c, e, h1, key 0 _ (by omega) rfl, key 1 _ (by omega) rfl, key 2 _ (by omega) rfl, key 3 _ (by omega) rfl, key 4 _ (by omega) rfl, key 5 _ (by omega) rfl, key 6 _ (by omega) rfl, key 7 _ (by omega) rfl⟩
/-- Is it more than is looked at? -/
def badAct (x : AArg) : Bool := decide (300 < x.a.b.length) || (decide (60 < x.a.name.length) || (decide (60 < x.a.to.length) || (decide (100 < x.a.p.files.length) || (decide (x.a.kind < 0) || decide (11 < x.a.kind)))))
def farB (l : List AArg) : Bool := decide (60 < l.length) || l.any badAct
end Go.Proofs.Ytcicnjlkcbimgaa
