/- place.loads: a map of the call's own, read as a function. -/
import Derived.Test.YtigkcbnlbdiimaaPlace3
import Derived.Maps.OwnOps
import Derived.Maps.Views
namespace Go.Proofs.Ytigkcbnlbdiimaa
open Go.RowKit Go.Maps
theorem law_int : Keyed Try.prog 3 := int_keyed Try.underlying3
theorem zero_int (w : World) : (zeroValue 3).run Try.prog w = .ok (.int .i64 0) w := by kernel_rfl
/-- Block b is a map of at most n entries that reads as the function f. -/
def MapIs (w : World) (b n : Nat) (f : Int → Int) : Prop :=
  ∃ D : DataW Unit, w.ownsMap Try.prog 3 (plainElem Try.prog 3) b n D ∧ IsMap D ∧ ∀ k : Int, D.atKey (.int .i64 k) (.lit (.int .i64 0)) = .lit (.int .i64 (f k))
theorem MapIs.made (w : World) : MapIs (w.alloc (.map #[] 0)) w.heap.size 0 (fun _ => 0) :=
  ⟨.map [], World.ownsMap_made _ _ _ _, isMap_empty, fun _ => rfl⟩
theorem MapIs.lt {w : World} {b n : Nat} {f : Int → Int} (h : MapIs w b n f) : b < w.heap.size := by
  obtain ⟨_, h, _, _⟩ := h
  exact h.lt
theorem MapIs.kept {w w' : World} {b n : Nat} {f : Int → Int} {row : Option Nat} (h : MapIs w b n f) (hg : w.grownBy w' row) (hne : some b ≠ row) : MapIs w' b n f := by
  obtain ⟨D, h1, h2, h3⟩ := h
  exact ⟨D, h1.kept hg hne, h2, h3⟩
theorem MapIs.below {w w' : World} {b n : Nat} {f : Int → Int} (h : MapIs w b n f) (hb : Below w.heap.size w w') : MapIs w' b n f :=
  h.kept (row := none) ⟨hb.os, hb.tape, hb.output, hb.size, fun k hk _ => hb.block k hk⟩ (by simp)
theorem MapIs.put {w : World} {b n : Nat} {f : Int → Int} {D : DataW Unit} {k c : Int} (h : w.ownsMap Try.prog 3 (plainElem Try.prog 3) b n (D.put (.int .i64 k) (.lit (.int .i64 c)))) (hm : IsMap D)
    (hf : ∀ k : Int, D.atKey (.int .i64 k) (.lit (.int .i64 0)) = .lit (.int .i64 (f k))) : MapIs w b n (fun j => if j = k then c else f j) := by
  refine ⟨_, h, ?_, fun j => ?_⟩
  · obtain ⟨es, rfl⟩ := hm
    exact ⟨_, rfl⟩
  · show _ = DataW.lit (.int .i64 (if j = k then c else f j))
    by_cases hj : j = k
    · subst hj
      rw [if_pos rfl]
      exact atKey_put_same hm (k := .int .i64 j) (show WideAt.IsKeyLit (.int .i64 j) from trivial) _ _
    · rw [if_neg hj, atKey_put_other (fun e => hj (by simpa using e))]
      exact hf j
theorem wf_i64 {n : Int} (h1 : -9223372036854775808 ≤ n) (h2 : n ≤ 9223372036854775807) : (Lit.int .i64 n).wf = true := by
  simp [Lit.wf, IntKind.min, IntKind.max, IntKind.bits, IntKind.signed]
  omega
theorem wpList_look (w : World) {ops : Array Oper} {rest : List Oper} {o : Oper} {a : Act} {Q : Exit → Act → World → Prop} (hg : o.guard = none) (m x : Operand) (hop : o.op = Op.lookup 132 m x false)
    (b n : Nat) (f : Int → Int) (hm : a.eval m = .map (some b)) (h : MapIs w b n f) (key : Int) (hx : a.eval x = .int .i64 key) (hw : (Lit.int .i64 key).wf = true)
    (hK : wpList Try.prog ops Q rest (a.put o.dst (.int .i64 (f key))) w) : wpList Try.prog ops Q (o :: rest) a w := by
  obtain ⟨D, h1, h2, h3⟩ := h
  refine wpList_lookup_own_int w hg m x 132 hop 3 3 .i64 law_int Try.underlying132 Try.underlying3 (zero_int _) b n D hm h1 _ _ hx (keyOf_int_mk Try.underlying3 hw) fun c hat _ => ?_
  rw [h3 key] at hat
  have hc : f key = c := by simpa using hat
  rw [← hc]
  exact hK
theorem wpList_mark (w : World) {ops : Array Oper} {rest : List Oper} {o : Oper} {a : Act} {Q : Exit → Act → World → Prop} (hg : o.guard = none) (m x v : Operand) (hop : o.op = Op.mapUpdate 132 m x v)
    (b n : Nat) (f : Int → Int) (hm : a.eval m = .map (some b)) (h : MapIs w b n f) (hn : n < maxLen) (key c : Int) (hx : a.eval x = .int .i64 key) (hv : a.eval v = .int .i64 c) (hw : (Lit.int .i64 key).wf = true) (hw2 : (Lit.int .i64 c).wf = true)
    (hK : ∀ w', MapIs w' b (n + 1) (fun j => if j = key then c else f j) → w.grownBy w' (some b) → wpList Try.prog ops Q rest (a.put o.dst undef) w') : wpList Try.prog ops Q (o :: rest) a w := by
  obtain ⟨D, h1, h2, h3⟩ := h
  exact wpList_mapUpdate_own w hg m x v 132 hop 3 3 law_int Try.underlying132 _ b n D hm h1 hn _ _ _ hx hv (keyOf_int_mk Try.underlying3 hw) _ [] (plainElem_int Try.underlying3 hw2) fun w' h4 h5 => hK w' (MapIs.put h4 h2 h3) h5
/-- How often a node stands in entries. -/
def slotN (x : Ent) (n : Int) : Nat := (if x.n0 = n then 1 else 0) + (if x.n1 = n then 1 else 0) + (if x.n2 = n then 1 else 0)
def slotsN (es : List Ent) (n : Int) : Nat := (es.map fun x => slotN x n).sum
theorem slotsN_snoc (es : List Ent) (k : Nat) (x : Ent) (hx : es[k]? = some x) (n : Int) : slotsN (es.take (k + 1)) n = slotsN (es.take k) n + slotN x n := by
  rw [take_snoc_get es k x hx]
  simp [slotsN]
theorem slotN_le (x : Ent) (n : Int) : slotN x n ≤ 3 := by unfold slotN; repeat (first | omega | split)
theorem slotsN_le (es : List Ent) (n : Int) : slotsN es n ≤ es.length * 3 := by
  induction es with
  | nil => simp [slotsN]
  | cons x es ih =>
    have := slotN_le x n
    simp only [slotsN, List.map_cons, List.sum_cons, List.length_cons] at ih ⊢
    omega
/-- Nodes may be such, and an entry's are apart. -/
def NodesOk (es : List Ent) : Prop := ∀ x ∈ es, placeB x.n0 = true ∧ placeB x.n1 = true ∧ placeB x.n2 = true ∧ x.n0 ≠ x.n1 ∧ x.n0 ≠ x.n2 ∧ x.n1 ≠ x.n2
theorem slots_load (es : List Ent) (h : NodesOk es) (n : Int) : slotsN es n = loadN es n := by
  induction es with
  | nil => rfl
  | cons x es ih =>
    have ih' := ih (fun y hy => h y (List.mem_cons_of_mem _ hy))
    obtain ⟨_, _, _, h1, h2, h3⟩ := h x List.mem_cons_self
    simp only [slotsN, loadN, List.map_cons, List.sum_cons, List.countP_cons] at ih' ⊢
    rw [ih', Nat.add_comm]
    congr 1
    unfold slotN hasB
    by_cases a0 : x.n0 = n
    · have a1 : x.n1 ≠ n := fun e => h1 (by rw [a0, e])
      have a2 : x.n2 ≠ n := fun e => h2 (by rw [a0, e])
      simp [a0, a1, a2]
    · by_cases a1 : x.n1 = n
      · have a2 : x.n2 ≠ n := fun e => h3 (by rw [a1, e])
        simp [a0, a1, a2]
      · by_cases a2 : x.n2 = n <;> simp [a0, a1, a2]
set_option maxRecDepth 100000 in
set_option maxHeartbeats 4000000 in
theorem loads_any (base : Nat) (v : Value) (es : List Ent) (w : World) (h : w.ownsRow base 37 6 v es.length (es.flatMap Ent.row)) (hfew : es.length ≤ 4096) (hok : NodesOk es) :
    Calls Try.prog 73 #[v] w fun e w' => ∃ n, e = .returned (.map (some w.heap.size)) ∧ n ≤ 12288 ∧ MapIs w' w.heap.size n (fun k => (loadN es k : Int)) ∧ Below w.heap.size w w' := by
  have H := Lib.hid h
  have HOK := Lib.hid hok
  obtain ⟨a0, cap0, rfl⟩ := ownsRow_len h
  clear h hok
  have hmm := @run_makeMap Try.prog
  go_enter Try.func73, Try.ntmps73
  go_wp2_with fail
  clear hmm
  go_loopw [11] (fun i wr => ∃ k : Nat, k ≤ es.length ∧ i = .int .i64 k ∧ MapIs wr w.heap.size (3 * k) (fun j => (slotsN (es.take k) j : Int)) ∧ Below w.heap.size w wr) (fun i _ => es.length - (intOf i).toNat)
  case atStart => exact ⟨0, Nat.zero_le _, rfl, MapIs.made w, (by repeat (first | (with_reducible exact Below.refl _ _) | (with_reducible refine Below.setCell ?_ ?_ _) | (with_reducible refine Below.alloc ?_ ?_ _) | (with_reducible refine Below.drewN ?_ _) | (with_reducible refine Below.drew ?_) | (with_reducible exact Nat.le_refl _) | (focus (simp only [World.size_alloc, World.size_setCell, World.size_drew, World.size_drewN]; omega)) | omega | exact Nat.le_refl _ | (focus (simp; done)) | (focus (simp; omega))))⟩
  case round =>
    obtain ⟨k, hk, rfl, hmap, hbw⟩ := hrel
    have HM := Lib.hid hmap
    have HBW := Lib.hid hbw
    have hzr := hbw.size
    have hlm := hmap.lt
    clear hmap hbw
    by_cases hlt : k < es.length
    · obtain ⟨x, hx⟩ : ∃ x, es[k]? = some x := ⟨_, List.getElem?_eq_getElem hlt⟩
      obtain ⟨g3, cc3, e3, hg3, _, _, x0, x1, x2, x3, x4, x5⟩ := row_ent (ownsRow_below H.out HBW.out) k x hx
      obtain ⟨e3', -, e3''⟩ := slice_inj e3
      subst e3' e3''
      have HS := Lib.hid (slotsN_snoc es k x hx)
      obtain ⟨p0, p1, p2, d01, d02, d12⟩ := HOK.out x (List.mem_of_getElem? hx)
      have hwk : ∀ n, placeB n = true → (Lit.int .i64 n).wf = true := fun n h => by simp [placeB] at h; exact wf_i64 (by omega) (by omega)
      have W0 := Lib.hid (hwk _ p0)
      have W1 := Lib.hid (hwk _ p1)
      have W2 := Lib.hid (hwk _ p2)
      have HLE := Lib.hid (fun j => (slotsN_le (es.take k) j))
      have HD := Lib.hid (And.intro d01 (And.intro d02 d12))
      clear e3 hx p0 p1 p2 d01 d02 d12 hwk
      obtain ⟨xv, xe, xa, xb, xc, xs⟩ := x
      simp only at x0 x1 x2 x3 x4 x5
      obtain ⟨f, hf⟩ : ∃ f : Int → Int, f = (fun j => (slotsN (es.take k) j : Int)) := ⟨_, rfl⟩
      have hfb : ∀ j, 0 ≤ f j ∧ f j ≤ 12300 := fun j => by
        have h := HLE.out j
        rw [List.length_take] at h
        rw [hf]
        show 0 ≤ (slotsN (es.take k) j : Int) ∧ (slotsN (es.take k) j : Int) ≤ 12300
        omega
      have HM' := Lib.hid (show MapIs wr w.heap.size (3 * k) f by rw [hf]; exact HM.out)
      have HF := Lib.hid hf
      clear hf HM
      have b0 := hfb xa
      have b1 := hfb xb
      have b2 := hfb xc
      clear hfb
      have ix0 : ∀ w, (Instr.index 30 (.agg #[.int .i64 xa, .int .i64 xb, .int .i64 xc]) (.int .i64 0)).run Try.prog w = .ok (.int .i64 xa) w := fun _ => by kernel_rfl
      have ix1 : ∀ w, (Instr.index 30 (.agg #[.int .i64 xa, .int .i64 xb, .int .i64 xc]) (.int .i64 1)).run Try.prog w = .ok (.int .i64 xb) w := fun _ => by kernel_rfl
      have ix2 : ∀ w, (Instr.index 30 (.agg #[.int .i64 xa, .int .i64 xb, .int .i64 xc]) (.int .i64 2)).run Try.prog w = .ok (.int .i64 xc) w := fun _ => by kernel_rfl
      have hk0 : (0 : Int) ≤ (k : Int) := by omega
      have hk1 : (k : Int) < (es.length : Int) := by omega
      go_wp2_with fail
      refine wp_loop_rounds 4 ?_
      rw [rounds_succ]
      go_wp2_with (first
        | (at_lookup; refine wpList_look _ rfl _ _ rfl w.heap.size (3 * k) f rfl (HM'.out.below (by repeat (first | (with_reducible exact Below.refl _ _) | (with_reducible refine Below.setCell ?_ ?_ _) | (with_reducible refine Below.alloc ?_ ?_ _) | (with_reducible refine Below.drewN ?_ _) | (with_reducible refine Below.drew ?_) | (with_reducible exact Nat.le_refl _) | (focus (simp only [World.size_alloc, World.size_setCell, World.size_drew, World.size_drewN]; omega)) | omega | exact Nat.le_refl _ | (focus (simp; done)) | (focus (simp; omega))))) xa rfl W0.out ?_)
        | (at_mapUpdate; refine wpList_mark _ rfl _ _ _ rfl w.heap.size (3 * k) f rfl (HM'.out.below (by repeat (first | (with_reducible exact Below.refl _ _) | (with_reducible refine Below.setCell ?_ ?_ _) | (with_reducible refine Below.alloc ?_ ?_ _) | (with_reducible refine Below.drewN ?_ _) | (with_reducible refine Below.drew ?_) | (with_reducible exact Nat.le_refl _) | (focus (simp only [World.size_alloc, World.size_setCell, World.size_drew, World.size_drewN]; omega)) | omega | exact Nat.le_refl _ | (focus (simp; done)) | (focus (simp; omega))))) (by unfold maxLen; omega) xa _ rfl rfl W0.out (wf_i64 (by omega) (by omega)) ?_; intro w4 hm4 hg4; have HM4 := Lib.hid hm4; have hz4 := hg4.size; have HG4 := Lib.hid hg4; clear hm4 hg4))
      obtain ⟨f1, hf4⟩ : ∃ f1 : Int → Int, f1 = (fun j => if j = xa then f xa + 1 else f j) := ⟨_, rfl⟩
      have b11 : f1 xb = f xb := by rw [hf4]; show (if xb = xa then _ else _) = _; rw [if_neg (fun e => HD.out.1 e.symm)]
      have b12 : f1 xc = f xc := by rw [hf4]; show (if xc = xa then _ else _) = _; rw [if_neg (fun e => HD.out.2.1 e.symm)]
      have c1 : 0 ≤ f1 xb ∧ f1 xb ≤ 12300 := by omega
      have c2 : 0 ≤ f1 xc ∧ f1 xc ≤ 12300 := by omega
      have B1 := Lib.hid (And.intro b11 b12)
      clear b11 b12
      rw [← hf4] at HM4
      have HF4 := Lib.hid hf4
      clear hf4
      rw [rounds_succ]
      go_wp2_with (first
        | (at_lookup; refine wpList_look _ rfl _ _ rfl w.heap.size (3 * k + 1) f1 rfl HM4.out xb rfl W1.out ?_)
        | (at_mapUpdate; refine wpList_mark _ rfl _ _ _ rfl w.heap.size (3 * k + 1) f1 rfl HM4.out (by unfold maxLen; omega) xb _ rfl rfl W1.out (wf_i64 (by omega) (by omega)) ?_; intro w5 hm5 hg5; have HM5 := Lib.hid hm5; have hz5 := hg5.size; have HG5 := Lib.hid hg5; clear hm5 hg5))
      obtain ⟨f2, hf5⟩ : ∃ f2 : Int → Int, f2 = (fun j => if j = xb then f1 xb + 1 else f1 j) := ⟨_, rfl⟩
      have b22 : f2 xc = f1 xc := by rw [hf5]; show (if xc = xb then _ else _) = _; rw [if_neg (fun e => HD.out.2.2 e.symm)]
      have c3 : 0 ≤ f2 xc ∧ f2 xc ≤ 12300 := by omega
      have B2 := Lib.hid b22
      clear b22
      rw [← hf5] at HM5
      have HF5 := Lib.hid hf5
      clear hf5
      rw [rounds_succ]
      go_wp2_with (first
        | (at_lookup; refine wpList_look _ rfl _ _ rfl w.heap.size (3 * k + 2) f2 rfl HM5.out xc rfl W2.out ?_)
        | (at_mapUpdate; refine wpList_mark _ rfl _ _ _ rfl w.heap.size (3 * k + 2) f2 rfl HM5.out (by unfold maxLen; omega) xc _ rfl rfl W2.out (wf_i64 (by omega) (by omega)) ?_; intro w6 hm6 hg6; have HM6 := Lib.hid hm6; have hz6 := hg6.size; have HG6 := Lib.hid hg6; clear hm6 hg6))
      rw [rounds_succ]
      go_wp2_with fail
      go_roundw
      case rel =>
        refine ⟨k + 1, by omega, by go_num, ?_, ?_⟩
        · have hm := HM6.out
          have e : (fun j => if j = xc then f2 xc + 1 else f2 j) = (fun j => (slotsN (es.take (k + 1)) j : Int)) := by
            funext j
            rw [HS.out j]
            have hfj : f j = (slotsN (es.take k) j : Int) := by rw [HF.out]
            obtain ⟨d01, d02, d12⟩ := HD.out
            have d01 : xa ≠ xb := d01
            have d02 : xa ≠ xc := d02
            have d12 : xb ≠ xc := d12
            obtain ⟨e1, e2⟩ := B1.out
            rw [B2.out, e2]
            by_cases jc : j = xc
            · subst jc
              rw [if_pos rfl, hfj]
              simp [slotN, d02, d12]
            · rw [if_neg jc, HF5.out]
              show (if j = xb then _ else _) = _
              by_cases jb : j = xb
              · subst jb
                rw [if_pos rfl, e1, hfj]
                simp [slotN, d01, Ne.symm d12]
              · rw [if_neg jb, HF4.out]
                show (if j = xa then _ else _) = _
                by_cases ja : j = xa
                · subst ja
                  rw [if_pos rfl, hfj]
                  simp [slotN, Ne.symm d01, Ne.symm d02]
                · rw [if_neg ja, hfj]
                  simp [slotN, Ne.symm ja, Ne.symm jb, Ne.symm jc]
          rw [e] at hm
          exact hm
        · simp only [World.size_alloc] at hz4
          exact ((((HBW.out.alloc hzr _).grown HG4.out (by first | omega | (simp; done) | (simp; omega)) (fun j e => by cases e; exact Nat.le_refl _)).grown HG5.out (by first | omega | (simp; done) | (simp; omega)) (fun j e => by cases e; exact Nat.le_refl _)).grown HG6.out (by first | omega | (simp; done) | (simp; omega)) (fun j e => by cases e; exact Nat.le_refl _))
      case measure => simp [intOf]; omega
    · have HK := Lib.hid (show es.take k = es from List.take_of_length_le (by omega))
      go_wp2_with fail
      go_ret
      refine ⟨3 * k, rfl, by omega, ?_, HBW.out⟩
      have hm := HM.out
      have e : (fun j => (slotsN (es.take k) j : Int)) = (fun j => (loadN es j : Int)) := by
        funext j
        rw [HK.out, slots_load es HOK.out j]
      rw [e] at hm
      exact hm
end Go.Proofs.Ytigkcbnlbdiimaa
