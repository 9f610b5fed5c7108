/- Joined texts: Ref07b, Ref07c, OrderT, OrderM, DiskAct, Disk07, Ref07d, Ref07e, Ref07f, DiskNil, DiskLastsLaw, DiskAlive, Same. -/
import Derived.Test.YtcicnjlkcbimgaaDp2
import Derived.Maps.AppendAt
import Derived.WideShapes
import Derived.WideAt
import Derived.Test.YtcicnjlkcbimgaaRows
/- corncribref07: without, with, Turn. -/
namespace Go.Proofs.Ytcicnjlkcbimgaa
open Go.RowKit Go.WideShapes Go.WideAt
theorem entry_info : (Try.prog.info? 72).map (fun i => (i.zero, i.size, i.bytes)) = some (some (.agg #[.string ⟨#[]⟩, .int .i64 0]), 2, 24) := by kernel_rfl
theorem del_snoc_no {l : Dir} {k : Nat} {x : Nm × Nat} (s : Nm) (hx : l[k]? = some x) (h : x.1 = s) : dirDel (l.take (k + 1)) s = dirDel (l.take k) s := by
  rw [take_snoc_at l k x hx]
  unfold dirDel
  rw [List.filter_append]
  simp [h]
theorem del_snoc_yes {l : Dir} {k : Nat} {x : Nm × Nat} (s : Nm) (hx : l[k]? = some x) (h : x.1 ≠ s) : dirDel (l.take (k + 1)) s = dirDel (l.take k) s ++ [x] := by
  rw [take_snoc_at l k x hx]
  unfold dirDel
  rw [List.filter_append]
  simp [h]
theorem ents_one (l : Dir) : ∀ u ∈ l.flatMap entRow, u.oneCell' = true := by
  intro u hu
  obtain ⟨m, _, hm⟩ := List.mem_flatMap.1 hu
  unfold entRow at hm
  simp only [List.mem_cons, List.not_mem_nil, or_false] at hm
  rcases hm with rfl | rfl <;> rfl
set_option maxRecDepth 100000 in
set_option maxHeartbeats 2000000 in
theorem without07_any (a : Option Addr) (n c : Nat) (l : Dir) (s : Nm) (w : World) (hl : l.length = n) (hr : Reads w 2 (.slice a n c) n (l.flatMap entRow)) (hn : n ≤ 4096) :
    Calls Try.prog 66 #[.slice a n c, .string ⟨s.toArray⟩] w fun e w' => ∃ v, e = .returned v ∧ w'.ownsRow w.heap.size 72 2 v (dirDel l s).length ((dirDel l s).flatMap entRow) ∧ Below w.heap.size w w' := by
  have HL := Lib.hid hl
  have HR := Lib.hid hr
  obtain ⟨i0, hi, hz0, hz1, hz2⟩ := info_parts entry_info
  have HI := Lib.hid hi
  have HZ0 := Lib.hid hz0
  have HZ1 := Lib.hid hz1
  have HZ2 := Lib.hid hz2
  clear hi hz0 hz1 hz2 hl hr
  go_enter Try.func66, Try.ntmps66
  go_wp2_with fail
  go_loopw [5, 6] (fun x i wr => ∃ k : Nat, k ≤ n ∧ i = .int .i64 k ∧ wr.ownsRow w.heap.size 72 2 x (dirDel (l.take k) s).length ((dirDel (l.take k) s).flatMap entRow) ∧ Below w.heap.size w wr) (fun _ i _ => n - (intOf i).toNat)
  case atStart => exact ⟨0, Nat.zero_le _, rfl, World.ownsRow_nil _ _ _ _, Below.refl _ _⟩
  case round =>
    obtain ⟨k, hk, rfl, hown, hbw⟩ := hrel
    have HOW := Lib.hid hown
    have HBW := Lib.hid hbw
    have hzr := hbw.size
    obtain ⟨al, cl, rfl⟩ := ownsRow_len hown
    clear hown hbw
    by_cases hlt : k < n
    · obtain ⟨x, hx⟩ : ∃ x, l[k]? = some x := ⟨_, List.getElem?_eq_getElem (by rw [HL.out]; exact hlt)⟩
      obtain ⟨b, o, cc, e, hbl, x0, x1⟩ := ent_at (HR.out.below HBW.out) hx (by omega)
      obtain ⟨rfl, -, rfl⟩ := sl_inj e
      have HX := Lib.hid hx
      have hk0 : (0 : Int) ≤ (k : Int) := by omega
      have hk1 : (k : Int) < (n : Int) := by omega
      have hdl : (dirDel (l.take k) s).length ≤ 4096 := by have := len_del (l.take k) s; rw [List.length_take] at this; omega
      clear hx e
      obtain ⟨t, f⟩ := x
      simp only at x0 x1
      by_cases hts : t = s
      · subst hts
        have HD := Lib.hid (del_snoc_no t HX.out rfl)
        go_wp2_with fail
        go_roundw
        case rel => exact ⟨k + 1, by omega, by go_num, by rw [HD.out]; exact HOW.out, HBW.out⟩
        case measure => simp [intOf]; omega
      · have hne : (t == s) = false := by simpa using hts
        have HD := Lib.hid (del_snoc_yes s HX.out hts)
        clear hts
        go_wp2_with (at_builtin; refine wpList_append_own _ rfl _ _ 60 rfl w.heap.size 72 i0 (.agg #[.string ⟨#[]⟩, .int .i64 0]) 2 24 Try.underlying60 HI.out HZ0.out HZ1.out HZ2.out rfl (by decide) _ _ _ rfl (HOW.out.alloc _) ⟨wr.heap.size, 0, none⟩ 1 1 [.string ⟨t.toArray⟩, .int .i64 f] rfl rfl (World.news_of_block (cs := #[.string ⟨t.toArray⟩, .int .i64 f]) (t := 72) (fr := (0, 0)) (heap_new wr _)) (by simp [Value.oneCell']) (by unfold maxLen; omega) (by omega) (by simp; omega) ?_; intro v' w5 hown' hgrow _; have HOX := Lib.hid hown'; have HGX := Lib.hid hgrow; clear hown' hgrow)
        go_roundw
        case rel => exact ⟨k + 1, by omega, by go_num, by rw [HD.out]; simpa [entRow] using HOX.out, (HBW.out.alloc hzr _).grown HGX.out (by simp; omega) (fun g hg => (HOW.out.lt g hg).1)⟩
        case measure => simp [intOf]; omega
    · have hkn : decide ((k : Int) < (n : Int)) = false := by simp; omega
      have HK := Lib.hid (show l.take k = l from List.take_of_length_le (by rw [HL.out]; omega))
      go_wp2_with fail
      go_ret
      refine ⟨_, rfl, ?_, HBW.out⟩
      have := HOW.out
      rw [HK.out] at this ⊢
      exact this
/-- The insertion's place: the names ahead of s. -/
def aheadN (l : Dir) (s : Nm) : Nat := (l.takeWhile fun p => bytesBefore p.1 s).length
theorem ins_split (x : Nm × Nat) : ∀ (l : Dir), (∀ p ∈ l, p.1 ≠ x.1) → dirIns x l = l.takeWhile (fun p => bytesBefore p.1 x.1) ++ x :: l.dropWhile (fun p => bytesBefore p.1 x.1)
  | [], _ => rfl
  | y :: r, h => by
    have hy := h y List.mem_cons_self
    unfold dirIns
    rw [List.takeWhile_cons, List.dropWhile_cons]
    by_cases hb : bytesBefore x.1 y.1 = true
    · have hf : bytesBefore y.1 x.1 = false := by
        cases e : bytesBefore y.1 x.1
        · rfl
        · have := bytes_trans _ _ _ hb e
          rw [bytes_irrefl] at this
          cases this
      rw [if_pos hb, hf]
      simp
    · have ht : bytesBefore y.1 x.1 = true := (bytes_total _ _ hy).resolve_right hb
      rw [if_neg hb, ht, ins_split x r (fun p hp => h p (List.mem_cons_of_mem _ hp))]
      simp
end Go.Proofs.Ytcicnjlkcbimgaa

/- corncribref07: with, Turn. -/
namespace Go.Proofs.Ytcicnjlkcbimgaa
open Go.RowKit Go.WideShapes Go.WideAt
theorem run_prefixK (T e : TypeId) (k : Nat) (hT : Try.prog.underlying T = some (.slice e)) (hs : ∀ W, (sizeOf e).run Try.prog W = .ok k W) (a : Option Addr) (len c n : Nat) (ha : (a = none ∧ c = 0) ∨ ∃ g, a = some ⟨g, 0, none⟩) (hn : n ≤ c) (W : World) : (Instr.slice T (.slice a len c) none (some (.int .i64 n)) none).run Try.prog W = .ok (.slice a n c) W := by
  have e : (if c = 0 then a else a.map (·.add (0 * k))) = a := by
    rcases ha with ⟨rfl, _⟩ | ⟨g, rfl⟩
    · simp
    · simp [add_zero_off]
  simp [Instr.slice, run_underlying hT, Instr.sliceBounds, run_sliceBound, hs, Result.andThen, (by omega : (0 : Int) ≤ (n : Int)), (by omega : (n : Int) ≤ (c : Int))]
  simpa using e
theorem run_suffixK (T e : TypeId) (k : Nat) (hT : Try.prog.underlying T = some (.slice e)) (hs : ∀ W, (sizeOf e).run Try.prog W = .ok k W) (a : Option Addr) (len c n : Nat) (hn : n ≤ len) (hl : len ≤ c) (W : World) :
    ∃ a', (Instr.slice T (.slice a len c) (some (.int .i64 n)) none none).run Try.prog W = .ok (.slice a' (len - n) (c - n)) W ∧ a' = (if c = n then a else a.map (·.add (n * k))) := by
  refine ⟨_, ?_, rfl⟩
  simp [Instr.slice, run_underlying hT, Instr.sliceBounds, run_sliceBound, hs, Result.andThen, (by omega : (0 : Int) ≤ (n : Int)), (by omega : (n : Int) ≤ (len : Int)), (by omega : (len : Int) ≤ (c : Int))]
theorem ent_size : ∀ W, (sizeOf 72).run Try.prog W = .ok 2 W := fun W => by kernel_rfl
/-- Some of a row: its first i, its others. -/
theorem pre_reads {w : World} {base n c i : Nat} {a : Option Addr} {d : Dir} (h : w.ownsRow base 72 2 (.slice a n c) n (d.flatMap entRow)) (hd : d.length = n) (hi : i ≤ n) : Reads w 2 (.slice a i c) i ((d.take i).flatMap entRow) := by
  have hl : ((d.take i).flatMap entRow).length = i * 2 := by rw [length_flatMap_row entRow 2 entRow_len, List.length_take]; rw [Nat.min_eq_left (by omega)]
  refine ⟨hl, ?_⟩
  rcases h.2 with ⟨e, h0⟩ | ⟨g, cap, cur, e, hg, hh, h1, h2, h3⟩
  · simp only [Value.slice.injEq] at e
    obtain ⟨rfl, _, rfl⟩ := e
    exact .inl ⟨by rw [show i = 0 by omega], by omega⟩
  · simp only [Value.slice.injEq] at e
    obtain ⟨rfl, _, rfl⟩ := e
    refine .inr ⟨_, _, rfl, by omega, fun m u hu => ?_⟩
    have hm : m < i * 2 := by have := (List.getElem?_eq_some_iff.1 hu).1; omega
    have h5 := h.cellAt m (by omega)
    rw [add_zero_off, h5, ← hu]
    have e : d.flatMap entRow = (d.take i).flatMap entRow ++ (d.drop i).flatMap entRow := by rw [← List.flatMap_append, List.take_append_drop]
    rw [e, List.getElem?_append_left (by omega)]
theorem suf_reads {w : World} {base n c i : Nat} {a a' : Option Addr} {c' : Nat} {d : Dir} (h : w.ownsRow base 72 2 (.slice a n c) n (d.flatMap entRow)) (hd : d.length = n) (hi : i ≤ n) (ha : a' = (if c = i then a else a.map (·.add (i * 2)))) (hc : c' = c - i) :
    Reads w 2 (.slice a' (n - i) c') (n - i) ((d.drop i).flatMap entRow) := by
  have hl : ((d.drop i).flatMap entRow).length = (n - i) * 2 := by rw [length_flatMap_row entRow 2 entRow_len, List.length_drop, hd]
  refine ⟨hl, ?_⟩
  rcases h.2 with ⟨e, h0⟩ | ⟨g, cap, cur, e, hg, hh, h1, h2, h3⟩
  · simp only [Value.slice.injEq] at e
    obtain ⟨rfl, _, rfl⟩ := e
    refine .inl ⟨?_, by omega⟩
    rw [ha, hc, show n - i = 0 by omega]
    simp
  · simp only [Value.slice.injEq] at e
    obtain ⟨rfl, _, rfl⟩ := e
    by_cases hz : c = i
    · rw [if_pos hz] at ha
      rw [ha]
      exact .inr ⟨_, _, rfl, by omega, fun m u hu => by
        have := (List.getElem?_eq_some_iff.1 hu).1
        omega⟩
    · rw [if_neg hz] at ha
      rw [ha]
      refine .inr ⟨_, _, rfl, by omega, fun m u hu => ?_⟩
      have hm : m < (n - i) * 2 := by have := (List.getElem?_eq_some_iff.1 hu).1; omega
      have h5 := h.cellAt (i * 2 + m) (by omega)
      show w.cell? (((⟨g, 0, none⟩ : Addr).add (i * 2)).add m) = some u
      rw [add_zero_off]
      have e2 : (⟨g, i * 2, none⟩ : Addr).add m = ⟨g, i * 2 + m, none⟩ := by
        unfold Addr.add
        split
        · rename_i hz; rw [hz]; rfl
        · rfl
      rw [e2, h5, ← hu]
      have e : d.flatMap entRow = (d.take i).flatMap entRow ++ (d.drop i).flatMap entRow := by rw [← List.flatMap_append, List.take_append_drop]
      have hl2 : ((d.take i).flatMap entRow).length = i * 2 := by rw [length_flatMap_row entRow 2 entRow_len, List.length_take, Nat.min_eq_left (by omega)]
      rw [e, List.getElem?_append_right (by omega), hl2]
      congr 1
      omega
end Go.Proofs.Ytcicnjlkcbimgaa

/- XOrder with a choice: where one of two effects may come up first. -/
namespace Go.Proofs.Ytcicnjlkcbimgaa
open Go.RowKit
inductive Plan where
  | nil
  | op (i k : Nat) (rest : Plan)
  | two (i : Nat) (pi : Plan) (j : Nat) (pj : Plan)
def Plan.len : Plan → Nat
  | .nil => 0
  | .op _ _ r => r.len + 1
  | .two _ p _ _ => p.len + 1
def okPlan (ops : Array Oper) (rds : List Nat) : Bool → Array Bool → Plan → Bool
  | _, listed, .nil => (Region.ready .any ops listed).isEmpty
  | has, listed, .op i k rest => (match ops[i]? with
    | some oi => (Region.ready .any ops listed).contains i &&
      (match k with
       | 0 => freeOf ops rds false listed i oi && okPlan ops rds has (listed.setIfInBounds i true) rest
       | 1 => (Region.ready .any ops listed == [i]) && okPlan ops rds (has && needs ops rds i) (listed.setIfInBounds i true) rest
       | _ => has && freeOf ops rds true listed i oi && okPlan ops rds has (listed.setIfInBounds i true) rest)
    | none => false)
  | has, listed, .two i pi j pj => (ops[i]?).isSome && (ops[j]?).isSome && (Region.ready .any ops listed == [i, j]) && (pi.len == pj.len) &&
      okPlan ops rds (has && needs ops rds i) (listed.setIfInBounds i true) pi && okPlan ops rds (has && needs ops rds j) (listed.setIfInBounds j true) pj
section
variable {P : Program} {ops : Array Oper} {Q : Exit → Go.Act → World → Prop} {S : World → Prop} {rds : List Nat}
def wpT (P : Program) (ops : Array Oper) (rds : List Nat) (Q : Exit → Go.Act → World → Prop) (S : World → Prop) : Plan → Go.Act → World → Prop
  | .nil, a, w => Q .normal a w
  | .op i k rest, a, w => match ops[i]? with
    | none => False
    | some oi => match k with
      | 0 => ∃ v, YieldsT P ops (fun _ => True) oi v a ∧ wpT P ops rds Q S rest (a.put oi.dst v) w
      | 1 => wpOp P ops Q i (fun a' w' => (needs ops rds i = true → S w → S w') ∧ wpT P ops rds Q S rest a' w') a w
      | _ => ∃ v, YieldsT P ops S oi v a ∧ wpT P ops rds Q S rest (a.put oi.dst v) w
  | .two i pi j pj, a, w => wpOp P ops Q i (fun a' w' => (needs ops rds i = true → S w → S w') ∧ wpT P ops rds Q S pi a' w') a w ∧
      wpOp P ops Q j (fun a' w' => (needs ops rds j = true → S w → S w') ∧ wpT P ops rds Q S pj a' w') a w
theorem wpN_of_T (hsel : ∀ (j : Nat) (o : Oper) cs b, ops[j]? = some o → o.op ≠ .select cs b) (hQ : ∀ c a d v w, Q (.panic c) (a.put d v) w → Q (.panic c) a w) :
    ∀ (l : Plan) (has : Bool) (listed : Array Bool) (a : Go.Act) (w : World), Closed ops listed → okPlan ops rds has listed l = true → (has = true → S w) →
      wpT P ops rds Q S l a w → wpAnyN P ops rds Q S l.len listed a w
  | .nil, has, listed, a, w, _, hok, _, h => ⟨by simpa [okPlan] using hok, h⟩
  | .two i pi j pj, has, listed, a, w, hcl, hok, hS, h => by
    simp only [okPlan, Bool.and_eq_true, beq_iff_eq] at hok
    obtain ⟨⟨⟨⟨⟨_, _⟩, hr⟩, hlen⟩, ho1⟩, ho2⟩ := hok
    have hri : i ∈ Region.ready .any ops listed := by rw [hr]; simp
    have hrj : j ∈ Region.ready .any ops listed := by rw [hr]; simp
    refine ⟨fun e => (by rw [e] at hr; cases hr), fun m hm => ?_⟩
    rw [hr] at hm
    rcases List.mem_cons.1 hm with hmi | hm
    · subst hmi
      refine wpOp_mono (fun a' w' h' => ⟨h'.1, wpN_of_T hsel hQ pi (has && needs ops rds m) _ a' w' (hcl.ready hri) ho1 (fun e => ?_) h'.2⟩) h.1
      simp only [Bool.and_eq_true] at e
      exact h'.1 e.2 (hS e.1)
    · have hmj : m = j := by simpa using hm
      subst hmj
      refine wpOp_mono (fun a' w' h' => ⟨h'.1, ?_⟩) h.2
      have := wpN_of_T hsel hQ pj (has && needs ops rds m) _ a' w' (hcl.ready hrj) ho2 (fun e => by
        simp only [Bool.and_eq_true] at e
        exact h'.1 e.2 (hS e.1)) h'.2
      rwa [← hlen] at this
  | .op i k rest, has, listed, a, w, hcl, hok, hS, h => by
    cases hi : ops[i]? with
    | none => simp [okPlan, hi] at hok
    | some oi =>
      simp only [okPlan, hi, Bool.and_eq_true, List.contains_iff_mem] at hok
      obtain ⟨hr, hok⟩ := hok
      simp only [wpT, hi] at h
      match k, hok, h with
      | 0, hok, h =>
        simp only [Bool.and_eq_true] at hok
        obtain ⟨v, hy, h⟩ := h
        refine wpAnyN_first (T := fun _ => True) (rd := false) hi hsel (fun c a w => hQ c a _ _ w) (fun e => by cases e) (fun e => by cases e) (fun _ _ => trivial) rest.len listed a w hcl (free_spec hok.1) hr trivial hy ?_
        exact wpN_of_T hsel hQ rest has _ _ w (hcl.ready hr) hok.2 hS h
      | 1, hok, h =>
        simp only [Bool.and_eq_true, beq_iff_eq] at hok
        refine ⟨fun e => (by rw [e] at hr; cases hr), fun j hj => ?_⟩
        rw [hok.1] at hj
        have hji : j = i := by simpa using hj
        subst hji
        refine wpOp_mono (fun a' w' h' => ⟨h'.1, wpN_of_T hsel hQ rest (has && needs ops rds j) _ a' w' (hcl.ready hr) hok.2 (fun e => ?_) h'.2⟩) h
        simp only [Bool.and_eq_true] at e
        exact h'.1 e.2 (hS e.1)
      | k + 2, hok, h =>
        simp only [Bool.and_eq_true] at hok
        obtain ⟨v, hy, h⟩ := h
        refine wpAnyN_first (T := S) (rd := true) hi hsel (fun c a w => hQ c a _ _ w) (fun _ _ h => h) (fun _ _ h => h) (fun e => by cases e) rest.len listed a w hcl (free_spec hok.1.2) hr (hS hok.1.1) hy ?_
        exact wpN_of_T hsel hQ rest has _ _ w (hcl.ready hr) hok.2 hS h
theorem wp_region_plan0 {id : Nat} {a : Go.Act} {w : World} (S : World → Prop) (rds : List Nat) (l : Plan) (hm : P.follows .mixedOrders = true) (hsel : Region.noSelect ops = true)
    (hlen : l.len = ops.size) (hok : okPlan ops rds true (Array.replicate ops.size false) l = true)
    (hS : S w.drew) (h : wpT P ops rds (onlyNormal Q) S l a w.drew) : (Code.region id ops true).wp P Q a w := by
  refine wp_mono (?_ : (Code.region id ops true).wp P (onlyNormal Q) a w) (fun e a w h => by cases e <;> first | exact h | exact False.elim h)
  refine wp_region_any hm (wpAny_of_N (rds := rds) (S := S) _ _ _ _ ?_)
  rw [← hlen]
  refine wpN_of_T (fun j o cs b => Region.noSelect_spec hsel j o cs b) (fun _ _ _ _ _ h => h) l true _ a _ ?_ (by rw [hlen]; exact hok) (fun _ => hS) h
  intro j o ho hj
  rcases Nat.lt_or_ge j l.len with h' | h'
  · simp [h'] at hj
  · have := (Array.getElem?_eq_some_iff.1 ho).1
    omega
section
variable {o : Oper} {i : Nat} {rest : Plan} {a : Go.Act} {w : World}
theorem stepTnil0 (h : Q .normal a w) : wpT P ops rds (onlyNormal Q) S .nil a w := h
theorem stepT0 (ho : ops[i]? = some o) (hw : Region.wanted o (yielded ops a.tmps) = true)
    (h : ∀ K : Go.Act → Prop, (∀ a, wpT P ops rds Q S rest a w → K a) → ∃ v, (∀ w1 : World, (execOp a.eval o).run P w1 = .ok (.value v) w1) ∧ K (a.put o.dst v)) : wpT P ops rds Q S (.op i 0 rest) a w := by
  obtain ⟨v, h1, h2⟩ := h _ (fun _ h => h)
  simp only [wpT, ho]
  exact ⟨v, .inl ⟨hw, fun w1 _ => h1 w1⟩, h2⟩
theorem stepT2 (ho : ops[i]? = some o) (hw : Region.wanted o (yielded ops a.tmps) = true) (v : Value) (h1 : ∀ w1 : World, S w1 → (execOp a.eval o).run P w1 = .ok (.value v) w1)
    (h : ∀ K : Go.Act → Prop, (∀ a, wpT P ops rds Q S rest a w → K a) → K (a.put o.dst v)) : wpT P ops rds Q S (.op i 2 rest) a w := by
  have h2 := h _ (fun _ h => h)
  simp only [wpT, ho]
  exact ⟨v, .inl ⟨hw, h1⟩, h2⟩
theorem stepT1 (ho : ops[i]? = some o) (hw : Region.wanted o (yielded ops a.tmps) = true) (hn : needs ops rds i = false)
    (h : ∀ K : Go.Act → World → Prop, (∀ a' w', wpT P ops rds Q S rest a' w' → K a' w') → o.wp P a w K Q) : wpT P ops rds Q S (.op i 1 rest) a w := by
  simp only [wpT, ho, wpOp, hw, if_true]
  exact .inl (h _ fun a' w' h => ⟨fun e => absurd e (by rw [hn]; simp), h⟩)
theorem stepT1S (ho : ops[i]? = some o) (hw : Region.wanted o (yielded ops a.tmps) = true)
    (h : ∀ K : Go.Act → World → Prop, (∀ a' w', S w' ∧ wpT P ops rds Q S rest a' w' → K a' w') → o.wp P a w K Q) : wpT P ops rds Q S (.op i 1 rest) a w := by
  simp only [wpT, ho, wpOp, hw, if_true]
  exact .inl (h _ fun a' w' h => ⟨fun _ _ => h.1, h.2⟩)
theorem stepTx0 (ho : ops[i]? = some o) (hw : Region.wanted o (yielded ops a.tmps) = false) (h : wpT P ops rds Q S rest (a.put o.dst undef) w) : wpT P ops rds Q S (.op i 0 rest) a w := by
  simp only [wpT, ho]
  exact ⟨undef, .inr ⟨hw, rfl⟩, h⟩
theorem stepTx2 (ho : ops[i]? = some o) (hw : Region.wanted o (yielded ops a.tmps) = false) (h : wpT P ops rds Q S rest (a.put o.dst undef) w) : wpT P ops rds Q S (.op i 2 rest) a w := by
  simp only [wpT, ho]
  exact ⟨undef, .inr ⟨hw, rfl⟩, h⟩
theorem stepTx1 (ho : ops[i]? = some o) (hw : Region.wanted o (yielded ops a.tmps) = false) (h : wpT P ops rds Q S rest (a.put o.dst undef) w) : wpT P ops rds Q S (.op i 1 rest) a w := by
  simp only [wpT, ho, wpOp, hw, Bool.false_eq_true, if_false]
  exact ⟨fun _ h => h, h⟩
theorem stepTnil (h : Q .normal a w) : wpT P ops rds Q S .nil a w := h
theorem stepTtwo {pi pj : Plan} {j : Nat} (h1 : wpT P ops rds Q S (.op i 1 pi) a w) (h2 : wpT P ops rds Q S (.op j 1 pj) a w) (hi : (ops[i]?).isSome = true) (hj : (ops[j]?).isSome = true) : wpT P ops rds Q S (.two i pi j pj) a w := by
  obtain ⟨oi, hi⟩ := Option.isSome_iff_exists.1 hi
  obtain ⟨oj, hj⟩ := Option.isSome_iff_exists.1 hj
  simp only [wpT, hi] at h1
  simp only [wpT, hj] at h2
  exact ⟨h1, h2⟩
end
end
end Go.Proofs.Ytcicnjlkcbimgaa

/- A region that draws its order, walked along a plan, as XOrderT; who waits for whom stands in bit masks, checked once (a great region would take the elder check too long). -/
namespace Go.Proofs.Ytcicnjlkcbimgaa
open Go.RowKit
def bitOf (ms : List Nat) (j i : Nat) : Bool := (ms.getD j 0).testBit i
def stepMask (ms : List Nat) (o : Oper) (j : Nat) : Nat := o.after.toList.foldl (fun m e => if (Region.binds .any e && decide (e.on < j)) = true then m ||| (2 ^ e.on ||| ms.getD e.on 0) else m) 0
def okMasks (ops : Array Oper) (ms : List Nat) : Bool := (List.range ops.size).all fun j => match ops[j]? with | some o => ms.getD j 0 == stepMask ms o j | none => true
theorem fold_bit (ms : List Nat) (j i : Nat) : ∀ (l : List Edge) (m : Nat), (l.foldl (fun m e => if (Region.binds .any e && decide (e.on < j)) = true then m ||| (2 ^ e.on ||| ms.getD e.on 0) else m) m).testBit i = true →
    m.testBit i = true ∨ ∃ e ∈ l, Region.binds .any e = true ∧ e.on < j ∧ (e.on = i ∨ bitOf ms e.on i = true)
  | [], m, h => .inl h
  | e :: l, m, h => by
    rw [List.foldl_cons] at h
    rcases fold_bit ms j i l _ h with h1 | ⟨e', he, h2⟩
    · split at h1
      · rename_i hb
        simp only [Bool.and_eq_true, decide_eq_true_eq] at hb
        rw [Nat.testBit_or, Nat.testBit_or, Nat.testBit_two_pow] at h1
        simp only [Bool.or_eq_true, decide_eq_true_eq] at h1
        rcases h1 with h1 | h1 | h1
        · exact .inl h1
        · exact .inr ⟨e, List.mem_cons_self, hb.1, hb.2, .inl h1⟩
        · exact .inr ⟨e, List.mem_cons_self, hb.1, hb.2, .inr h1⟩
      · exact .inl h1
    · exact .inr ⟨e', List.mem_cons_of_mem _ he, h2⟩
theorem Closed.bits {ops : Array Oper} {ms : List Nat} {listed : Array Bool} (hc : Closed ops listed) (hm : okMasks ops ms = true) (i : Nat) : ∀ (n j : Nat), j < n → ∀ (o : Oper), ops[j]? = some o → (∀ e ∈ o.after, Region.binds .any e = true → listed.getD e.on false = true) →
    bitOf ms j i = true → listed.getD i false = true
  | 0, _, h, _, _, _, _ => by omega
  | n + 1, j, hj, o, ho, hall, h => by
    have hjs := (Array.getElem?_eq_some_iff.1 ho).1
    simp only [okMasks, List.all_eq_true, List.mem_range] at hm
    have h1 := hm j hjs
    rw [ho] at h1
    simp only [beq_iff_eq] at h1
    unfold bitOf at h
    rw [h1] at h
    rcases fold_bit ms j i _ _ h with h2 | ⟨e, he, hb, hlt, h3⟩
    · simp at h2
    · have hon := hall e (by simpa using he) hb
      rcases h3 with rfl | h3
      · exact hon
      · have ho' : ops[e.on]? = some ops[e.on] := Array.getElem?_eq_getElem (by omega)
        refine Closed.bits hc (by simp only [okMasks, List.all_eq_true, List.mem_range]; exact hm) i n e.on (by omega) _ ho' (hc e.on _ ho' (getD_true_of_false hon)) h3
def needsM (ms : List Nat) (rds : List Nat) (j : Nat) : Bool := rds.any fun r => r != j && !bitOf ms j r
def freeM (ops : Array Oper) (ms : List Nat) (rds : List Nat) (rd : Bool) (listed : Array Bool) (i : Nat) (oi : Oper) : Bool :=
  (List.range ops.size).all fun j => j == i || !unlisted listed j || bitOf ms j i || match ops[j]? with
    | some oj => oi.apart ops oj && (!rd || needsM ms rds j)
    | none => true
section
variable {P : Program} {ops : Array Oper} {Q : Exit → Go.Act → World → Prop} {S : World → Prop} {rds ms : List Nat}
/-- As wpAny, and S is said behind each operation behind which it is needed. -/
def wpAnyM (P : Program) (ops : Array Oper) (ms : List Nat) (rds : List Nat) (Q : Exit → Go.Act → World → Prop) (S : World → Prop) : Nat → Array Bool → Go.Act → World → Prop
  | 0, listed, a, w => Region.ready .any ops listed = [] ∧ Q .normal a w
  | fuel + 1, listed, a, w =>
    (Region.ready .any ops listed = [] → Q .normal a w) ∧
    ∀ i ∈ Region.ready .any ops listed, wpOp P ops Q i (fun a' w' => (needsM ms rds i = true → S w → S w') ∧ wpAnyM P ops ms rds Q S fuel (listed.setIfInBounds i true) a' w') a w
theorem wpAny_of_M : ∀ (fuel : Nat) (listed : Array Bool) (a : Go.Act) (w : World), wpAnyM P ops ms rds Q S fuel listed a w → wpAny P .any ops Q fuel listed a w
  | 0, _, _, _, h => h
  | fuel + 1, listed, a, w, h => ⟨h.1, fun i hi => wpOp_mono (fun a' w' h' => wpAny_of_M fuel _ a' w' h'.2) (h.2 i hi)⟩

theorem wpAnyM_first (hms : okMasks ops ms = true) {T : World → Prop} {i : Nat} {oi : Oper} {v : Value} {rd : Bool} (hi : ops[i]? = some oi) (hsel : ∀ (j : Nat) (o : Oper) cs b, ops[j]? = some o → o.op ≠ .select cs b)
    (hQ : ∀ c a w, Q (.panic c) (a.put oi.dst v) w → Q (.panic c) a w) (hTS : rd = true → ∀ w, S w → T w) (hST : rd = true → ∀ w, T w → S w) (hT0 : rd = false → ∀ w, T w) :
    ∀ (fuel : Nat) (listed : Array Bool) (a : Go.Act) (w : World), Closed ops listed →
      (∀ j oj, ops[j]? = some oj → j ≠ i → listed.getD j true = false → bitOf ms j i = true ∨ (oi.apart ops oj = true ∧ (rd = true → needsM ms rds j = true))) →
      i ∈ Region.ready .any ops listed → T w → YieldsT P ops T oi v a →
      wpAnyM P ops ms rds Q S fuel (listed.setIfInBounds i true) (a.put oi.dst v) w → wpAnyM P ops ms rds Q S (fuel + 1) listed a w := by
  intro fuel
  induction fuel with
  | zero =>
    intro listed a w _ _ hr hT hy H
    refine ⟨fun h => (by rw [h] at hr; cases hr), fun j hj => ?_⟩
    by_cases hji : j = i
    · subst hji; exact hy.wpOp hi hT ⟨fun _ h => h, H⟩
    · have := ready_mono hj hji
      rw [H.1] at this
      cases this
  | succ fuel ih =>
    intro listed a w hcl hfree hr hT hy H
    refine ⟨fun h => (by rw [h] at hr; cases hr), fun j hj => ?_⟩
    by_cases hji : j = i
    · subst hji; exact hy.wpOp hi hT ⟨fun _ h => h, H⟩
    · have h1 := H.2 j (ready_mono hj hji)
      obtain ⟨hjun, oj, hoj, hall⟩ := mem_ready.1 hj
      have hiun := (mem_ready.1 hr).1
      have hnot : ¬ bitOf ms j i = true := fun hw => by
        have h1 := hcl.bits hms i _ j (Nat.lt_succ_self j) oj hoj hall hw
        have h2 := getD_true_of_false h1
        rw [hiun] at h2
        cases h2
      obtain ⟨hap, hnd⟩ := (hfree j oj hoj hji hjun).resolve_left hnot
      have h2 := wpOp_putT hoj hap (fun cs b => hsel i oi cs b hi) (fun cs b => hsel j oj cs b hoj) hQ hy h1
      have hfree' : ∀ k ok, ops[k]? = some ok → k ≠ i → (listed.setIfInBounds j true).getD k true = false →
          bitOf ms k i = true ∨ (oi.apart ops ok = true ∧ (rd = true → needsM ms rds k = true)) := fun k ok hk hki hun => by
        refine hfree k ok hk hki ?_
        by_cases hjk : j = k
        · subst hjk; exact hjun
        · rw [getD_set_ne true hjk] at hun; exact hun
      refine wpOp_mono (fun a' w' h3 => ?_) h2
      obtain ⟨h4, h5, h6⟩ := h3
      refine ⟨h5, ?_⟩
      have hT' : T w' := by
        cases hrd : rd with
        | true => exact hTS hrd w' (h5 (hnd hrd) (hST hrd w hT))
        | false => exact hT0 hrd w'
      refine ih (listed.setIfInBounds j true) a' w' (hcl.ready hj) hfree' (ready_mono hr (Ne.symm hji)) hT' h4 ?_
      rw [Array.setIfInBounds_comm _ _ hji]
      exact h6

theorem freeM_spec {rd : Bool} {listed : Array Bool} {i : Nat} {oi : Oper} (h : freeM ops ms rds rd listed i oi = true) (j : Nat) (oj : Oper) (hj : ops[j]? = some oj) (hne : j ≠ i) (hun : listed.getD j true = false) :
    bitOf ms j i = true ∨ (oi.apart ops oj = true ∧ (rd = true → needsM ms rds j = true)) := by
  simp only [freeM, List.all_eq_true, List.mem_range] at h
  have h1 := h j (Array.getElem?_eq_some_iff.1 hj).1
  simp only [hj, Bool.or_eq_true, Bool.and_eq_true, beq_iff_eq, hne, false_or, unlisted_of hun, Bool.not_true, Bool.false_eq_true, Bool.not_eq_true'] at h1
  rcases h1 with h1 | ⟨h1, h2⟩
  · exact .inl h1
  · exact .inr ⟨h1, fun hr => h2.resolve_left (by simp [hr])⟩

def okPlanM (ops : Array Oper) (ms rds : List Nat) : Bool → Array Bool → Plan → Bool
  | _, listed, .nil => (Region.ready .any ops listed).isEmpty
  | has, listed, .op i k rest => (match ops[i]? with
    | some oi => (Region.ready .any ops listed).contains i &&
      (match k with
       | 0 => freeM ops ms rds false listed i oi && okPlanM ops ms rds has (listed.setIfInBounds i true) rest
       | 1 => (Region.ready .any ops listed == [i]) && okPlanM ops ms rds (has && needsM ms rds i) (listed.setIfInBounds i true) rest
       | _ => has && freeM ops ms rds true listed i oi && okPlanM ops ms rds has (listed.setIfInBounds i true) rest)
    | none => false)
  | has, listed, .two i pi j pj => (ops[i]?).isSome && (ops[j]?).isSome && (Region.ready .any ops listed == [i, j]) && (pi.len == pj.len) &&
      okPlanM ops ms rds (has && needsM ms rds i) (listed.setIfInBounds i true) pi && okPlanM ops ms rds (has && needsM ms rds j) (listed.setIfInBounds j true) pj
def wpM (P : Program) (ops : Array Oper) (ms : List Nat) (rds : List Nat) (Q : Exit → Go.Act → World → Prop) (S : World → Prop) : Plan → Go.Act → World → Prop
  | .nil, a, w => Q .normal a w
  | .op i k rest, a, w => match ops[i]? with
    | none => False
    | some oi => match k with
      | 0 => ∃ v, YieldsT P ops (fun _ => True) oi v a ∧ wpM P ops ms rds Q S rest (a.put oi.dst v) w
      | 1 => wpOp P ops Q i (fun a' w' => (needsM ms rds i = true → S w → S w') ∧ wpM P ops ms rds Q S rest a' w') a w
      | _ => ∃ v, YieldsT P ops S oi v a ∧ wpM P ops ms rds Q S rest (a.put oi.dst v) w
  | .two i pi j pj, a, w => wpOp P ops Q i (fun a' w' => (needsM ms rds i = true → S w → S w') ∧ wpM P ops ms rds Q S pi a' w') a w ∧
      wpOp P ops Q j (fun a' w' => (needsM ms rds j = true → S w → S w') ∧ wpM P ops ms rds Q S pj a' w') a w
theorem wpN_of_M (hms : okMasks ops ms = true) (hsel : ∀ (j : Nat) (o : Oper) cs b, ops[j]? = some o → o.op ≠ .select cs b) (hQ : ∀ c a d v w, Q (.panic c) (a.put d v) w → Q (.panic c) a w) :
    ∀ (l : Plan) (has : Bool) (listed : Array Bool) (a : Go.Act) (w : World), Closed ops listed → okPlanM ops ms rds has listed l = true → (has = true → S w) →
      wpM P ops ms rds Q S l a w → wpAnyM P ops ms rds Q S l.len listed a w
  | .nil, has, listed, a, w, _, hok, _, h => ⟨by simpa [okPlanM] using hok, h⟩
  | .two i pi j pj, has, listed, a, w, hcl, hok, hS, h => by
    simp only [okPlanM, Bool.and_eq_true, beq_iff_eq] at hok
    obtain ⟨⟨⟨⟨⟨_, _⟩, hr⟩, hlen⟩, ho1⟩, ho2⟩ := hok
    have hri : i ∈ Region.ready .any ops listed := by rw [hr]; simp
    have hrj : j ∈ Region.ready .any ops listed := by rw [hr]; simp
    refine ⟨fun e => (by rw [e] at hr; cases hr), fun m hm => ?_⟩
    rw [hr] at hm
    rcases List.mem_cons.1 hm with hmi | hm
    · subst hmi
      refine wpOp_mono (fun a' w' h' => ⟨h'.1, wpN_of_M hms hsel hQ pi (has && needsM ms rds m) _ a' w' (hcl.ready hri) ho1 (fun e => ?_) h'.2⟩) h.1
      simp only [Bool.and_eq_true] at e
      exact h'.1 e.2 (hS e.1)
    · have hmj : m = j := by simpa using hm
      subst hmj
      refine wpOp_mono (fun a' w' h' => ⟨h'.1, ?_⟩) h.2
      have := wpN_of_M hms hsel hQ pj (has && needsM ms rds m) _ a' w' (hcl.ready hrj) ho2 (fun e => by
        simp only [Bool.and_eq_true] at e
        exact h'.1 e.2 (hS e.1)) h'.2
      rwa [← hlen] at this
  | .op i k rest, has, listed, a, w, hcl, hok, hS, h => by
    cases hi : ops[i]? with
    | none => simp [okPlanM, hi] at hok
    | some oi =>
      simp only [okPlanM, hi, Bool.and_eq_true, List.contains_iff_mem] at hok
      obtain ⟨hr, hok⟩ := hok
      simp only [wpM, hi] at h
      match k, hok, h with
      | 0, hok, h =>
        simp only [Bool.and_eq_true] at hok
        obtain ⟨v, hy, h⟩ := h
        refine wpAnyM_first hms (T := fun _ => True) (rd := false) hi hsel (fun c a w => hQ c a _ _ w) (fun e => by cases e) (fun e => by cases e) (fun _ _ => trivial) rest.len listed a w hcl (freeM_spec hok.1) hr trivial hy ?_
        exact wpN_of_M hms hsel hQ rest has _ _ w (hcl.ready hr) hok.2 hS h
      | 1, hok, h =>
        simp only [Bool.and_eq_true, beq_iff_eq] at hok
        refine ⟨fun e => (by rw [e] at hr; cases hr), fun j hj => ?_⟩
        rw [hok.1] at hj
        have hji : j = i := by simpa using hj
        subst hji
        refine wpOp_mono (fun a' w' h' => ⟨h'.1, wpN_of_M hms hsel hQ rest (has && needsM ms rds j) _ a' w' (hcl.ready hr) hok.2 (fun e => ?_) h'.2⟩) h
        simp only [Bool.and_eq_true] at e
        exact h'.1 e.2 (hS e.1)
      | k + 2, hok, h =>
        simp only [Bool.and_eq_true] at hok
        obtain ⟨v, hy, h⟩ := h
        refine wpAnyM_first hms (T := S) (rd := true) hi hsel (fun c a w => hQ c a _ _ w) (fun _ _ h => h) (fun _ _ h => h) (fun e => by cases e) rest.len listed a w hcl (freeM_spec hok.1.2) hr (hS hok.1.1) hy ?_
        exact wpN_of_M hms hsel hQ rest has _ _ w (hcl.ready hr) hok.2 hS h
theorem wp_region_mask0 {id : Nat} {a : Go.Act} {w : World} (S : World → Prop) (rds ms : List Nat) (l : Plan) (hm : P.follows .mixedOrders = true) (hsel : Region.noSelect ops = true)
    (hlen : l.len = ops.size) (hms : okMasks ops ms = true) (hok : okPlanM ops ms rds true (Array.replicate ops.size false) l = true)
    (hS : S w.drew) (h : wpM P ops ms rds (onlyNormal Q) S l a w.drew) : (Code.region id ops true).wp P Q a w := by
  refine wp_mono (?_ : (Code.region id ops true).wp P (onlyNormal Q) a w) (fun e a w h => by cases e <;> first | exact h | exact False.elim h)
  refine wp_region_any hm (wpAny_of_M (ms := ms) (rds := rds) (S := S) _ _ _ _ ?_)
  rw [← hlen]
  refine wpN_of_M hms (fun j o cs b => Region.noSelect_spec hsel j o cs b) (fun _ _ _ _ _ h => h) l true _ a _ ?_ (by rw [hlen]; exact hok) (fun _ => hS) h
  intro j o ho hj
  rcases Nat.lt_or_ge j l.len with h' | h'
  · simp [h'] at hj
  · have := (Array.getElem?_eq_some_iff.1 ho).1
    omega
section
variable {o : Oper} {i : Nat} {rest : Plan} {a : Go.Act} {w : World}
theorem stepMnil0 (h : Q .normal a w) : wpM P ops ms rds (onlyNormal Q) S .nil a w := h
theorem stepM0 (ho : ops[i]? = some o) (hw : Region.wanted o (yielded ops a.tmps) = true)
    (h : ∀ K : Go.Act → Prop, (∀ a, wpM P ops ms rds Q S rest a w → K a) → ∃ v, (∀ w1 : World, (execOp a.eval o).run P w1 = .ok (.value v) w1) ∧ K (a.put o.dst v)) : wpM P ops ms rds Q S (.op i 0 rest) a w := by
  obtain ⟨v, h1, h2⟩ := h _ (fun _ h => h)
  simp only [wpM, ho]
  exact ⟨v, .inl ⟨hw, fun w1 _ => h1 w1⟩, h2⟩
theorem stepM2 (ho : ops[i]? = some o) (hw : Region.wanted o (yielded ops a.tmps) = true) (v : Value) (h1 : ∀ w1 : World, S w1 → (execOp a.eval o).run P w1 = .ok (.value v) w1)
    (h : ∀ K : Go.Act → Prop, (∀ a, wpM P ops ms rds Q S rest a w → K a) → K (a.put o.dst v)) : wpM P ops ms rds Q S (.op i 2 rest) a w := by
  have h2 := h _ (fun _ h => h)
  simp only [wpM, ho]
  exact ⟨v, .inl ⟨hw, h1⟩, h2⟩
theorem stepM1 (ho : ops[i]? = some o) (hw : Region.wanted o (yielded ops a.tmps) = true) (hn : needsM ms rds i = false)
    (h : ∀ K : Go.Act → World → Prop, (∀ a' w', wpM P ops ms rds Q S rest a' w' → K a' w') → o.wp P a w K Q) : wpM P ops ms rds Q S (.op i 1 rest) a w := by
  simp only [wpM, ho, wpOp, hw, if_true]
  exact .inl (h _ fun a' w' h => ⟨fun e => absurd e (by rw [hn]; simp), h⟩)
theorem stepM1S (ho : ops[i]? = some o) (hw : Region.wanted o (yielded ops a.tmps) = true)
    (h : ∀ K : Go.Act → World → Prop, (∀ a' w', S w' ∧ wpM P ops ms rds Q S rest a' w' → K a' w') → o.wp P a w K Q) : wpM P ops ms rds Q S (.op i 1 rest) a w := by
  simp only [wpM, ho, wpOp, hw, if_true]
  exact .inl (h _ fun a' w' h => ⟨fun _ _ => h.1, h.2⟩)
theorem stepMy0 (ho : ops[i]? = some o) (hw : Region.wanted o (yielded ops a.tmps) = false)
    (h : ∀ K : Go.Act → Prop, (∀ a, wpM P ops ms rds Q S rest a w → K a) → K (a.put o.dst undef)) : wpM P ops ms rds Q S (.op i 0 rest) a w := by
  have h2 := h _ (fun _ h => h)
  simp only [wpM, ho]
  exact ⟨undef, .inr ⟨hw, rfl⟩, h2⟩
theorem stepMy2 (ho : ops[i]? = some o) (hw : Region.wanted o (yielded ops a.tmps) = false)
    (h : ∀ K : Go.Act → Prop, (∀ a, wpM P ops ms rds Q S rest a w → K a) → K (a.put o.dst undef)) : wpM P ops ms rds Q S (.op i 2 rest) a w := by
  have h2 := h _ (fun _ h => h)
  simp only [wpM, ho]
  exact ⟨undef, .inr ⟨hw, rfl⟩, h2⟩
theorem stepMy1 (ho : ops[i]? = some o) (hw : Region.wanted o (yielded ops a.tmps) = false)
    (h : ∀ K : Go.Act → Prop, (∀ a, wpM P ops ms rds Q S rest a w → K a) → K (a.put o.dst undef)) : wpM P ops ms rds Q S (.op i 1 rest) a w := by
  have h2 := h _ (fun _ h => h)
  simp only [wpM, ho, wpOp, hw, Bool.false_eq_true, if_false]
  exact ⟨fun _ h => h, h2⟩
theorem stepMx0 (ho : ops[i]? = some o) (hw : Region.wanted o (yielded ops a.tmps) = false) (h : wpM P ops ms rds Q S rest (a.put o.dst undef) w) : wpM P ops ms rds Q S (.op i 0 rest) a w := by
  simp only [wpM, ho]
  exact ⟨undef, .inr ⟨hw, rfl⟩, h⟩
theorem stepMx2 (ho : ops[i]? = some o) (hw : Region.wanted o (yielded ops a.tmps) = false) (h : wpM P ops ms rds Q S rest (a.put o.dst undef) w) : wpM P ops ms rds Q S (.op i 2 rest) a w := by
  simp only [wpM, ho]
  exact ⟨undef, .inr ⟨hw, rfl⟩, h⟩
theorem stepMx1 (ho : ops[i]? = some o) (hw : Region.wanted o (yielded ops a.tmps) = false) (h : wpM P ops ms rds Q S rest (a.put o.dst undef) w) : wpM P ops ms rds Q S (.op i 1 rest) a w := by
  simp only [wpM, ho, wpOp, hw, Bool.false_eq_true, if_false]
  exact ⟨fun _ h => h, h⟩
theorem stepMnil (h : Q .normal a w) : wpM P ops ms rds Q S .nil a w := h
theorem stepMtwo {pi pj : Plan} {j : Nat} (h1 : wpM P ops ms rds Q S (.op i 1 pi) a w) (h2 : wpM P ops ms rds Q S (.op j 1 pj) a w) (hi : (ops[i]?).isSome = true) (hj : (ops[j]?).isSome = true) : wpM P ops ms rds Q S (.two i pi j pj) a w := by
  obtain ⟨oi, hi⟩ := Option.isSome_iff_exists.1 hi
  obtain ⟨oj, hj⟩ := Option.isSome_iff_exists.1 hj
  simp only [wpM, hi] at h1
  simp only [wpM, hj] at h2
  exact ⟨h1, h2⟩
end
end
end Go.Proofs.Ytcicnjlkcbimgaa

/- Package disk, plain: a call by its kind. -/
namespace Go.Proofs.Ytcicnjlkcbimgaa
structure DAct where
  kind : Int
  name : Nm
  to : Nm
  b : List UInt8
  n : Int
  m : Int
  p : DPicks
def byteOf (m : Int) : UInt8 := UInt8.ofNat (m % 256).toNat
/-- The error's number and the disk behind a call. -/
def Dk.call (d : Dk) (a : DAct) : Nat × Dk :=
  if a.kind = 0 then d.create a.name else if a.kind = 1 then d.append a.name a.b else if a.kind = 2 then d.sync a.name else if a.kind = 3 then d.syncNames else if a.kind = 4 then d.rename a.name a.to
  else if a.kind = 5 then d.remove a.name else if a.kind = 6 then d.cut a.name a.n else if a.kind = 7 then d.arm a.n else if a.kind = 8 then (0, d.crash a.p) else if a.kind = 9 then d.spoil a.name a.n (byteOf a.m)
  else if a.kind = 10 then ((d.read a.name a.n a.m).1, d) else ((d.size a.name).1, d)
def Dk.callB (d : Dk) (a : DAct) : List UInt8 := if a.kind = 10 then (d.read a.name a.n a.m).2 else []
def Dk.callN (d : Dk) (a : DAct) : Nat := if 0 ≤ a.kind ∧ a.kind ≤ 10 then 0 else (d.size a.name).2
theorem fnd_le (d : Dk) (s : Nm) : (d.fnd s).1 ≤ 12 := by
  unfold Dk.fnd
  repeat (first | (dsimp only; omega) | split)
theorem create_le (d : Dk) (s : Nm) : (d.create s).1 ≤ 15 := by unfold Dk.create; repeat (first | (dsimp only; omega) | split)
theorem append_le (d : Dk) (s : Nm) (b : List UInt8) : (d.append s b).1 ≤ 15 := by have := fnd_le d s; unfold Dk.append; repeat (first | (dsimp only; omega) | split)
theorem sync_le (d : Dk) (s : Nm) : (d.sync s).1 ≤ 15 := by have := fnd_le d s; unfold Dk.sync; repeat (first | (dsimp only; omega) | split)
theorem syncNames_le (d : Dk) : d.syncNames.1 ≤ 15 := by unfold Dk.syncNames; repeat (first | (dsimp only; omega) | split)
theorem rename_le (d : Dk) (s t : Nm) : (d.rename s t).1 ≤ 15 := by have := fnd_le d s; unfold Dk.rename; repeat (first | (dsimp only; omega) | split)
theorem remove_le (d : Dk) (s : Nm) : (d.remove s).1 ≤ 15 := by have := fnd_le d s; unfold Dk.remove; repeat (first | (dsimp only; omega) | split)
theorem cut_le (d : Dk) (s : Nm) (n : Int) : (d.cut s n).1 ≤ 15 := by have := fnd_le d s; unfold Dk.cut; repeat (first | (dsimp only; omega) | split)
theorem arm_le (d : Dk) (n : Int) : (d.arm n).1 ≤ 15 := by unfold Dk.arm; repeat (first | (dsimp only; omega) | split)
theorem spoil_le (d : Dk) (s : Nm) (n : Int) (x : UInt8) : (d.spoil s n x).1 ≤ 15 := by have := fnd_le d s; unfold Dk.spoil; repeat (first | (dsimp only; omega) | split)
theorem read_le (d : Dk) (s : Nm) (off n : Int) : (d.read s off n).1 ≤ 15 := by have := fnd_le d s; unfold Dk.read; repeat (first | (dsimp only; omega) | split)
theorem size_le (d : Dk) (s : Nm) : (d.size s).1 ≤ 15 := by have := fnd_le d s; unfold Dk.size; repeat (first | (dsimp only; omega) | split)
theorem DkOk.call {K : Nat} {d : Dk} (h : DkOk K d) (a : DAct) (hn : a.n ≤ 9223372036854775807) : DkOk (K + 1) (d.call a).2 := by
  have h1 := h.mono (Nat.le_succ K)
  unfold Dk.call
  split
  · exact h.create _
  split
  · exact h1.append _ _
  split
  · exact h1.sync _
  split
  · exact h1.syncNames
  split
  · exact h.rename _ _
  split
  · exact h.remove _
  split
  · exact h1.cut _ _
  split
  · exact h1.arm _ hn
  split
  · exact h1.crash _
  split
  · exact h1.spoil _ _ _
  split
  · exact h1
  · exact h1
end Go.Proofs.Ytcicnjlkcbimgaa

/- corncriblaw07.Do (written by gendisk07.py). -/
namespace Go.Proofs.Ytcicnjlkcbimgaa
open Go.RowKit
theorem DTo.from {w W w' : World} {d K : Nat} {P : Nat → Prop} {st : Dk} (h : DTo W w' d P K st) (hb : Below w.heap.size w W) : DTo w w' d P K st := ⟨h.1, (KP.of hb).trans h.2⟩
theorem DTo.same {w W : World} {d K : Nat} {P : Nat → Prop} {st : Dk} (h : DS w d P K st) (hb : Below w.heap.size w W) : DTo w W d P K st := ⟨h.below hb, KP.of hb⟩
/-- What a call answers. -/
def DoOut07 (w : World) (d : Nat) (P : Nat → Prop) (K : Nat) (xs : List UInt8) (n k : Int) (st : Dk) (e : Ending) (w' : World) : Prop :=
  ∃ v, e = .returned (.tuple #[v, .int .i64 n, .int .i64 k]) ∧ w'.ownsRow w.heap.size 5 1 v xs.length (xs.map bv) ∧ DTo w w' d P K st
theorem row_addr7 {w : World} {base n c : Nat} {a : Option Addr} {e : TypeId} {sz : Nat} {xs : List Value} (h : w.ownsRow base e sz (.slice a n c) n xs) : (a = none ∧ c = 0) ∨ ∃ g, a = some ⟨g, 0, none⟩ := by
  rcases h.2 with ⟨e, h0⟩ | ⟨g, _, _, e, _⟩
  · simp only [Value.slice.injEq] at e
    exact .inl ⟨e.1, e.2.2⟩
  · simp only [Value.slice.injEq] at e
    exact .inr ⟨g, e.1⟩
set_option maxRecDepth 100000 in
set_option maxHeartbeats 2000000 in
theorem do07_0 {d K : Nat} {P : Nat → Prop} {st : Dk} {w : World} (h : DS w d P K st) (hP : ∀ k, P k → k < w.heap.size) (hK : K < 1099511627776) (nm to : Nm) (ab af : Option Addr) (nb cb nf cf : Nat) (n m pn : Int) (hnm : nm.length ≤ maxLen)  :
    Calls Try.prog 26 #[(.pointer (some ⟨d, 0, none⟩)), .agg #[.int .i64 0, .string ⟨nm.toArray⟩, .string ⟨to.toArray⟩, .slice ab nb cb, .int .i64 n, .int .i64 m, .int .i64 pn, .slice af nf cf]] w (DoOut07 w d P (K + 1) [] 0 (st.create nm).1 (st.create nm).2) := by
  have hbx : Below w.heap.size w (w.alloc (.cells #[.int .i64 0, .string ⟨nm.toArray⟩, .string ⟨to.toArray⟩, .slice ab nb cb, .int .i64 n, .int .i64 m, .int .i64 pn, .slice af nf cf] 53)) := (Below.refl _ _).alloc (Nat.le_refl _) _
  have H := Lib.hid (h.below hbx)
  have HPP := Lib.hid (show ∀ k, P k → k < (w.alloc (.cells #[.int .i64 0, .string ⟨nm.toArray⟩, .string ⟨to.toArray⟩, .slice ab nb cb, .int .i64 n, .int .i64 m, .int .i64 pn, .slice af nf cf] 53)).heap.size from fun k hk => by have := hP k hk; simp; omega)
  have HBX := Lib.hid hbx
  clear h hP hbx
  go_enter Try.func26, Try.ntmps26
  go_wp2_with fail
  refine (create_ds H.out HPP.out hK nm hnm).mono ?_
  rintro e w2 ⟨rfl, hd⟩
  have HD := Lib.hid (hd)
  clear hd
  obtain ⟨r, hr⟩ : ∃ r, r = (st.create nm).1 := ⟨_, rfl⟩
  have hr15 : r ≤ 15 := by rw [hr]; exact create_le _ _
  rw [← hr]
  have HRR := Lib.hid hr
  clear hr
  go_wp2_with fail
  refine (code_any r (by omega) (by omega) _).mono ?_
  rintro e w3 ⟨rfl, rfl⟩
  go_wp2_with fail
  go_ret3
  exact ⟨.slice none 0 0, by rw [HRR.out]; rfl, World.ownsRow_nil _ _ _ _, HD.out.from HBX.out⟩
set_option maxRecDepth 100000 in
set_option maxHeartbeats 2000000 in
theorem do07_1 {d K : Nat} {P : Nat → Prop} {st : Dk} {w : World} (h : DS w d P K st) (hP : ∀ k, P k → k < w.heap.size) (hK : K < 1099511627776) (nm to : Nm) (ab af : Option Addr) (nb cb nf cf : Nat) (n m pn : Int) (hnm : nm.length ≤ maxLen) (b : List UInt8) (hbl : b.length = nb) (hr : Reads w 1 (.slice ab nb cb) nb (b.map bv)) :
    Calls Try.prog 26 #[(.pointer (some ⟨d, 0, none⟩)), .agg #[.int .i64 1, .string ⟨nm.toArray⟩, .string ⟨to.toArray⟩, .slice ab nb cb, .int .i64 n, .int .i64 m, .int .i64 pn, .slice af nf cf]] w (DoOut07 w d P (K + 1) [] 0 (st.append nm b).1 (st.append nm b).2) := by
  have hbx : Below w.heap.size w (w.alloc (.cells #[.int .i64 1, .string ⟨nm.toArray⟩, .string ⟨to.toArray⟩, .slice ab nb cb, .int .i64 n, .int .i64 m, .int .i64 pn, .slice af nf cf] 53)) := (Below.refl _ _).alloc (Nat.le_refl _) _
  have H := Lib.hid (h.below hbx)
  have HPP := Lib.hid (show ∀ k, P k → k < (w.alloc (.cells #[.int .i64 1, .string ⟨nm.toArray⟩, .string ⟨to.toArray⟩, .slice ab nb cb, .int .i64 n, .int .i64 m, .int .i64 pn, .slice af nf cf] 53)).heap.size from fun k hk => by have := hP k hk; simp; omega)
  have HBX := Lib.hid hbx
  clear h hP hbx
  have HB := Lib.hid hbl
  have HR := Lib.hid hr
  clear hbl hr
  go_enter Try.func26, Try.ntmps26
  go_wp2_with fail
  refine (append_ds H.out HPP.out nm _ b hnm (by rw [HB.out]; exact HR.out.below (by repeat (first | (with_reducible exact Below.refl _ _) | (with_reducible refine Below.setCell ?_ ?_ _) | (with_reducible refine Below.alloc ?_ ?_ _) | (with_reducible refine Below.drewN ?_ _) | (with_reducible refine Below.drew ?_) | (with_reducible exact Nat.le_refl _) | (focus (simp only [World.size_alloc, World.size_setCell, World.size_drew, World.size_drewN]; omega)) | omega | exact Nat.le_refl _ | (focus (simp; done)) | (focus (simp; omega)))))).mono ?_
  rintro e w2 ⟨rfl, hd⟩
  have HD := Lib.hid (hd.more (Nat.le_succ K))
  clear hd
  obtain ⟨r, hr⟩ : ∃ r, r = (st.append nm b).1 := ⟨_, rfl⟩
  have hr15 : r ≤ 15 := by rw [hr]; exact append_le _ _ _
  rw [← hr]
  have HRR := Lib.hid hr
  clear hr
  go_wp2_with fail
  refine (code_any r (by omega) (by omega) _).mono ?_
  rintro e w3 ⟨rfl, rfl⟩
  go_wp2_with fail
  go_ret3
  exact ⟨.slice none 0 0, by rw [HRR.out]; rfl, World.ownsRow_nil _ _ _ _, HD.out.from HBX.out⟩
set_option maxRecDepth 100000 in
set_option maxHeartbeats 2000000 in
theorem do07_2 {d K : Nat} {P : Nat → Prop} {st : Dk} {w : World} (h : DS w d P K st) (hP : ∀ k, P k → k < w.heap.size) (hK : K < 1099511627776) (nm to : Nm) (ab af : Option Addr) (nb cb nf cf : Nat) (n m pn : Int) (hnm : nm.length ≤ maxLen)  :
    Calls Try.prog 26 #[(.pointer (some ⟨d, 0, none⟩)), .agg #[.int .i64 2, .string ⟨nm.toArray⟩, .string ⟨to.toArray⟩, .slice ab nb cb, .int .i64 n, .int .i64 m, .int .i64 pn, .slice af nf cf]] w (DoOut07 w d P (K + 1) [] 0 (st.sync nm).1 (st.sync nm).2) := by
  have hbx : Below w.heap.size w (w.alloc (.cells #[.int .i64 2, .string ⟨nm.toArray⟩, .string ⟨to.toArray⟩, .slice ab nb cb, .int .i64 n, .int .i64 m, .int .i64 pn, .slice af nf cf] 53)) := (Below.refl _ _).alloc (Nat.le_refl _) _
  have H := Lib.hid (h.below hbx)
  have HPP := Lib.hid (show ∀ k, P k → k < (w.alloc (.cells #[.int .i64 2, .string ⟨nm.toArray⟩, .string ⟨to.toArray⟩, .slice ab nb cb, .int .i64 n, .int .i64 m, .int .i64 pn, .slice af nf cf] 53)).heap.size from fun k hk => by have := hP k hk; simp; omega)
  have HBX := Lib.hid hbx
  clear h hP hbx
  go_enter Try.func26, Try.ntmps26
  go_wp2_with fail
  refine (sync_ds H.out HPP.out nm hnm).mono ?_
  rintro e w2 ⟨rfl, hd⟩
  have HD := Lib.hid (hd.more (Nat.le_succ K))
  clear hd
  obtain ⟨r, hr⟩ : ∃ r, r = (st.sync nm).1 := ⟨_, rfl⟩
  have hr15 : r ≤ 15 := by rw [hr]; exact sync_le _ _
  rw [← hr]
  have HRR := Lib.hid hr
  clear hr
  go_wp2_with fail
  refine (code_any r (by omega) (by omega) _).mono ?_
  rintro e w3 ⟨rfl, rfl⟩
  go_wp2_with fail
  go_ret3
  exact ⟨.slice none 0 0, by rw [HRR.out]; rfl, World.ownsRow_nil _ _ _ _, HD.out.from HBX.out⟩
set_option maxRecDepth 100000 in
set_option maxHeartbeats 2000000 in
theorem do07_3 {d K : Nat} {P : Nat → Prop} {st : Dk} {w : World} (h : DS w d P K st) (hP : ∀ k, P k → k < w.heap.size) (hK : K < 1099511627776) (nm to : Nm) (ab af : Option Addr) (nb cb nf cf : Nat) (n m pn : Int) (hnm : nm.length ≤ maxLen)  :
    Calls Try.prog 26 #[(.pointer (some ⟨d, 0, none⟩)), .agg #[.int .i64 3, .string ⟨nm.toArray⟩, .string ⟨to.toArray⟩, .slice ab nb cb, .int .i64 n, .int .i64 m, .int .i64 pn, .slice af nf cf]] w (DoOut07 w d P (K + 1) [] 0 (st.syncNames).1 (st.syncNames).2) := by
  have hbx : Below w.heap.size w (w.alloc (.cells #[.int .i64 3, .string ⟨nm.toArray⟩, .string ⟨to.toArray⟩, .slice ab nb cb, .int .i64 n, .int .i64 m, .int .i64 pn, .slice af nf cf] 53)) := (Below.refl _ _).alloc (Nat.le_refl _) _
  have H := Lib.hid (h.below hbx)
  have HPP := Lib.hid (show ∀ k, P k → k < (w.alloc (.cells #[.int .i64 3, .string ⟨nm.toArray⟩, .string ⟨to.toArray⟩, .slice ab nb cb, .int .i64 n, .int .i64 m, .int .i64 pn, .slice af nf cf] 53)).heap.size from fun k hk => by have := hP k hk; simp; omega)
  have HBX := Lib.hid hbx
  clear h hP hbx
  go_enter Try.func26, Try.ntmps26
  go_wp2_with fail
  refine (syncNames_ds H.out HPP.out).mono ?_
  rintro e w2 ⟨rfl, hd⟩
  have HD := Lib.hid (hd.more (Nat.le_succ K))
  clear hd
  obtain ⟨r, hr⟩ : ∃ r, r = (st.syncNames).1 := ⟨_, rfl⟩
  have hr15 : r ≤ 15 := by rw [hr]; exact syncNames_le _
  rw [← hr]
  have HRR := Lib.hid hr
  clear hr
  go_wp2_with fail
  refine (code_any r (by omega) (by omega) _).mono ?_
  rintro e w3 ⟨rfl, rfl⟩
  go_wp2_with fail
  go_ret3
  exact ⟨.slice none 0 0, by rw [HRR.out]; rfl, World.ownsRow_nil _ _ _ _, HD.out.from HBX.out⟩
set_option maxRecDepth 100000 in
set_option maxHeartbeats 2000000 in
theorem do07_4 {d K : Nat} {P : Nat → Prop} {st : Dk} {w : World} (h : DS w d P K st) (hP : ∀ k, P k → k < w.heap.size) (hK : K < 1099511627776) (nm to : Nm) (ab af : Option Addr) (nb cb nf cf : Nat) (n m pn : Int) (hnm : nm.length ≤ maxLen) (hto : to.length ≤ maxLen) :
    Calls Try.prog 26 #[(.pointer (some ⟨d, 0, none⟩)), .agg #[.int .i64 4, .string ⟨nm.toArray⟩, .string ⟨to.toArray⟩, .slice ab nb cb, .int .i64 n, .int .i64 m, .int .i64 pn, .slice af nf cf]] w (DoOut07 w d P (K + 1) [] 0 (st.rename nm to).1 (st.rename nm to).2) := by
  have hbx : Below w.heap.size w (w.alloc (.cells #[.int .i64 4, .string ⟨nm.toArray⟩, .string ⟨to.toArray⟩, .slice ab nb cb, .int .i64 n, .int .i64 m, .int .i64 pn, .slice af nf cf] 53)) := (Below.refl _ _).alloc (Nat.le_refl _) _
  have H := Lib.hid (h.below hbx)
  have HPP := Lib.hid (show ∀ k, P k → k < (w.alloc (.cells #[.int .i64 4, .string ⟨nm.toArray⟩, .string ⟨to.toArray⟩, .slice ab nb cb, .int .i64 n, .int .i64 m, .int .i64 pn, .slice af nf cf] 53)).heap.size from fun k hk => by have := hP k hk; simp; omega)
  have HBX := Lib.hid hbx
  clear h hP hbx
  go_enter Try.func26, Try.ntmps26
  go_wp2_with fail
  refine (rename_ds H.out HPP.out hK nm to hnm hto).mono ?_
  rintro e w2 ⟨rfl, hd⟩
  have HD := Lib.hid (hd)
  clear hd
  obtain ⟨r, hr⟩ : ∃ r, r = (st.rename nm to).1 := ⟨_, rfl⟩
  have hr15 : r ≤ 15 := by rw [hr]; exact rename_le _ _ _
  rw [← hr]
  have HRR := Lib.hid hr
  clear hr
  go_wp2_with fail
  refine (code_any r (by omega) (by omega) _).mono ?_
  rintro e w3 ⟨rfl, rfl⟩
  go_wp2_with fail
  go_ret3
  exact ⟨.slice none 0 0, by rw [HRR.out]; rfl, World.ownsRow_nil _ _ _ _, HD.out.from HBX.out⟩
set_option maxRecDepth 100000 in
set_option maxHeartbeats 2000000 in
theorem do07_5 {d K : Nat} {P : Nat → Prop} {st : Dk} {w : World} (h : DS w d P K st) (hP : ∀ k, P k → k < w.heap.size) (hK : K < 1099511627776) (nm to : Nm) (ab af : Option Addr) (nb cb nf cf : Nat) (n m pn : Int) (hnm : nm.length ≤ maxLen)  :
    Calls Try.prog 26 #[(.pointer (some ⟨d, 0, none⟩)), .agg #[.int .i64 5, .string ⟨nm.toArray⟩, .string ⟨to.toArray⟩, .slice ab nb cb, .int .i64 n, .int .i64 m, .int .i64 pn, .slice af nf cf]] w (DoOut07 w d P (K + 1) [] 0 (st.remove nm).1 (st.remove nm).2) := by
  have hbx : Below w.heap.size w (w.alloc (.cells #[.int .i64 5, .string ⟨nm.toArray⟩, .string ⟨to.toArray⟩, .slice ab nb cb, .int .i64 n, .int .i64 m, .int .i64 pn, .slice af nf cf] 53)) := (Below.refl _ _).alloc (Nat.le_refl _) _
  have H := Lib.hid (h.below hbx)
  have HPP := Lib.hid (show ∀ k, P k → k < (w.alloc (.cells #[.int .i64 5, .string ⟨nm.toArray⟩, .string ⟨to.toArray⟩, .slice ab nb cb, .int .i64 n, .int .i64 m, .int .i64 pn, .slice af nf cf] 53)).heap.size from fun k hk => by have := hP k hk; simp; omega)
  have HBX := Lib.hid hbx
  clear h hP hbx
  go_enter Try.func26, Try.ntmps26
  go_wp2_with fail
  refine (remove_ds H.out HPP.out hK nm hnm).mono ?_
  rintro e w2 ⟨rfl, hd⟩
  have HD := Lib.hid (hd)
  clear hd
  obtain ⟨r, hr⟩ : ∃ r, r = (st.remove nm).1 := ⟨_, rfl⟩
  have hr15 : r ≤ 15 := by rw [hr]; exact remove_le _ _
  rw [← hr]
  have HRR := Lib.hid hr
  clear hr
  go_wp2_with fail
  refine (code_any r (by omega) (by omega) _).mono ?_
  rintro e w3 ⟨rfl, rfl⟩
  go_wp2_with fail
  go_ret3
  exact ⟨.slice none 0 0, by rw [HRR.out]; rfl, World.ownsRow_nil _ _ _ _, HD.out.from HBX.out⟩
set_option maxRecDepth 100000 in
set_option maxHeartbeats 2000000 in
theorem do07_6 {d K : Nat} {P : Nat → Prop} {st : Dk} {w : World} (h : DS w d P K st) (hP : ∀ k, P k → k < w.heap.size) (hK : K < 1099511627776) (nm to : Nm) (ab af : Option Addr) (nb cb nf cf : Nat) (n m pn : Int) (hnm : nm.length ≤ maxLen)  :
    Calls Try.prog 26 #[(.pointer (some ⟨d, 0, none⟩)), .agg #[.int .i64 6, .string ⟨nm.toArray⟩, .string ⟨to.toArray⟩, .slice ab nb cb, .int .i64 n, .int .i64 m, .int .i64 pn, .slice af nf cf]] w (DoOut07 w d P (K + 1) [] 0 (st.cut nm n).1 (st.cut nm n).2) := by
  have hbx : Below w.heap.size w (w.alloc (.cells #[.int .i64 6, .string ⟨nm.toArray⟩, .string ⟨to.toArray⟩, .slice ab nb cb, .int .i64 n, .int .i64 m, .int .i64 pn, .slice af nf cf] 53)) := (Below.refl _ _).alloc (Nat.le_refl _) _
  have H := Lib.hid (h.below hbx)
  have HPP := Lib.hid (show ∀ k, P k → k < (w.alloc (.cells #[.int .i64 6, .string ⟨nm.toArray⟩, .string ⟨to.toArray⟩, .slice ab nb cb, .int .i64 n, .int .i64 m, .int .i64 pn, .slice af nf cf] 53)).heap.size from fun k hk => by have := hP k hk; simp; omega)
  have HBX := Lib.hid hbx
  clear h hP hbx
  go_enter Try.func26, Try.ntmps26
  go_wp2_with fail
  refine (cut_ds H.out HPP.out nm n hnm).mono ?_
  rintro e w2 ⟨rfl, hd⟩
  have HD := Lib.hid (hd.more (Nat.le_succ K))
  clear hd
  obtain ⟨r, hr⟩ : ∃ r, r = (st.cut nm n).1 := ⟨_, rfl⟩
  have hr15 : r ≤ 15 := by rw [hr]; exact cut_le _ _ _
  rw [← hr]
  have HRR := Lib.hid hr
  clear hr
  go_wp2_with fail
  refine (code_any r (by omega) (by omega) _).mono ?_
  rintro e w3 ⟨rfl, rfl⟩
  go_wp2_with fail
  go_ret3
  exact ⟨.slice none 0 0, by rw [HRR.out]; rfl, World.ownsRow_nil _ _ _ _, HD.out.from HBX.out⟩
set_option maxRecDepth 100000 in
set_option maxHeartbeats 2000000 in
theorem do07_7 {d K : Nat} {P : Nat → Prop} {st : Dk} {w : World} (h : DS w d P K st) (hP : ∀ k, P k → k < w.heap.size) (hK : K < 1099511627776) (nm to : Nm) (ab af : Option Addr) (nb cb nf cf : Nat) (n m pn : Int) (hnm : nm.length ≤ maxLen) (hn : n ≤ 9223372036854775807) :
    Calls Try.prog 26 #[(.pointer (some ⟨d, 0, none⟩)), .agg #[.int .i64 7, .string ⟨nm.toArray⟩, .string ⟨to.toArray⟩, .slice ab nb cb, .int .i64 n, .int .i64 m, .int .i64 pn, .slice af nf cf]] w (DoOut07 w d P (K + 1) [] 0 (st.arm n).1 (st.arm n).2) := by
  have hbx : Below w.heap.size w (w.alloc (.cells #[.int .i64 7, .string ⟨nm.toArray⟩, .string ⟨to.toArray⟩, .slice ab nb cb, .int .i64 n, .int .i64 m, .int .i64 pn, .slice af nf cf] 53)) := (Below.refl _ _).alloc (Nat.le_refl _) _
  have H := Lib.hid (h.below hbx)
  have HPP := Lib.hid (show ∀ k, P k → k < (w.alloc (.cells #[.int .i64 7, .string ⟨nm.toArray⟩, .string ⟨to.toArray⟩, .slice ab nb cb, .int .i64 n, .int .i64 m, .int .i64 pn, .slice af nf cf] 53)).heap.size from fun k hk => by have := hP k hk; simp; omega)
  have HBX := Lib.hid hbx
  clear h hP hbx
  go_enter Try.func26, Try.ntmps26
  go_wp2_with fail
  refine (arm_ds H.out HPP.out n hn).mono ?_
  rintro e w2 ⟨rfl, hd⟩
  have HD := Lib.hid (hd.more (Nat.le_succ K))
  clear hd
  obtain ⟨r, hr⟩ : ∃ r, r = (st.arm n).1 := ⟨_, rfl⟩
  have hr15 : r ≤ 15 := by rw [hr]; exact arm_le _ _
  rw [← hr]
  have HRR := Lib.hid hr
  clear hr
  go_wp2_with fail
  refine (code_any r (by omega) (by omega) _).mono ?_
  rintro e w3 ⟨rfl, rfl⟩
  go_wp2_with fail
  go_ret3
  exact ⟨.slice none 0 0, by rw [HRR.out]; rfl, World.ownsRow_nil _ _ _ _, HD.out.from HBX.out⟩
set_option maxRecDepth 100000 in
set_option maxHeartbeats 2000000 in
theorem do07_9 {d K : Nat} {P : Nat → Prop} {st : Dk} {w : World} (h : DS w d P K st) (hP : ∀ k, P k → k < w.heap.size) (hK : K < 1099511627776) (nm to : Nm) (ab af : Option Addr) (nb cb nf cf : Nat) (n m pn : Int) (hnm : nm.length ≤ maxLen)  :
    Calls Try.prog 26 #[(.pointer (some ⟨d, 0, none⟩)), .agg #[.int .i64 9, .string ⟨nm.toArray⟩, .string ⟨to.toArray⟩, .slice ab nb cb, .int .i64 n, .int .i64 m, .int .i64 pn, .slice af nf cf]] w (DoOut07 w d P (K + 1) [] 0 (st.spoil nm n (byteOf m)).1 (st.spoil nm n (byteOf m)).2) := by
  have hbx : Below w.heap.size w (w.alloc (.cells #[.int .i64 9, .string ⟨nm.toArray⟩, .string ⟨to.toArray⟩, .slice ab nb cb, .int .i64 n, .int .i64 m, .int .i64 pn, .slice af nf cf] 53)) := (Below.refl _ _).alloc (Nat.le_refl _) _
  have H := Lib.hid (h.below hbx)
  have HPP := Lib.hid (show ∀ k, P k → k < (w.alloc (.cells #[.int .i64 9, .string ⟨nm.toArray⟩, .string ⟨to.toArray⟩, .slice ab nb cb, .int .i64 n, .int .i64 m, .int .i64 pn, .slice af nf cf] 53)).heap.size from fun k hk => by have := hP k hk; simp; omega)
  have HBX := Lib.hid hbx
  clear h hP hbx
  have hby : Value.int .u8 (m % 256) = .int .u8 (byteOf m).toNat := by
    unfold byteOf
    congr 1
    rw [UInt8.toNat_ofNat']
    omega
  go_enter Try.func26, Try.ntmps26
  go_wp2_with fail
  rw [hby]
  refine (spoil_ds H.out HPP.out nm n (byteOf m) hnm).mono ?_
  rintro e w2 ⟨rfl, hd⟩
  have HD := Lib.hid (hd.more (Nat.le_succ K))
  clear hd
  obtain ⟨r, hr⟩ : ∃ r, r = (st.spoil nm n (byteOf m)).1 := ⟨_, rfl⟩
  have hr15 : r ≤ 15 := by rw [hr]; exact spoil_le _ _ _ _
  rw [← hr]
  have HRR := Lib.hid hr
  clear hr
  go_wp2_with fail
  refine (code_any r (by omega) (by omega) _).mono ?_
  rintro e w3 ⟨rfl, rfl⟩
  go_wp2_with fail
  go_ret3
  exact ⟨.slice none 0 0, by rw [HRR.out]; rfl, World.ownsRow_nil _ _ _ _, HD.out.from HBX.out⟩
set_option maxRecDepth 100000 in
set_option maxHeartbeats 2000000 in
theorem do07_8 {d K : Nat} {P : Nat → Prop} {st : Dk} {w : World} (h : DS w d P K st) (hP : ∀ k, P k → k < w.heap.size) (hK : K < 1099511627776) (nm to : Nm) (ab af : Option Addr) (nb cb nf cf : Nat) (n m pn : Int) (hnm : nm.length ≤ maxLen) (fs : List DPick) (hfl : fs.length = nf) (hr : Reads w 2 (.slice af nf cf) nf (fs.flatMap DPick.row)) (hnf : nf ≤ 1000) (hn1 : -9223372036854775808 ≤ pn) (hn2 : pn ≤ 9223372036854775807) (hpk : ∀ x ∈ fs, -9223372036854775808 ≤ x.keep ∧ x.keep ≤ 9223372036854775807) :
    Calls Try.prog 26 #[(.pointer (some ⟨d, 0, none⟩)), .agg #[.int .i64 8, .string ⟨nm.toArray⟩, .string ⟨to.toArray⟩, .slice ab nb cb, .int .i64 n, .int .i64 m, .int .i64 pn, .slice af nf cf]] w (DoOut07 w d P (K + 1) [] 0 0 (st.crash ⟨pn, fs⟩)) := by
  have hbx : Below w.heap.size w (w.alloc (.cells #[.int .i64 8, .string ⟨nm.toArray⟩, .string ⟨to.toArray⟩, .slice ab nb cb, .int .i64 n, .int .i64 m, .int .i64 pn, .slice af nf cf] 53)) := (Below.refl _ _).alloc (Nat.le_refl _) _
  have H := Lib.hid (h.below hbx)
  have HPP := Lib.hid (show ∀ k, P k → k < (w.alloc (.cells #[.int .i64 8, .string ⟨nm.toArray⟩, .string ⟨to.toArray⟩, .slice ab nb cb, .int .i64 n, .int .i64 m, .int .i64 pn, .slice af nf cf] 53)).heap.size from fun k hk => by have := hP k hk; simp; omega)
  have HBX := Lib.hid hbx
  clear h hP hbx
  have HR := Lib.hid hr
  have HPK := Lib.hid hpk
  subst hfl
  clear hr hpk
  go_enter Try.func26, Try.ntmps26
  go_wp2_with fail
  refine (picks_any pn fs af fs.length cf _ rfl hnf (HR.out.below (by repeat (first | (with_reducible exact Below.refl _ _) | (with_reducible refine Below.setCell ?_ ?_ _) | (with_reducible refine Below.alloc ?_ ?_ _) | (with_reducible refine Below.drewN ?_ _) | (with_reducible refine Below.drew ?_) | (with_reducible exact Nat.le_refl _) | (focus (simp only [World.size_alloc, World.size_setCell, World.size_drew, World.size_drewN]; omega)) | omega | exact Nat.le_refl _ | (focus (simp; done)) | (focus (simp; omega)))))).mono ?_
  rintro e w2 ⟨v, rfl, hov, hb2⟩
  obtain ⟨av, cv, rfl⟩ := ownsRow_len hov
  have HOV := Lib.hid hov
  have HB2 := Lib.hid hb2
  have hz2 := hb2.size
  simp only [World.size_alloc] at hz2
  have HD2 := Lib.hid (H.out.later (R := fun k => P k ∨ (w.heap.size + 1 ≤ k ∧ k < w2.heap.size)) hb2 fun k hk => hk.imp id fun hk => by simp; omega)
  clear hov hb2
  go_wp2_with fail
  refine (crash_ds HD2.out (fun k hk => hk.elim (fun hk => by have := HPP.out k hk; simp at this; omega) fun hk => hk.2) (by omega) ⟨pn, fs⟩ av cv (reads_of_owns HOV.out) (fun g e => by
    subst e
    rcases row_addr7 HOV.out with ⟨e, _⟩ | ⟨g', e⟩
    · cases e
    · cases e
      have := HOV.out.lt g' rfl
      simp only [World.size_alloc] at this
      exact ⟨rfl, .inr this, this.2⟩) hn1 hn2 HPK.out).mono ?_
  rintro e w3 ⟨rfl, hd3, hk3⟩
  have HD3 := Lib.hid ((hd3.less (R := P) fun k hk => .inl hk).more (Nat.le_succ K))
  have HK3 := Lib.hid (hk3.mono (R := P) fun k _ hk => .inl hk)
  clear hd3 hk3
  go_wp2_with fail
  refine (code0 _).mono ?_
  rintro e w4 ⟨rfl, rfl⟩
  go_wp2_with fail
  go_ret3
  exact ⟨.slice none 0 0, rfl, World.ownsRow_nil _ _ _ _, HD3.out, (KP.of HBX.out).trans ((KP.of HB2.out).trans HK3.out)⟩
set_option maxRecDepth 100000 in
set_option maxHeartbeats 2000000 in
theorem do07_10 {d K : Nat} {P : Nat → Prop} {st : Dk} {w : World} (h : DS w d P K st) (hP : ∀ k, P k → k < w.heap.size) (hK : K < 1099511627776) (nm to : Nm) (ab af : Option Addr) (nb cb nf cf : Nat) (n m pn : Int) (hnm : nm.length ≤ maxLen) (hn : n ≤ 9223372036854775807) (hm : m ≤ 9223372036854775807) :
    Calls Try.prog 26 #[(.pointer (some ⟨d, 0, none⟩)), .agg #[.int .i64 10, .string ⟨nm.toArray⟩, .string ⟨to.toArray⟩, .slice ab nb cb, .int .i64 n, .int .i64 m, .int .i64 pn, .slice af nf cf]] w (DoOut07 w d P (K + 1) (st.read nm n m).2 0 (st.read nm n m).1 st) := by
  have hbx : Below w.heap.size w (w.alloc (.cells #[.int .i64 10, .string ⟨nm.toArray⟩, .string ⟨to.toArray⟩, .slice ab nb cb, .int .i64 n, .int .i64 m, .int .i64 pn, .slice af nf cf] 53)) := (Below.refl _ _).alloc (Nat.le_refl _) _
  have H := Lib.hid (h.below hbx)
  have HPP := Lib.hid (show ∀ k, P k → k < (w.alloc (.cells #[.int .i64 10, .string ⟨nm.toArray⟩, .string ⟨to.toArray⟩, .slice ab nb cb, .int .i64 n, .int .i64 m, .int .i64 pn, .slice af nf cf] 53)).heap.size from fun k hk => by have := hP k hk; simp; omega)
  have HBX := Lib.hid hbx
  clear h hP hbx
  go_enter Try.func26, Try.ntmps26
  go_wp2_with fail
  refine (read_ds H.out nm n m hnm hm hn).mono ?_
  rintro e w2 hR
  obtain ⟨r, hr⟩ : ∃ r, r = (st.read nm n m).1 := ⟨_, rfl⟩
  have hr15 : r ≤ 15 := by rw [hr]; exact read_le _ _ _ _
  rw [← hr] at hR ⊢
  have HRR := Lib.hid hr
  clear hr
  obtain ⟨v, rfl, hov, hb2⟩ := hR
  have HOV := Lib.hid hov
  have HB2 := Lib.hid hb2
  clear hov hb2
  go_wp2_with fail
  refine (code_any r (by omega) (by omega) _).mono ?_
  rintro e w3 ⟨rfl, rfl⟩
  go_wp2_with fail
  go_ret3
  exact ⟨v, by rw [HRR.out]; rfl, ownsRow_mono HOV.out (by simp), (DTo.same (H.out.more (Nat.le_succ K)) HB2.out).from HBX.out⟩
set_option maxRecDepth 100000 in
set_option maxHeartbeats 2000000 in
theorem do07_size {d K : Nat} {P : Nat → Prop} {st : Dk} {w : World} (h : DS w d P K st) (hP : ∀ k, P k → k < w.heap.size) (hK : K < 1099511627776) (nm to : Nm) (ab af : Option Addr) (nb cb nf cf : Nat) (n m pn : Int) (hnm : nm.length ≤ maxLen) (k : Int) (h0 : k ≠ 0) (h1 : k ≠ 1) (h2 : k ≠ 2) (h3 : k ≠ 3) (h4 : k ≠ 4) (h5 : k ≠ 5) (h6 : k ≠ 6) (h7 : k ≠ 7) (h8 : k ≠ 8) (h9 : k ≠ 9) (h10 : k ≠ 10) :
    Calls Try.prog 26 #[(.pointer (some ⟨d, 0, none⟩)), .agg #[.int .i64 k, .string ⟨nm.toArray⟩, .string ⟨to.toArray⟩, .slice ab nb cb, .int .i64 n, .int .i64 m, .int .i64 pn, .slice af nf cf]] w (DoOut07 w d P (K + 1) [] (st.size nm).2 (st.size nm).1 st) := by
  have hbx : Below w.heap.size w (w.alloc (.cells #[.int .i64 k, .string ⟨nm.toArray⟩, .string ⟨to.toArray⟩, .slice ab nb cb, .int .i64 n, .int .i64 m, .int .i64 pn, .slice af nf cf] 53)) := (Below.refl _ _).alloc (Nat.le_refl _) _
  have H := Lib.hid (h.below hbx)
  have HPP := Lib.hid (show ∀ k, P k → k < (w.alloc (.cells #[.int .i64 k, .string ⟨nm.toArray⟩, .string ⟨to.toArray⟩, .slice ab nb cb, .int .i64 n, .int .i64 m, .int .i64 pn, .slice af nf cf] 53)).heap.size from fun k hk => by have := hP k hk; simp; omega)
  have HBX := Lib.hid hbx
  clear h hP hbx
  go_enter Try.func26, Try.ntmps26
  go_wp2_with fail
  refine (size_ds H.out nm hnm).mono ?_
  rintro e w2 ⟨rfl, rfl⟩
  obtain ⟨r, hr⟩ : ∃ r, r = (st.size nm).1 := ⟨_, rfl⟩
  have hr15 : r ≤ 15 := by rw [hr]; exact size_le _ _
  rw [← hr]
  have HRR := Lib.hid hr
  clear hr
  go_wp2_with fail
  refine (code_any r (by omega) (by omega) _).mono ?_
  rintro e w3 ⟨rfl, rfl⟩
  go_wp2_with fail
  go_ret3
  exact ⟨.slice none 0 0, by rw [HRR.out]; rfl, World.ownsRow_nil _ _ _ _, (DTo.same (H.out.more (Nat.le_succ K)) (Below.refl _ _)).from HBX.out⟩
def Dk.ok (a : DAct) : Prop := a.name.length ≤ maxLen ∧ a.to.length ≤ maxLen ∧ a.n ≤ 9223372036854775807 ∧ a.m ≤ 9223372036854775807 ∧ a.p.files.length ≤ 1000 ∧ -9223372036854775808 ≤ a.p.names ∧ a.p.names ≤ 9223372036854775807 ∧ ∀ x ∈ a.p.files, -9223372036854775808 ≤ x.keep ∧ x.keep ≤ 9223372036854775807
/-- Any call. -/
theorem do07_any {d K : Nat} {P : Nat → Prop} {st : Dk} {w : World} (h : DS w d P K st) (hP : ∀ k, P k → k < w.heap.size) (hK : K < 1099511627776) (a : DAct) (ha : Dk.ok a) (ab af : Option Addr) (cb cf : Nat)
    (hrb : Reads w 1 (.slice ab a.b.length cb) a.b.length (a.b.map bv)) (hrf : Reads w 2 (.slice af a.p.files.length cf) a.p.files.length (a.p.files.flatMap DPick.row)) :
    Calls Try.prog 26 #[(.pointer (some ⟨d, 0, none⟩)), .agg #[.int .i64 a.kind, .string ⟨a.name.toArray⟩, .string ⟨a.to.toArray⟩, .slice ab a.b.length cb, .int .i64 a.n, .int .i64 a.m, .int .i64 a.p.names, .slice af a.p.files.length cf]] w
      (DoOut07 w d P (K + 1) (st.callB a) (st.callN a) (st.call a).1 (st.call a).2) := by
  obtain ⟨k, nm, to, b, n, m, pn, fs⟩ := a
  obtain ⟨h1, h2, h3, h4, h5, h6, h7, h8⟩ := ha
  simp only at *
  by_cases k0 : k = 0
  · subst k0
    exact do07_0 h hP hK nm to ab af b.length cb fs.length cf n m pn h1 
  by_cases k1 : k = 1
  · subst k1
    exact do07_1 h hP hK nm to ab af b.length cb fs.length cf n m pn h1 b rfl hrb
  by_cases k2 : k = 2
  · subst k2
    exact do07_2 h hP hK nm to ab af b.length cb fs.length cf n m pn h1 
  by_cases k3 : k = 3
  · subst k3
    exact do07_3 h hP hK nm to ab af b.length cb fs.length cf n m pn h1 
  by_cases k4 : k = 4
  · subst k4
    exact do07_4 h hP hK nm to ab af b.length cb fs.length cf n m pn h1 h2
  by_cases k5 : k = 5
  · subst k5
    exact do07_5 h hP hK nm to ab af b.length cb fs.length cf n m pn h1 
  by_cases k6 : k = 6
  · subst k6
    exact do07_6 h hP hK nm to ab af b.length cb fs.length cf n m pn h1 
  by_cases k7 : k = 7
  · subst k7
    exact do07_7 h hP hK nm to ab af b.length cb fs.length cf n m pn h1 h3
  by_cases k8 : k = 8
  · subst k8
    exact do07_8 h hP hK nm to ab af b.length cb fs.length cf n m pn h1 fs rfl hrf h5 h6 h7 h8
  by_cases k9 : k = 9
  · subst k9
    exact do07_9 h hP hK nm to ab af b.length cb fs.length cf n m pn h1 
  by_cases k10 : k = 10
  · subst k10
    exact do07_10 h hP hK nm to ab af b.length cb fs.length cf n m pn h1 h3 h4
  have e1 : st.callB ⟨k, nm, to, b, n, m, ⟨pn, fs⟩⟩ = [] := by unfold Dk.callB; rw [if_neg k10]
  have e2 : st.callN ⟨k, nm, to, b, n, m, ⟨pn, fs⟩⟩ = (st.size nm).2 := by unfold Dk.callN; exact if_neg (fun e => by have e1 : 0 ≤ k := e.1; have e2 : k ≤ 10 := e.2; omega)
  have e3 : st.call ⟨k, nm, to, b, n, m, ⟨pn, fs⟩⟩ = ((st.size nm).1, st) := by unfold Dk.call; simp only [k0, k1, k2, k3, k4, k5, k6, k7, k8, k9, k10, if_false]
  rw [e1, e2, e3]
  exact do07_size h hP hK nm to ab af b.length cb fs.length cf n m pn h1 k k0 k1 k2 k3 k4 k5 k6 k7 k8 k9 k10
end Go.Proofs.Ytcicnjlkcbimgaa

/- corncribref07: with, Turn. -/
namespace Go.Proofs.Ytcicnjlkcbimgaa
open Go.RowKit Go.WideShapes Go.WideAt
theorem less_before : ∀ a b : List UInt8, Op.bytesLess a b = bytesBefore a b
  | [], [] => rfl
  | [], _ :: _ => rfl
  | _ :: _, [] => rfl
  | a :: r, b :: s => by
    simp only [Op.bytesLess, bytesBefore, less_before r s]
theorem row_cap7 {w : World} {base n c : Nat} {a : Option Addr} {e : TypeId} {sz : Nat} {xs : List Value} (h : w.ownsRow base e sz (.slice a n c) n xs) : n ≤ c := by
  rcases h.2 with ⟨e, h0⟩ | ⟨g, cap, cur, e, _, _, h1, _⟩
  · omega
  · simp only [Value.slice.injEq] at e
    omega
theorem take_while_at {α : Type} (p : α → Bool) : ∀ (l : List α) (i : Nat), i ≤ l.length → (∀ x ∈ l.take i, p x = true) → (i = l.length ∨ ∃ x, l[i]? = some x ∧ p x = false) → l.takeWhile p = l.take i ∧ l.dropWhile p = l.drop i
  | [], i, hi, _, _ => by simp at hi; subst hi; simp
  | a :: l, 0, _, _, h2 => by
    rcases h2 with h2 | ⟨x, hx, hp⟩
    · simp at h2
    · simp at hx
      subst hx
      simp [List.takeWhile_cons, List.dropWhile_cons, hp]
  | a :: l, i + 1, hi, h1, h2 => by
    have ha : p a = true := h1 a (by simp)
    have := take_while_at p l i (by simpa using hi) (fun x hx => h1 x (by simp [hx])) (by
      rcases h2 with h2 | ⟨x, hx, hp⟩
      · exact .inl (by simpa using h2)
      · exact .inr ⟨x, by simpa using hx, hp⟩)
    simp [List.takeWhile_cons, List.dropWhile_cons, ha, this.1, this.2]
theorem put_split {l : Dir} {s : Nm} {f i : Nat} (hi : i ≤ (dirDel l s).length) (h1 : ∀ p ∈ (dirDel l s).take i, bytesBefore p.1 s = true) (h2 : i = (dirDel l s).length ∨ ∃ p, (dirDel l s)[i]? = some p ∧ bytesBefore p.1 s = false) :
    dirPut l s f = (dirDel l s).take i ++ (s, f) :: (dirDel l s).drop i := by
  unfold dirPut
  rw [ins_split (s, f) _ (fun p hp => (mem_del.1 hp).2)]
  obtain ⟨e1, e2⟩ := take_while_at (fun p : Nm × Nat => bytesBefore p.1 s) _ i hi h1 h2
  show (dirDel l s).takeWhile (fun p => bytesBefore p.1 s) ++ (s, f) :: (dirDel l s).dropWhile (fun p => bytesBefore p.1 s) = _
  rw [e1, e2]
set_option maxRecDepth 100000 in
set_option maxHeartbeats 4000000 in
theorem with07_any (a : Option Addr) (n c : Nat) (l : Dir) (s : Nm) (f : Nat) (w : World) (hl : l.length = n) (hr : Reads w 2 (.slice a n c) n (l.flatMap entRow)) (hn : n ≤ 4096) :
    Calls Try.prog 65 #[.slice a n c, .string ⟨s.toArray⟩, .int .i64 f] w fun e w' => ∃ v, e = .returned v ∧ w'.ownsRow w.heap.size 72 2 v (dirPut l s f).length ((dirPut l s f).flatMap entRow) ∧ Below w.heap.size w w' := by
  have HL := Lib.hid hl
  have HR := Lib.hid hr
  obtain ⟨i0, hi, hz0, hz1, hz2⟩ := info_parts entry_info
  have HI := Lib.hid hi
  have HZ0 := Lib.hid hz0
  have HZ1 := Lib.hid hz1
  have HZ2 := Lib.hid hz2
  clear hi hz0 hz1 hz2 hl hr
  go_enter Try.func65, Try.ntmps65
  go_wp2_with fail
  refine (without07_any a n c l s _ HL.out HR.out hn).mono ?_
  rintro e w1 ⟨v1, rfl, ho1, hb1⟩
  obtain ⟨a1, c1, rfl⟩ := ownsRow_len ho1
  have HPS := Lib.hid (fun i hi h1 h2 => put_split (l := l) (s := s) (f := f) (i := i) hi h1 h2)
  have hdn : (dirDel l s).length ≤ 4096 := by have := len_del l s; have := HL.out; omega
  obtain ⟨d, hd⟩ : ∃ d, d = dirDel l s := ⟨_, rfl⟩
  rw [← hd] at ho1 HPS hdn ⊢
  obtain ⟨m, hm⟩ : ∃ m, m = d.length := ⟨_, rfl⟩
  rw [← hm] at ho1 HPS hdn ⊢
  have HM := Lib.hid hm.symm
  have HO1 := Lib.hid ho1
  have HB1 := Lib.hid hb1
  have hz1 := hb1.size
  clear ho1 hb1 hd hm
  go_wp2_with fail
  go_loopw [7] (fun i wr => ∃ k : Nat, k ≤ m ∧ i = .int .i64 k ∧ (∀ p ∈ d.take k, bytesBefore p.1 s = true) ∧ w1 = wr) (fun i _ => m - (intOf i).toNat)
  case atStart => exact ⟨0, Nat.zero_le _, rfl, fun p hp => by simp at hp, rfl⟩
  case round =>
    obtain ⟨k, hk, rfl, hno, rfl⟩ := hrel
    have HNO := Lib.hid hno
    clear hno
    by_cases hlt : k < m
    · obtain ⟨x, hx⟩ : ∃ x, d[k]? = some x := ⟨_, List.getElem?_eq_getElem (by rw [HM.out]; exact hlt)⟩
      obtain ⟨b, o, cc, e, hbl, x0, x1⟩ := ent_at (reads_of_owns HO1.out) hx (by omega)
      obtain ⟨rfl, -, rfl⟩ := sl_inj e
      have HX := Lib.hid hx
      have hk0 : (0 : Int) ≤ (k : Int) := by omega
      have hk1 : (k : Int) < (m : Int) := by omega
      clear hx e
      obtain ⟨t, g⟩ := x
      simp only at x0 x1
      by_cases hb : bytesBefore t s = true
      · have hbl2 : Op.bytesLess t s = true := by rw [less_before]; exact hb
        have HNO2 := Lib.hid (show ∀ p ∈ d.take (k + 1), bytesBefore p.1 s = true from fun p hp => by
          rw [take_snoc_at d k _ HX.out] at hp
          rcases List.mem_append.1 hp with hp | hp
          · exact HNO.out p hp
          · obtain rfl : p = _ := List.mem_singleton.1 hp
            exact hb)
        clear hb
        go_wp2_with fail
        go_roundw
        case rel => exact ⟨k + 1, by omega, by go_num, HNO2.out, trivial⟩
        case measure => simp [intOf]; omega
      · have hbf : bytesBefore t s = false := by simpa using hb
        have hbl2 : Op.bytesLess t s = false := by rw [less_before]; exact hbf
        have HSP := Lib.hid (HPS.out k hk HNO.out (.inr ⟨_, HX.out, hbf⟩))
        clear hb hbf
        have HRUN1 := Lib.hid (run_prefixK 60 72 2 Try.underlying60 ent_size (some ⟨b, o, none⟩) m c1 k (row_addr7 HO1.out) (by have := row_cap7 HO1.out; omega))
        have hrun1 := HRUN1.out
        obtain ⟨a2, hrun2⟩ : ∃ a2, ∀ W, (Instr.slice 60 (.slice (some ⟨b, o, none⟩) m c1) (some (.int .i64 k)) none none).run Try.prog W = .ok (.slice a2 (m - k) (c1 - k)) W ∧ a2 = (if c1 = k then (some ⟨b, o, none⟩ : Option Addr) else (some ⟨b, o, none⟩ : Option Addr).map (·.add (k * 2))) := ⟨_, fun W => by
          obtain ⟨a', h1, h2⟩ := run_suffixK 60 72 2 Try.underlying60 ent_size (some ⟨b, o, none⟩) m c1 k hk (row_cap7 HO1.out) W
          rw [h2] at h1
          exact ⟨h1, rfl⟩⟩
        have ha2 := (hrun2 w1).2
        have hrun3 := fun W => (hrun2 W).1
        have HR1 := Lib.hid (pre_reads (i := k) HO1.out HM.out hk)
        have HR2 := Lib.hid (suf_reads (i := k) HO1.out HM.out hk ha2 rfl)
        have ht1 : (d.take k).length = k := by rw [List.length_take, HM.out]; omega
        have ht2 : (d.drop k).length = m - k := by rw [List.length_drop, HM.out]
        have HT1 := Lib.hid ht1
        have HT2 := Lib.hid ht2
        clear hrun2 ha2 ht1 ht2
        go_upto_region 6 with (at_builtin; refine wpList_append_reads _ rfl _ _ 60 rfl w1.heap.size 72 i0 (.agg #[.string ⟨#[]⟩, .int .i64 0]) 2 24 Try.underlying60 HI.out HZ0.out HZ1.out HZ2.out rfl (by decide) (.slice (some ⟨w1.heap.size, 0, none⟩) 0 0) 0 [] rfl (World.ownsRow_lit w1 #[] 0 (Nat.le_refl _) (by unfold maxLen; omega) rfl) (.slice (some ⟨b, o, none⟩) k c1) k _ rfl (HR1.out.below (by repeat (first | (with_reducible exact Below.refl _ _) | (with_reducible refine Below.setCell ?_ ?_ _) | (with_reducible refine Below.alloc ?_ ?_ _) | (with_reducible refine Below.drewN ?_ _) | (with_reducible refine Below.drew ?_) | (with_reducible exact Nat.le_refl _) | (focus (simp only [World.size_alloc, World.size_setCell, World.size_drew, World.size_drewN]; omega)) | omega | exact Nat.le_refl _ | (focus (simp; done)) | (focus (simp; omega))))) (ents_one _) (by unfold maxLen; omega) (by omega) (by simp) ?_; intro v2 w2 hown2 hgrow2 _; simp only [Nat.zero_add, List.nil_append] at hown2; have HB2 := Lib.hid (show Below w1.heap.size w1 w2 from Below.grown (Below.alloc (Below.refl _ _) (Nat.le_refl _) _) hgrow2 (by simp) (fun g hg => by simp [Value.ownBlock] at hg; omega)); have HO2 := Lib.hid hown2; clear hgrow2 hown2)
        have hz2 := HB2.out.size
        go_upto_region 7 with (at_builtin; refine wpList_append_reads _ rfl _ _ 60 rfl w1.heap.size 72 i0 (.agg #[.string ⟨#[]⟩, .int .i64 0]) 2 24 Try.underlying60 HI.out HZ0.out HZ1.out HZ2.out rfl (by decide) v2 k _ rfl (HO2.out.alloc _) (.slice (some ⟨w2.heap.size, 0, none⟩) 1 1) 1 [.string ⟨s.toArray⟩, .int .i64 f] rfl ⟨rfl, .inr ⟨_, _, rfl, by unfold maxLen; omega, World.news_of_block (cs := #[.string ⟨s.toArray⟩, .int .i64 f]) (t := 72) (fr := (0, 0)) (heap_new w2 _)⟩⟩ (by simp [Value.oneCell']) (by unfold maxLen; omega) (by omega) (by simp; omega) ?_; intro v3 w3 hown3 hgrow3 _; have HB3 := Lib.hid (show Below w1.heap.size w1 w3 from Below.grown (HB2.out.alloc (by omega) _) hgrow3 (by simp; omega) (fun g hg => (HO2.out.lt g hg).1)); have HO3 := Lib.hid hown3; clear hgrow3 hown3)
        have hz3 := HB3.out.size
        go_wp2_with (at_builtin; refine wpList_append_reads _ rfl _ _ 60 rfl w1.heap.size 72 i0 (.agg #[.string ⟨#[]⟩, .int .i64 0]) 2 24 Try.underlying60 HI.out HZ0.out HZ1.out HZ2.out rfl (by decide) v3 (k + 1) _ rfl HO3.out (.slice a2 (m - k) (c1 - k)) (m - k) _ rfl (HR2.out.below HB3.out) (ents_one _) (by unfold maxLen; omega) (by omega) (by omega) ?_; intro v4 w4 hown4 hgrow4 _; have HB4 := Lib.hid (show Below w1.heap.size w1 w4 from Below.grown HB3.out hgrow4 (by omega) (fun g hg => (HO3.out.lt g hg).1)); have HO4 := Lib.hid hown4; clear hgrow4 hown4)
        go_ret
        refine ⟨_, rfl, ?_, HB1.out.trans (HB4.out.mono hz1)⟩
        have hlen : (d.take k ++ (s, f) :: d.drop k).length = k + 1 + (m - k) := by rw [List.length_append, List.length_cons, HT1.out, HT2.out]; omega
        rw [HSP.out, hlen]
        refine ownsRow_mono ?_ hz1
        simpa [entRow, List.flatMap_append, List.flatMap_cons] using HO4.out
    · have hkn : decide ((k : Int) < (m : Int)) = false := by simp; omega
      have HSP := Lib.hid (HPS.out k hk HNO.out (.inl (by omega)))
      have HRUN1 := Lib.hid (run_prefixK 60 72 2 Try.underlying60 ent_size a1 m c1 k (row_addr7 HO1.out) (by have := row_cap7 HO1.out; omega))
      have hrun1 := HRUN1.out
      obtain ⟨a2, hrun2⟩ : ∃ a2, ∀ W, (Instr.slice 60 (.slice a1 m c1) (some (.int .i64 k)) none none).run Try.prog W = .ok (.slice a2 (m - k) (c1 - k)) W ∧ a2 = (if c1 = k then a1 else a1.map (·.add (k * 2))) := ⟨_, fun W => by
        obtain ⟨a', h1, h2⟩ := run_suffixK 60 72 2 Try.underlying60 ent_size a1 m c1 k hk (row_cap7 HO1.out) W
        rw [h2] at h1
        exact ⟨h1, rfl⟩⟩
      have ha2 := (hrun2 w1).2
      have hrun3 := fun W => (hrun2 W).1
      have HR1 := Lib.hid (pre_reads (i := k) HO1.out HM.out hk)
      have HR2 := Lib.hid (suf_reads (i := k) HO1.out HM.out hk ha2 rfl)
      have ht1 : (d.take k).length = k := by rw [List.length_take, HM.out]; omega
      have ht2 : (d.drop k).length = m - k := by rw [List.length_drop, HM.out]
      have HT1 := Lib.hid ht1
      have HT2 := Lib.hid ht2
      clear hrun2 ha2 ht1 ht2
      go_upto_region 6 with (at_builtin; refine wpList_append_reads _ rfl _ _ 60 rfl w1.heap.size 72 i0 (.agg #[.string ⟨#[]⟩, .int .i64 0]) 2 24 Try.underlying60 HI.out HZ0.out HZ1.out HZ2.out rfl (by decide) (.slice (some ⟨w1.heap.size, 0, none⟩) 0 0) 0 [] rfl (World.ownsRow_lit w1 #[] 0 (Nat.le_refl _) (by unfold maxLen; omega) rfl) (.slice a1 k c1) k _ rfl (HR1.out.below (by repeat (first | (with_reducible exact Below.refl _ _) | (with_reducible refine Below.setCell ?_ ?_ _) | (with_reducible refine Below.alloc ?_ ?_ _) | (with_reducible refine Below.drewN ?_ _) | (with_reducible refine Below.drew ?_) | (with_reducible exact Nat.le_refl _) | (focus (simp only [World.size_alloc, World.size_setCell, World.size_drew, World.size_drewN]; omega)) | omega | exact Nat.le_refl _ | (focus (simp; done)) | (focus (simp; omega))))) (ents_one _) (by unfold maxLen; omega) (by omega) (by simp) ?_; intro v2 w2 hown2 hgrow2 _; simp only [Nat.zero_add, List.nil_append] at hown2; have HB2 := Lib.hid (show Below w1.heap.size w1 w2 from Below.grown (Below.alloc (Below.refl _ _) (Nat.le_refl _) _) hgrow2 (by simp) (fun g hg => by simp [Value.ownBlock] at hg; omega)); have HO2 := Lib.hid hown2; clear hgrow2 hown2)
      have hz2 := HB2.out.size
      go_upto_region 7 with (at_builtin; refine wpList_append_reads _ rfl _ _ 60 rfl w1.heap.size 72 i0 (.agg #[.string ⟨#[]⟩, .int .i64 0]) 2 24 Try.underlying60 HI.out HZ0.out HZ1.out HZ2.out rfl (by decide) v2 k _ rfl (HO2.out.alloc _) (.slice (some ⟨w2.heap.size, 0, none⟩) 1 1) 1 [.string ⟨s.toArray⟩, .int .i64 f] rfl ⟨rfl, .inr ⟨_, _, rfl, by unfold maxLen; omega, World.news_of_block (cs := #[.string ⟨s.toArray⟩, .int .i64 f]) (t := 72) (fr := (0, 0)) (heap_new w2 _)⟩⟩ (by simp [Value.oneCell']) (by unfold maxLen; omega) (by omega) (by simp; omega) ?_; intro v3 w3 hown3 hgrow3 _; have HB3 := Lib.hid (show Below w1.heap.size w1 w3 from Below.grown (HB2.out.alloc (by omega) _) hgrow3 (by simp; omega) (fun g hg => (HO2.out.lt g hg).1)); have HO3 := Lib.hid hown3; clear hgrow3 hown3)
      have hz3 := HB3.out.size
      go_wp2_with (at_builtin; refine wpList_append_reads _ rfl _ _ 60 rfl w1.heap.size 72 i0 (.agg #[.string ⟨#[]⟩, .int .i64 0]) 2 24 Try.underlying60 HI.out HZ0.out HZ1.out HZ2.out rfl (by decide) v3 (k + 1) _ rfl HO3.out (.slice a2 (m - k) (c1 - k)) (m - k) _ rfl (HR2.out.below HB3.out) (ents_one _) (by unfold maxLen; omega) (by omega) (by omega) ?_; intro v4 w4 hown4 hgrow4 _; have HB4 := Lib.hid (show Below w1.heap.size w1 w4 from Below.grown HB3.out hgrow4 (by omega) (fun g hg => (HO3.out.lt g hg).1)); have HO4 := Lib.hid hown4; clear hgrow4 hown4)
      go_ret
      refine ⟨_, rfl, ?_, HB1.out.trans (HB4.out.mono hz1)⟩
      have hlen : (d.take k ++ (s, f) :: d.drop k).length = k + 1 + (m - k) := by rw [List.length_append, List.length_cons, HT1.out, HT2.out]; omega
      rw [HSP.out, hlen]
      refine ownsRow_mono ?_ hz1
      simpa [entRow, List.flatMap_append, List.flatMap_cons] using HO4.out
end Go.Proofs.Ytcicnjlkcbimgaa

/- corncribref07: Turn. -/
namespace Go.Proofs.Ytcicnjlkcbimgaa
open Go.RowKit
def deedRow (x : Deed) : List Value := [.int .i64 x.kind, .string ⟨x.frm.toArray⟩, .string ⟨x.to.toArray⟩, .int .i64 x.file]
theorem deedRow_len (x : Deed) : (deedRow x).length = 4 := rfl
set_option maxRecDepth 100000 in
set_option maxHeartbeats 4000000 in
theorem turn07_any (a : Option Addr) (n c : Nat) (l : Dir) (x : Deed) (hx : x.kind ≤ 2) (w : World) (hl : l.length = n) (hr : Reads w 2 (.slice a n c) n (l.flatMap entRow)) (hn : n ≤ 4096) :
    Calls Try.prog 58 #[.slice a n c, .agg #[.int .i64 x.kind, .string ⟨x.frm.toArray⟩, .string ⟨x.to.toArray⟩, .int .i64 x.file]] w fun e w' => ∃ v, e = .returned v ∧ w'.ownsRow w.heap.size 72 2 v (x.app l).length ((x.app l).flatMap entRow) ∧ Below w.heap.size w w' := by
  obtain ⟨kd, fr, to, fl⟩ := x
  simp only at hx ⊢
  have HL := Lib.hid hl
  have HR := Lib.hid hr
  clear hl hr
  by_cases h0 : kd = 0
  · subst h0
    have HAP := Lib.hid (show (⟨0, fr, to, fl⟩ : Deed).app l = dirPut l to fl from if_pos rfl)
    go_enter Try.func58, Try.ntmps58
    go_wp2_with fail
    refine (with07_any a n c l to fl _ HL.out (HR.out.below (by repeat (first | (with_reducible exact Below.refl _ _) | (with_reducible refine Below.setCell ?_ ?_ _) | (with_reducible refine Below.alloc ?_ ?_ _) | (with_reducible refine Below.drewN ?_ _) | (with_reducible refine Below.drew ?_) | (with_reducible exact Nat.le_refl _) | (focus (simp only [World.size_alloc, World.size_setCell, World.size_drew, World.size_drewN]; omega)) | omega | exact Nat.le_refl _ | (focus (simp; done)) | (focus (simp; omega))))) hn).mono ?_
    rintro e w2 ⟨v, rfl, ho, hb⟩
    obtain ⟨a2, c2, rfl⟩ := ownsRow_len ho
    have HO := Lib.hid ho
    have HB := Lib.hid hb
    clear ho hb
    go_wp2_with fail
    go_ret
    exact ⟨_, rfl, by rw [HAP.out]; exact ownsRow_mono HO.out (by simp), Below.trans (by repeat (first | (with_reducible exact Below.refl _ _) | (with_reducible refine Below.setCell ?_ ?_ _) | (with_reducible refine Below.alloc ?_ ?_ _) | (with_reducible refine Below.drewN ?_ _) | (with_reducible refine Below.drew ?_) | (with_reducible exact Nat.le_refl _) | (focus (simp only [World.size_alloc, World.size_setCell, World.size_drew, World.size_drewN]; omega)) | omega | exact Nat.le_refl _ | (focus (simp; done)) | (focus (simp; omega)))) (HB.out.mono (by simp))⟩
  by_cases h1 : kd = 1
  · subst h1
    have HAP := Lib.hid (show (⟨1, fr, to, fl⟩ : Deed).app l = dirPut (dirDel l fr) to fl from (if_neg (show ¬ (1 : Nat) = 0 by omega)).trans (if_pos rfl))
    go_enter Try.func58, Try.ntmps58
    go_wp2_with fail
    obtain ⟨SS, HSD⟩ : ∃ SS : World → Prop, Hid (SS = fun w' => w'.cell? ⟨w.heap.size, 1, none⟩ = some (.string ⟨fr.toArray⟩) ∧ w'.cell? ⟨w.heap.size, 2, none⟩ = some (.string ⟨to.toArray⟩) ∧ w'.cell? ⟨w.heap.size, 3, none⟩ = some (.int .i64 fl)) := ⟨_, Lib.hid rfl⟩
    refine wp_region_mask0 SS [2, 5, 7] [0, 0, 2, 7, 0, 16, 0, 64, 255, 511] (.op 0 0 (.op 1 0 (.op 2 2 (.op 4 0 (.op 5 2 (.op 6 0 (.op 7 2 (.op 3 1 (.op 8 1 (.op 9 0 .nil)))))))))) (by kernel_rfl) (by kernel_rfl) rfl (by kernel_rfl) (by kernel_rfl) ?_ ?_
    focus (rw [HSD.out]; refine ⟨?_, ?_, ?_⟩ <;> go_simp)
    refine stepM0 rfl rfl (fun K hK => ?_)
    go_simp
    refine hK _ ?_
    clear hK K
    refine stepM0 rfl rfl (fun K hK => ?_)
    go_simp
    refine hK _ ?_
    clear hK K
    refine stepM2 rfl rfl ?_ (fun w1 hS => ?_) (fun K hK => ?_)
    rotate_left
    focus (rw [HSD.out] at hS; obtain ⟨s0, s1, s2⟩ := hS; go_simp; rfl)
    go_simp
    refine hK _ ?_
    clear hK K
    refine stepM0 rfl rfl (fun K hK => ?_)
    go_simp
    refine hK _ ?_
    clear hK K
    refine stepM2 rfl rfl ?_ (fun w1 hS => ?_) (fun K hK => ?_)
    rotate_left
    focus (rw [HSD.out] at hS; obtain ⟨s0, s1, s2⟩ := hS; go_simp; rfl)
    go_simp
    refine hK _ ?_
    clear hK K
    refine stepM0 rfl rfl (fun K hK => ?_)
    go_simp
    refine hK _ ?_
    clear hK K
    refine stepM2 rfl rfl ?_ (fun w1 hS => ?_) (fun K hK => ?_)
    rotate_left
    focus (rw [HSD.out] at hS; obtain ⟨s0, s1, s2⟩ := hS; go_simp; rfl)
    go_simp
    refine hK _ ?_
    clear hK K
    refine stepM1S rfl rfl (fun K hK => ?_)
    (go_wp2_with fail; refine Calls.mono (without07_any a n c l fr _ HL.out (HR.out.below (by repeat (first | (with_reducible exact Below.refl _ _) | (with_reducible refine Below.setCell ?_ ?_ _) | (with_reducible refine Below.alloc ?_ ?_ _) | (with_reducible refine Below.drewN ?_ _) | (with_reducible refine Below.drew ?_) | (with_reducible exact Nat.le_refl _) | (focus (simp only [World.size_alloc, World.size_setCell, World.size_drew, World.size_drewN]; omega)) | omega | exact Nat.le_refl _ | (focus (simp; done)) | (focus (simp; omega))))) hn) ?_; rintro e w2 ⟨v, rfl, ho, hb⟩; obtain ⟨a2, c2, rfl⟩ := ownsRow_len ho; have kb := (fun (o : Nat) => hb.cell (p := ⟨w.heap.size, o, none⟩) (by simp)); have HO := Lib.hid ho; have HB := Lib.hid (show Below w.heap.size w w2 from Below.trans (by repeat (first | (with_reducible exact Below.refl _ _) | (with_reducible refine Below.setCell ?_ ?_ _) | (with_reducible refine Below.alloc ?_ ?_ _) | (with_reducible refine Below.drewN ?_ _) | (with_reducible refine Below.drew ?_) | (with_reducible exact Nat.le_refl _) | (focus (simp only [World.size_alloc, World.size_setCell, World.size_drew, World.size_drewN]; omega)) | omega | exact Nat.le_refl _ | (focus (simp; done)) | (focus (simp; omega)))) (hb.mono (by simp))); have hz2 := hb.size; simp only [World.size_alloc, World.size_drew] at hz2; clear ho hb; go_wp2)
    refine ⟨by rw [HSD.out]; exact (by refine ⟨(kb 1).trans ?_, (kb 2).trans ?_, (kb 3).trans ?_⟩ <;> go_simp), ?_⟩
    refine stepM1 rfl rfl (by kernel_rfl) (fun K hK => ?_)
    (go_wp2_with fail; refine Calls.mono (with07_any a2 (dirDel l fr).length c2 (dirDel l fr) to fl _ rfl (reads_of_owns HO.out) (by have := len_del l fr; have := HL.out; omega)) ?_; rintro e w3 ⟨v3, rfl, ho3, hb3⟩; obtain ⟨a3, c3, rfl⟩ := ownsRow_len ho3; have HO3 := Lib.hid ho3; have HB3 := Lib.hid (HB.out.trans (hb3.mono (by omega))); clear ho3 hb3; go_wp2)
    refine stepM0 rfl rfl (fun K hK => ?_)
    go_simp
    refine hK _ ?_
    clear hK K
    try refine stepMnil0 ?_
    clear HSD SS
    go_wp2_with fail
    go_ret
    exact ⟨_, rfl, by rw [HAP.out]; exact ownsRow_mono HO3.out (by omega), HB3.out⟩
  · have h2 : kd = 2 := by omega
    subst h2
    have HAP := Lib.hid (show (⟨2, fr, to, fl⟩ : Deed).app l = dirDel l fr from (if_neg (show ¬ (2 : Nat) = 0 by omega)).trans (if_neg (show ¬ (2 : Nat) = 1 by omega)))
    clear h0 h1
    go_enter Try.func58, Try.ntmps58
    go_wp2_with fail
    refine (without07_any a n c l fr _ HL.out (HR.out.below (by repeat (first | (with_reducible exact Below.refl _ _) | (with_reducible refine Below.setCell ?_ ?_ _) | (with_reducible refine Below.alloc ?_ ?_ _) | (with_reducible refine Below.drewN ?_ _) | (with_reducible refine Below.drew ?_) | (with_reducible exact Nat.le_refl _) | (focus (simp only [World.size_alloc, World.size_setCell, World.size_drew, World.size_drewN]; omega)) | omega | exact Nat.le_refl _ | (focus (simp; done)) | (focus (simp; omega))))) hn).mono ?_
    rintro e w2 ⟨v, rfl, ho, hb⟩
    obtain ⟨a2, c2, rfl⟩ := ownsRow_len ho
    have HO := Lib.hid ho
    have HB := Lib.hid hb
    clear ho hb
    go_wp2_with fail
    go_ret
    exact ⟨_, rfl, by rw [HAP.out]; exact ownsRow_mono HO.out (by simp), Below.trans (by repeat (first | (with_reducible exact Below.refl _ _) | (with_reducible refine Below.setCell ?_ ?_ _) | (with_reducible refine Below.alloc ?_ ?_ _) | (with_reducible refine Below.drewN ?_ _) | (with_reducible refine Below.drew ?_) | (with_reducible exact Nat.le_refl _) | (focus (simp only [World.size_alloc, World.size_setCell, World.size_drew, World.size_drewN]; omega)) | omega | exact Nat.le_refl _ | (focus (simp; done)) | (focus (simp; omega)))) (HB.out.mono (by simp))⟩
end Go.Proofs.Ytcicnjlkcbimgaa

/- corncribref07: Named. -/
namespace Go.Proofs.Ytcicnjlkcbimgaa
open Go.RowKit Go.Maps
theorem named_false {s : Nm} (h : s.all okc = false) : namedB s = false := by
  unfold namedB
  rw [h]
  simp
set_option maxRecDepth 100000 in
set_option maxHeartbeats 1000000 in
theorem named07_any (s : Nm) (w : World) (hs : s.length ≤ maxLen) :
    Calls Try.prog 59 #[.string ⟨s.toArray⟩] w fun e w' => e = .returned (.bool (namedB s)) ∧ w = w' := by
  unfold maxLen at hs
  go_enter Try.func59, Try.ntmps59
  go_wp2_with fail
  go_loopw [3] (fun i wr => ∃ k : Nat, k ≤ s.length ∧ i = .int .i64 k ∧ (s.take k).all okc = true ∧ w = wr) (fun i _ => s.length - (intOf i).toNat)
  case atStart => exact ⟨0, Nat.zero_le _, rfl, rfl, rfl⟩
  case round =>
    obtain ⟨k, hk, rfl, ha, rfl⟩ := hrel
    have HA := Lib.hid ha
    clear ha
    by_cases hlt : k < s.length
    · have hlt' : (k : Int) < (s.length : Int) := by omega
      have hk0 : (0 : Int) ≤ (k : Int) := by omega
      obtain ⟨x, hx⟩ : ∃ x : Nat, s[k].toNat = x := ⟨_, rfl⟩
      have hx2 : x < 256 := by rw [← hx]; exact s[k].toNat_lt
      have HO := Lib.hid (okc_of _ x hx)
      have hb : ∀ h : k < (ByteArray.mk s.toArray).size, (ByteArray.mk s.toArray)[k]'h = s[k] := fun _ => rfl
      by_cases hok : okc s[k] = true
      · have HT := Lib.hid (show (s.take (k + 1)).all okc = true by rw [take_all_snoc s k hlt, HA.out, hok]; rfl)
        rw [HO.out] at hok
        simp at hok
        have hd := hok
        clear hok
        rcases hd with (hd | hd) | hd
        · have hd1 := hd.1
          have hd2 := hd.2
          have he : ((x : Int) == 46) = false := by simp; omega
          clear hd
          go_wp2_with fail
          go_roundw
          case rel => exact ⟨k + 1, by omega, by go_num, HT.out, trivial⟩
          case measure => simp [intOf]; omega
        · have hd1 := hd.1
          have hd2 := hd.2
          have hd3 : decide ((97 : Int) ≤ (x : Int)) = false := by simp; omega
          have he : ((x : Int) == 46) = false := by simp; omega
          clear hd
          go_wp2_with fail
          go_roundw
          case rel => exact ⟨k + 1, by omega, by go_num, HT.out, trivial⟩
          case measure => simp [intOf]; omega
        · have hd1 : decide ((97 : Int) ≤ (x : Int)) = false := by simp; omega
          have hd2 : decide ((48 : Int) ≤ (x : Int)) = false := by simp; omega
          have he : ((x : Int) == 46) = true := by simp; omega
          clear hd
          go_wp2_with fail
          go_roundw
          case rel => exact ⟨k + 1, by omega, by go_num, HT.out, trivial⟩
          case measure => simp [intOf]; omega
      · have hof : okc s[k] = false := by simpa using hok
        have HF := Lib.hid (named_false (all_false s k hlt hof))
        rw [HO.out] at hof
        simp at hof
        obtain ⟨⟨hd1, hd2⟩, hd3⟩ := hof
        have he : ((x : Int) == 46) = false := by simp; omega
        clear hok hd3
        by_cases h97 : 97 ≤ x
        · have hd4 : decide ((x : Int) ≤ 122) = false := by simp; omega
          have hd5 : decide ((x : Int) ≤ 57) = false := by simp; omega
          clear hd1 hd2
          go_wp2_with fail
          go_ret
          exact ⟨by rw [HF.out]; rfl, rfl⟩
        · have hd4 : decide ((97 : Int) ≤ (x : Int)) = false := by simp; omega
          by_cases h48 : 48 ≤ x
          · have hd5 : decide ((x : Int) ≤ 57) = false := by simp; omega
            clear hd1 hd2
            go_wp2_with fail
            go_ret
            exact ⟨by rw [HF.out]; rfl, rfl⟩
          · have hd5 : decide ((48 : Int) ≤ (x : Int)) = false := by simp; omega
            clear hd1 hd2
            go_wp2_with fail
            go_ret
            exact ⟨by rw [HF.out]; rfl, rfl⟩
    · have hkn : decide ((k : Int) < (s.length : Int)) = false := by simp; omega
      have HN := Lib.hid (show namedB s = (decide (1 ≤ s.length) && decide (s.length ≤ 32)) by
        have : s.all okc = true := by rw [← HA.out, List.take_of_length_le (by omega)]
        unfold namedB
        rw [this]
        cases s <;> simp)
      by_cases h1 : 1 ≤ s.length
      · by_cases h2 : s.length ≤ 32
        · go_wp2_with fail
          go_ret
          exact ⟨by rw [HN.out]; simp [h1, h2]; omega, rfl⟩
        · go_wp2_with fail
          go_ret
          exact ⟨by rw [HN.out]; simp [h1, h2]; omega, rfl⟩
      · go_wp2_with fail
        go_ret
        exact ⟨by rw [HN.out]; simp [h1], rfl⟩
end Go.Proofs.Ytcicnjlkcbimgaa

/- No disk: each method, corncriblaw07.Do (written by gendisknil.py). -/
namespace Go.Proofs.Ytcicnjlkcbimgaa
open Go.RowKit
theorem up_nil (w : World) : Calls Try.prog 30 #[.pointer none] w fun e w' => e = .returned (errV 15) ∧ w = w' := by
  go_enter Try.func30, Try.ntmps30
  go_wp2_with fail
  go_ret
  exact ⟨rfl, rfl⟩
theorem find_nil (s : Nm) (w : World) : Calls Try.prog 34 #[.pointer none, .string ⟨s.toArray⟩] w fun e w' => e = .returned (.tuple #[.pointer none, errV 15]) ∧ w = w' := by
  have HN := Lib.hid (errV_ne (k := 15) (by omega))
  go_enter Try.func34, Try.ntmps34
  go_wp2_with fail
  refine (up_nil _).mono ?_
  rintro e w1 ⟨rfl, rfl⟩
  rw [HN.out]
  go_wp2_with fail
  go_ret2
  exact ⟨by rw [HN.out]; rfl, rfl⟩
set_option maxRecDepth 100000 in
theorem create_nil (s : Nm) (w : World) : Calls Try.prog 10 #[.pointer none, .string ⟨s.toArray⟩] w fun e w' => e = .returned (errV 15) ∧ Below w.heap.size w w' := by
  have HN := Lib.hid (errV_ne (k := 15) (by omega))
  go_enter Try.func10, Try.ntmps10
  go_wp2_with fail
  refine (up_nil _).mono ?_
  rintro e w1 ⟨rfl, rfl⟩
  rw [HN.out]
  go_wp2_with fail
  go_ret
  exact ⟨by rw [HN.out]; rfl, (by repeat (first | (with_reducible exact Below.refl _ _) | (with_reducible refine Below.setCell ?_ ?_ _) | (with_reducible refine Below.alloc ?_ ?_ _) | (with_reducible refine Below.drewN ?_ _) | (with_reducible refine Below.drew ?_) | (with_reducible exact Nat.le_refl _) | (focus (simp only [World.size_alloc, World.size_setCell, World.size_drew, World.size_drewN]; omega)) | omega | exact Nat.le_refl _ | (focus (simp; done)) | (focus (simp; omega))))⟩
set_option maxRecDepth 100000 in
theorem append_nil (s : Nm) (a : Option Addr) (n c : Nat) (w : World) : Calls Try.prog 11 #[.pointer none, .string ⟨s.toArray⟩, .slice a n c] w fun e w' => e = .returned (errV 15) ∧ Below w.heap.size w w' := by
  have HN := Lib.hid (errV_ne (k := 15) (by omega))
  go_enter Try.func11, Try.ntmps11
  go_wp2_with fail
  refine (find_nil s _).mono ?_
  rintro e w1 ⟨rfl, rfl⟩
  rw [HN.out]
  go_wp2_with fail
  go_ret
  exact ⟨by rw [HN.out]; rfl, (by repeat (first | (with_reducible exact Below.refl _ _) | (with_reducible refine Below.setCell ?_ ?_ _) | (with_reducible refine Below.alloc ?_ ?_ _) | (with_reducible refine Below.drewN ?_ _) | (with_reducible refine Below.drew ?_) | (with_reducible exact Nat.le_refl _) | (focus (simp only [World.size_alloc, World.size_setCell, World.size_drew, World.size_drewN]; omega)) | omega | exact Nat.le_refl _ | (focus (simp; done)) | (focus (simp; omega))))⟩
set_option maxRecDepth 100000 in
theorem sync_nil (s : Nm) (w : World) : Calls Try.prog 12 #[.pointer none, .string ⟨s.toArray⟩] w fun e w' => e = .returned (errV 15) ∧ Below w.heap.size w w' := by
  have HN := Lib.hid (errV_ne (k := 15) (by omega))
  go_enter Try.func12, Try.ntmps12
  go_wp2_with fail
  refine (find_nil s _).mono ?_
  rintro e w1 ⟨rfl, rfl⟩
  rw [HN.out]
  go_wp2_with fail
  go_ret
  exact ⟨by rw [HN.out]; rfl, (by repeat (first | (with_reducible exact Below.refl _ _) | (with_reducible refine Below.setCell ?_ ?_ _) | (with_reducible refine Below.alloc ?_ ?_ _) | (with_reducible refine Below.drewN ?_ _) | (with_reducible refine Below.drew ?_) | (with_reducible exact Nat.le_refl _) | (focus (simp only [World.size_alloc, World.size_setCell, World.size_drew, World.size_drewN]; omega)) | omega | exact Nat.le_refl _ | (focus (simp; done)) | (focus (simp; omega))))⟩
set_option maxRecDepth 100000 in
theorem syncNames_nil (w : World) : Calls Try.prog 13 #[.pointer none] w fun e w' => e = .returned (errV 15) ∧ Below w.heap.size w w' := by
  have HN := Lib.hid (errV_ne (k := 15) (by omega))
  go_enter Try.func13, Try.ntmps13
  go_wp2_with fail
  refine (up_nil _).mono ?_
  rintro e w1 ⟨rfl, rfl⟩
  rw [HN.out]
  go_wp2_with fail
  go_ret
  exact ⟨by rw [HN.out]; rfl, (by repeat (first | (with_reducible exact Below.refl _ _) | (with_reducible refine Below.setCell ?_ ?_ _) | (with_reducible refine Below.alloc ?_ ?_ _) | (with_reducible refine Below.drewN ?_ _) | (with_reducible refine Below.drew ?_) | (with_reducible exact Nat.le_refl _) | (focus (simp only [World.size_alloc, World.size_setCell, World.size_drew, World.size_drewN]; omega)) | omega | exact Nat.le_refl _ | (focus (simp; done)) | (focus (simp; omega))))⟩
set_option maxRecDepth 100000 in
theorem rename_nil (s t : Nm) (w : World) : Calls Try.prog 16 #[.pointer none, .string ⟨s.toArray⟩, .string ⟨t.toArray⟩] w fun e w' => e = .returned (errV 15) ∧ Below w.heap.size w w' := by
  have HN := Lib.hid (errV_ne (k := 15) (by omega))
  go_enter Try.func16, Try.ntmps16
  go_wp2_with fail
  refine (find_nil s _).mono ?_
  rintro e w1 ⟨rfl, rfl⟩
  rw [HN.out]
  go_wp2_with fail
  go_ret
  exact ⟨by rw [HN.out]; rfl, (by repeat (first | (with_reducible exact Below.refl _ _) | (with_reducible refine Below.setCell ?_ ?_ _) | (with_reducible refine Below.alloc ?_ ?_ _) | (with_reducible refine Below.drewN ?_ _) | (with_reducible refine Below.drew ?_) | (with_reducible exact Nat.le_refl _) | (focus (simp only [World.size_alloc, World.size_setCell, World.size_drew, World.size_drewN]; omega)) | omega | exact Nat.le_refl _ | (focus (simp; done)) | (focus (simp; omega))))⟩
set_option maxRecDepth 100000 in
theorem remove_nil (s : Nm) (w : World) : Calls Try.prog 43 #[.pointer none, .string ⟨s.toArray⟩] w fun e w' => e = .returned (errV 15) ∧ Below w.heap.size w w' := by
  have HN := Lib.hid (errV_ne (k := 15) (by omega))
  go_enter Try.func43, Try.ntmps43
  go_wp2_with fail
  refine (find_nil s _).mono ?_
  rintro e w1 ⟨rfl, rfl⟩
  rw [HN.out]
  go_wp2_with fail
  go_ret
  exact ⟨by rw [HN.out]; rfl, (by repeat (first | (with_reducible exact Below.refl _ _) | (with_reducible refine Below.setCell ?_ ?_ _) | (with_reducible refine Below.alloc ?_ ?_ _) | (with_reducible refine Below.drewN ?_ _) | (with_reducible refine Below.drew ?_) | (with_reducible exact Nat.le_refl _) | (focus (simp only [World.size_alloc, World.size_setCell, World.size_drew, World.size_drewN]; omega)) | omega | exact Nat.le_refl _ | (focus (simp; done)) | (focus (simp; omega))))⟩
set_option maxRecDepth 100000 in
theorem cut_nil (s : Nm) (n : Int) (w : World) : Calls Try.prog 44 #[.pointer none, .string ⟨s.toArray⟩, .int .i64 n] w fun e w' => e = .returned (errV 15) ∧ Below w.heap.size w w' := by
  have HN := Lib.hid (errV_ne (k := 15) (by omega))
  go_enter Try.func44, Try.ntmps44
  go_wp2_with fail
  refine (find_nil s _).mono ?_
  rintro e w1 ⟨rfl, rfl⟩
  rw [HN.out]
  go_wp2_with fail
  go_ret
  exact ⟨by rw [HN.out]; rfl, (by repeat (first | (with_reducible exact Below.refl _ _) | (with_reducible refine Below.setCell ?_ ?_ _) | (with_reducible refine Below.alloc ?_ ?_ _) | (with_reducible refine Below.drewN ?_ _) | (with_reducible refine Below.drew ?_) | (with_reducible exact Nat.le_refl _) | (focus (simp only [World.size_alloc, World.size_setCell, World.size_drew, World.size_drewN]; omega)) | omega | exact Nat.le_refl _ | (focus (simp; done)) | (focus (simp; omega))))⟩
set_option maxRecDepth 100000 in
theorem arm_nil (n : Int) (w : World) : Calls Try.prog 15 #[.pointer none, .int .i64 n] w fun e w' => e = .returned (errV 15) ∧ Below w.heap.size w w' := by
  have HN := Lib.hid (errV_ne (k := 15) (by omega))
  go_enter Try.func15, Try.ntmps15
  go_wp2_with fail
  refine (up_nil _).mono ?_
  rintro e w1 ⟨rfl, rfl⟩
  rw [HN.out]
  go_wp2_with fail
  go_ret
  exact ⟨by rw [HN.out]; rfl, (by repeat (first | (with_reducible exact Below.refl _ _) | (with_reducible refine Below.setCell ?_ ?_ _) | (with_reducible refine Below.alloc ?_ ?_ _) | (with_reducible refine Below.drewN ?_ _) | (with_reducible refine Below.drew ?_) | (with_reducible exact Nat.le_refl _) | (focus (simp only [World.size_alloc, World.size_setCell, World.size_drew, World.size_drewN]; omega)) | omega | exact Nat.le_refl _ | (focus (simp; done)) | (focus (simp; omega))))⟩
set_option maxRecDepth 100000 in
theorem spoil_nil (s : Nm) (n x : Int) (w : World) : Calls Try.prog 45 #[.pointer none, .string ⟨s.toArray⟩, .int .i64 n, .int .u8 x] w fun e w' => e = .returned (errV 15) ∧ Below w.heap.size w w' := by
  have HN := Lib.hid (errV_ne (k := 15) (by omega))
  go_enter Try.func45, Try.ntmps45
  go_wp2_with fail
  refine (find_nil s _).mono ?_
  rintro e w1 ⟨rfl, rfl⟩
  rw [HN.out]
  go_wp2_with fail
  go_ret
  exact ⟨by rw [HN.out]; rfl, (by repeat (first | (with_reducible exact Below.refl _ _) | (with_reducible refine Below.setCell ?_ ?_ _) | (with_reducible refine Below.alloc ?_ ?_ _) | (with_reducible refine Below.drewN ?_ _) | (with_reducible refine Below.drew ?_) | (with_reducible exact Nat.le_refl _) | (focus (simp only [World.size_alloc, World.size_setCell, World.size_drew, World.size_drewN]; omega)) | omega | exact Nat.le_refl _ | (focus (simp; done)) | (focus (simp; omega))))⟩
set_option maxRecDepth 100000 in
theorem read_nil (s : Nm) (n m : Int) (w : World) : Calls Try.prog 21 #[.pointer none, .string ⟨s.toArray⟩, .int .i64 n, .int .i64 m] w fun e w' => e = .returned (.tuple #[.slice none 0 0, errV 15]) ∧ Below w.heap.size w w' := by
  have HN := Lib.hid (errV_ne (k := 15) (by omega))
  go_enter Try.func21, Try.ntmps21
  go_wp2_with fail
  refine (find_nil s _).mono ?_
  rintro e w1 ⟨rfl, rfl⟩
  rw [HN.out]
  go_wp2_with fail
  go_ret2
  exact ⟨by rw [HN.out]; rfl, (by repeat (first | (with_reducible exact Below.refl _ _) | (with_reducible refine Below.setCell ?_ ?_ _) | (with_reducible refine Below.alloc ?_ ?_ _) | (with_reducible refine Below.drewN ?_ _) | (with_reducible refine Below.drew ?_) | (with_reducible exact Nat.le_refl _) | (focus (simp only [World.size_alloc, World.size_setCell, World.size_drew, World.size_drewN]; omega)) | omega | exact Nat.le_refl _ | (focus (simp; done)) | (focus (simp; omega))))⟩
set_option maxRecDepth 100000 in
theorem size_nil (s : Nm) (w : World) : Calls Try.prog 20 #[.pointer none, .string ⟨s.toArray⟩] w fun e w' => e = .returned (.tuple #[.int .i64 0, errV 15]) ∧ Below w.heap.size w w' := by
  have HN := Lib.hid (errV_ne (k := 15) (by omega))
  go_enter Try.func20, Try.ntmps20
  go_wp2_with fail
  refine (find_nil s _).mono ?_
  rintro e w1 ⟨rfl, rfl⟩
  rw [HN.out]
  go_wp2_with fail
  go_ret2
  exact ⟨by rw [HN.out]; rfl, (by repeat (first | (with_reducible exact Below.refl _ _) | (with_reducible refine Below.setCell ?_ ?_ _) | (with_reducible refine Below.alloc ?_ ?_ _) | (with_reducible refine Below.drewN ?_ _) | (with_reducible refine Below.drew ?_) | (with_reducible exact Nat.le_refl _) | (focus (simp only [World.size_alloc, World.size_setCell, World.size_drew, World.size_drewN]; omega)) | omega | exact Nat.le_refl _ | (focus (simp; done)) | (focus (simp; omega))))⟩
theorem crash_nil (n : Int) (a : Option Addr) (m c : Nat) (w : World) : Calls Try.prog 18 #[.pointer none, .agg #[.int .i64 n, .slice a m c]] w fun e w' => e = .returned (errV 15) ∧ Below w.heap.size w w' := by
  go_enter Try.func18, Try.ntmps18
  go_wp2_with fail
  go_ret
  exact ⟨rfl, (by repeat (first | (with_reducible exact Below.refl _ _) | (with_reducible refine Below.setCell ?_ ?_ _) | (with_reducible refine Below.alloc ?_ ?_ _) | (with_reducible refine Below.drewN ?_ _) | (with_reducible refine Below.drew ?_) | (with_reducible exact Nat.le_refl _) | (focus (simp only [World.size_alloc, World.size_setCell, World.size_drew, World.size_drewN]; omega)) | omega | exact Nat.le_refl _ | (focus (simp; done)) | (focus (simp; omega))))⟩
set_option maxRecDepth 100000 in
set_option maxHeartbeats 1000000 in
theorem do07n_0 (w : World) : Calls Try.prog 26 #[.pointer none, .agg #[.int .i64 0, .string ⟨#[97]⟩, .string ⟨#[98]⟩, .slice none 0 0, .int .i64 0, .int .i64 0, .int .i64 0, .slice none 0 0]] w
    fun e w' => e = .returned (.tuple #[.slice none 0 0, .int .i64 0, .int .i64 15]) ∧ Below w.heap.size w w' := by
  go_enter Try.func26, Try.ntmps26
  go_wp2_with fail
  refine (create_nil [97] _).mono ?_
  rintro e w2 ⟨rfl, hb1⟩
  have HB := Lib.hid (show Below w.heap.size w w2 from Below.trans (by repeat (first | (with_reducible exact Below.refl _ _) | (with_reducible refine Below.setCell ?_ ?_ _) | (with_reducible refine Below.alloc ?_ ?_ _) | (with_reducible refine Below.drewN ?_ _) | (with_reducible refine Below.drew ?_) | (with_reducible exact Nat.le_refl _) | (focus (simp only [World.size_alloc, World.size_setCell, World.size_drew, World.size_drewN]; omega)) | omega | exact Nat.le_refl _ | (focus (simp; done)) | (focus (simp; omega)))) (hb1.mono (by simp)))
  clear hb1
  go_wp2_with fail
  refine (code_any 15 (by omega) (by omega) _).mono ?_
  rintro e w3 ⟨rfl, rfl⟩
  go_wp2_with fail
  go_ret3
  exact ⟨rfl, HB.out⟩
set_option maxRecDepth 100000 in
set_option maxHeartbeats 1000000 in
theorem do07n_1 (w : World) : Calls Try.prog 26 #[.pointer none, .agg #[.int .i64 1, .string ⟨#[97]⟩, .string ⟨#[98]⟩, .slice none 0 0, .int .i64 0, .int .i64 0, .int .i64 0, .slice none 0 0]] w
    fun e w' => e = .returned (.tuple #[.slice none 0 0, .int .i64 0, .int .i64 15]) ∧ Below w.heap.size w w' := by
  go_enter Try.func26, Try.ntmps26
  go_wp2_with fail
  refine (append_nil [97] none 0 0 _).mono ?_
  rintro e w2 ⟨rfl, hb1⟩
  have HB := Lib.hid (show Below w.heap.size w w2 from Below.trans (by repeat (first | (with_reducible exact Below.refl _ _) | (with_reducible refine Below.setCell ?_ ?_ _) | (with_reducible refine Below.alloc ?_ ?_ _) | (with_reducible refine Below.drewN ?_ _) | (with_reducible refine Below.drew ?_) | (with_reducible exact Nat.le_refl _) | (focus (simp only [World.size_alloc, World.size_setCell, World.size_drew, World.size_drewN]; omega)) | omega | exact Nat.le_refl _ | (focus (simp; done)) | (focus (simp; omega)))) (hb1.mono (by simp)))
  clear hb1
  go_wp2_with fail
  refine (code_any 15 (by omega) (by omega) _).mono ?_
  rintro e w3 ⟨rfl, rfl⟩
  go_wp2_with fail
  go_ret3
  exact ⟨rfl, HB.out⟩
set_option maxRecDepth 100000 in
set_option maxHeartbeats 1000000 in
theorem do07n_2 (w : World) : Calls Try.prog 26 #[.pointer none, .agg #[.int .i64 2, .string ⟨#[97]⟩, .string ⟨#[98]⟩, .slice none 0 0, .int .i64 0, .int .i64 0, .int .i64 0, .slice none 0 0]] w
    fun e w' => e = .returned (.tuple #[.slice none 0 0, .int .i64 0, .int .i64 15]) ∧ Below w.heap.size w w' := by
  go_enter Try.func26, Try.ntmps26
  go_wp2_with fail
  refine (sync_nil [97] _).mono ?_
  rintro e w2 ⟨rfl, hb1⟩
  have HB := Lib.hid (show Below w.heap.size w w2 from Below.trans (by repeat (first | (with_reducible exact Below.refl _ _) | (with_reducible refine Below.setCell ?_ ?_ _) | (with_reducible refine Below.alloc ?_ ?_ _) | (with_reducible refine Below.drewN ?_ _) | (with_reducible refine Below.drew ?_) | (with_reducible exact Nat.le_refl _) | (focus (simp only [World.size_alloc, World.size_setCell, World.size_drew, World.size_drewN]; omega)) | omega | exact Nat.le_refl _ | (focus (simp; done)) | (focus (simp; omega)))) (hb1.mono (by simp)))
  clear hb1
  go_wp2_with fail
  refine (code_any 15 (by omega) (by omega) _).mono ?_
  rintro e w3 ⟨rfl, rfl⟩
  go_wp2_with fail
  go_ret3
  exact ⟨rfl, HB.out⟩
set_option maxRecDepth 100000 in
set_option maxHeartbeats 1000000 in
theorem do07n_3 (w : World) : Calls Try.prog 26 #[.pointer none, .agg #[.int .i64 3, .string ⟨#[97]⟩, .string ⟨#[98]⟩, .slice none 0 0, .int .i64 0, .int .i64 0, .int .i64 0, .slice none 0 0]] w
    fun e w' => e = .returned (.tuple #[.slice none 0 0, .int .i64 0, .int .i64 15]) ∧ Below w.heap.size w w' := by
  go_enter Try.func26, Try.ntmps26
  go_wp2_with fail
  refine (syncNames_nil _).mono ?_
  rintro e w2 ⟨rfl, hb1⟩
  have HB := Lib.hid (show Below w.heap.size w w2 from Below.trans (by repeat (first | (with_reducible exact Below.refl _ _) | (with_reducible refine Below.setCell ?_ ?_ _) | (with_reducible refine Below.alloc ?_ ?_ _) | (with_reducible refine Below.drewN ?_ _) | (with_reducible refine Below.drew ?_) | (with_reducible exact Nat.le_refl _) | (focus (simp only [World.size_alloc, World.size_setCell, World.size_drew, World.size_drewN]; omega)) | omega | exact Nat.le_refl _ | (focus (simp; done)) | (focus (simp; omega)))) (hb1.mono (by simp)))
  clear hb1
  go_wp2_with fail
  refine (code_any 15 (by omega) (by omega) _).mono ?_
  rintro e w3 ⟨rfl, rfl⟩
  go_wp2_with fail
  go_ret3
  exact ⟨rfl, HB.out⟩
set_option maxRecDepth 100000 in
set_option maxHeartbeats 1000000 in
theorem do07n_4 (w : World) : Calls Try.prog 26 #[.pointer none, .agg #[.int .i64 4, .string ⟨#[97]⟩, .string ⟨#[98]⟩, .slice none 0 0, .int .i64 0, .int .i64 0, .int .i64 0, .slice none 0 0]] w
    fun e w' => e = .returned (.tuple #[.slice none 0 0, .int .i64 0, .int .i64 15]) ∧ Below w.heap.size w w' := by
  go_enter Try.func26, Try.ntmps26
  go_wp2_with fail
  refine (rename_nil [97] [98] _).mono ?_
  rintro e w2 ⟨rfl, hb1⟩
  have HB := Lib.hid (show Below w.heap.size w w2 from Below.trans (by repeat (first | (with_reducible exact Below.refl _ _) | (with_reducible refine Below.setCell ?_ ?_ _) | (with_reducible refine Below.alloc ?_ ?_ _) | (with_reducible refine Below.drewN ?_ _) | (with_reducible refine Below.drew ?_) | (with_reducible exact Nat.le_refl _) | (focus (simp only [World.size_alloc, World.size_setCell, World.size_drew, World.size_drewN]; omega)) | omega | exact Nat.le_refl _ | (focus (simp; done)) | (focus (simp; omega)))) (hb1.mono (by simp)))
  clear hb1
  go_wp2_with fail
  refine (code_any 15 (by omega) (by omega) _).mono ?_
  rintro e w3 ⟨rfl, rfl⟩
  go_wp2_with fail
  go_ret3
  exact ⟨rfl, HB.out⟩
set_option maxRecDepth 100000 in
set_option maxHeartbeats 1000000 in
theorem do07n_5 (w : World) : Calls Try.prog 26 #[.pointer none, .agg #[.int .i64 5, .string ⟨#[97]⟩, .string ⟨#[98]⟩, .slice none 0 0, .int .i64 0, .int .i64 0, .int .i64 0, .slice none 0 0]] w
    fun e w' => e = .returned (.tuple #[.slice none 0 0, .int .i64 0, .int .i64 15]) ∧ Below w.heap.size w w' := by
  go_enter Try.func26, Try.ntmps26
  go_wp2_with fail
  refine (remove_nil [97] _).mono ?_
  rintro e w2 ⟨rfl, hb1⟩
  have HB := Lib.hid (show Below w.heap.size w w2 from Below.trans (by repeat (first | (with_reducible exact Below.refl _ _) | (with_reducible refine Below.setCell ?_ ?_ _) | (with_reducible refine Below.alloc ?_ ?_ _) | (with_reducible refine Below.drewN ?_ _) | (with_reducible refine Below.drew ?_) | (with_reducible exact Nat.le_refl _) | (focus (simp only [World.size_alloc, World.size_setCell, World.size_drew, World.size_drewN]; omega)) | omega | exact Nat.le_refl _ | (focus (simp; done)) | (focus (simp; omega)))) (hb1.mono (by simp)))
  clear hb1
  go_wp2_with fail
  refine (code_any 15 (by omega) (by omega) _).mono ?_
  rintro e w3 ⟨rfl, rfl⟩
  go_wp2_with fail
  go_ret3
  exact ⟨rfl, HB.out⟩
set_option maxRecDepth 100000 in
set_option maxHeartbeats 1000000 in
theorem do07n_6 (w : World) : Calls Try.prog 26 #[.pointer none, .agg #[.int .i64 6, .string ⟨#[97]⟩, .string ⟨#[98]⟩, .slice none 0 0, .int .i64 0, .int .i64 0, .int .i64 0, .slice none 0 0]] w
    fun e w' => e = .returned (.tuple #[.slice none 0 0, .int .i64 0, .int .i64 15]) ∧ Below w.heap.size w w' := by
  go_enter Try.func26, Try.ntmps26
  go_wp2_with fail
  refine (cut_nil [97] 0 _).mono ?_
  rintro e w2 ⟨rfl, hb1⟩
  have HB := Lib.hid (show Below w.heap.size w w2 from Below.trans (by repeat (first | (with_reducible exact Below.refl _ _) | (with_reducible refine Below.setCell ?_ ?_ _) | (with_reducible refine Below.alloc ?_ ?_ _) | (with_reducible refine Below.drewN ?_ _) | (with_reducible refine Below.drew ?_) | (with_reducible exact Nat.le_refl _) | (focus (simp only [World.size_alloc, World.size_setCell, World.size_drew, World.size_drewN]; omega)) | omega | exact Nat.le_refl _ | (focus (simp; done)) | (focus (simp; omega)))) (hb1.mono (by simp)))
  clear hb1
  go_wp2_with fail
  refine (code_any 15 (by omega) (by omega) _).mono ?_
  rintro e w3 ⟨rfl, rfl⟩
  go_wp2_with fail
  go_ret3
  exact ⟨rfl, HB.out⟩
set_option maxRecDepth 100000 in
set_option maxHeartbeats 1000000 in
theorem do07n_7 (w : World) : Calls Try.prog 26 #[.pointer none, .agg #[.int .i64 7, .string ⟨#[97]⟩, .string ⟨#[98]⟩, .slice none 0 0, .int .i64 0, .int .i64 0, .int .i64 0, .slice none 0 0]] w
    fun e w' => e = .returned (.tuple #[.slice none 0 0, .int .i64 0, .int .i64 15]) ∧ Below w.heap.size w w' := by
  go_enter Try.func26, Try.ntmps26
  go_wp2_with fail
  refine (arm_nil 0 _).mono ?_
  rintro e w2 ⟨rfl, hb1⟩
  have HB := Lib.hid (show Below w.heap.size w w2 from Below.trans (by repeat (first | (with_reducible exact Below.refl _ _) | (with_reducible refine Below.setCell ?_ ?_ _) | (with_reducible refine Below.alloc ?_ ?_ _) | (with_reducible refine Below.drewN ?_ _) | (with_reducible refine Below.drew ?_) | (with_reducible exact Nat.le_refl _) | (focus (simp only [World.size_alloc, World.size_setCell, World.size_drew, World.size_drewN]; omega)) | omega | exact Nat.le_refl _ | (focus (simp; done)) | (focus (simp; omega)))) (hb1.mono (by simp)))
  clear hb1
  go_wp2_with fail
  refine (code_any 15 (by omega) (by omega) _).mono ?_
  rintro e w3 ⟨rfl, rfl⟩
  go_wp2_with fail
  go_ret3
  exact ⟨rfl, HB.out⟩
set_option maxRecDepth 100000 in
set_option maxHeartbeats 1000000 in
theorem do07n_8 (w : World) : Calls Try.prog 26 #[.pointer none, .agg #[.int .i64 8, .string ⟨#[97]⟩, .string ⟨#[98]⟩, .slice none 0 0, .int .i64 0, .int .i64 0, .int .i64 0, .slice none 0 0]] w
    fun e w' => e = .returned (.tuple #[.slice none 0 0, .int .i64 0, .int .i64 15]) ∧ Below w.heap.size w w' := by
  go_enter Try.func26, Try.ntmps26
  go_wp2_with fail
  refine (picks_any 0 [] none 0 0 _ rfl (by omega) ⟨by simp, .inl ⟨rfl, rfl⟩⟩).mono ?_
  rintro e w1 ⟨v, rfl, hov, hb0⟩
  obtain ⟨av, cv, rfl⟩ := ownsRow_len hov
  have HB0 := Lib.hid (show Below w.heap.size w w1 from Below.trans (by repeat (first | (with_reducible exact Below.refl _ _) | (with_reducible refine Below.setCell ?_ ?_ _) | (with_reducible refine Below.alloc ?_ ?_ _) | (with_reducible refine Below.drewN ?_ _) | (with_reducible refine Below.drew ?_) | (with_reducible exact Nat.le_refl _) | (focus (simp only [World.size_alloc, World.size_setCell, World.size_drew, World.size_drewN]; omega)) | omega | exact Nat.le_refl _ | (focus (simp; done)) | (focus (simp; omega)))) (hb0.mono (by simp)))
  have hz0 := HB0.out.size
  clear hov hb0
  go_wp2_with fail
  refine (crash_nil _ _ _ _ _).mono ?_
  rintro e w2 ⟨rfl, hb1⟩
  have HB := Lib.hid (HB0.out.trans (hb1.mono hz0))
  clear hb1
  go_wp2_with fail
  refine (code_any 15 (by omega) (by omega) _).mono ?_
  rintro e w3 ⟨rfl, rfl⟩
  go_wp2_with fail
  go_ret3
  exact ⟨rfl, HB.out⟩
set_option maxRecDepth 100000 in
set_option maxHeartbeats 1000000 in
theorem do07n_9 (w : World) : Calls Try.prog 26 #[.pointer none, .agg #[.int .i64 9, .string ⟨#[97]⟩, .string ⟨#[98]⟩, .slice none 0 0, .int .i64 0, .int .i64 0, .int .i64 0, .slice none 0 0]] w
    fun e w' => e = .returned (.tuple #[.slice none 0 0, .int .i64 0, .int .i64 15]) ∧ Below w.heap.size w w' := by
  go_enter Try.func26, Try.ntmps26
  go_wp2_with fail
  refine (spoil_nil [97] 0 0 _).mono ?_
  rintro e w2 ⟨rfl, hb1⟩
  have HB := Lib.hid (show Below w.heap.size w w2 from Below.trans (by repeat (first | (with_reducible exact Below.refl _ _) | (with_reducible refine Below.setCell ?_ ?_ _) | (with_reducible refine Below.alloc ?_ ?_ _) | (with_reducible refine Below.drewN ?_ _) | (with_reducible refine Below.drew ?_) | (with_reducible exact Nat.le_refl _) | (focus (simp only [World.size_alloc, World.size_setCell, World.size_drew, World.size_drewN]; omega)) | omega | exact Nat.le_refl _ | (focus (simp; done)) | (focus (simp; omega)))) (hb1.mono (by simp)))
  clear hb1
  go_wp2_with fail
  refine (code_any 15 (by omega) (by omega) _).mono ?_
  rintro e w3 ⟨rfl, rfl⟩
  go_wp2_with fail
  go_ret3
  exact ⟨rfl, HB.out⟩
set_option maxRecDepth 100000 in
set_option maxHeartbeats 1000000 in
theorem do07n_10 (w : World) : Calls Try.prog 26 #[.pointer none, .agg #[.int .i64 10, .string ⟨#[97]⟩, .string ⟨#[98]⟩, .slice none 0 0, .int .i64 0, .int .i64 0, .int .i64 0, .slice none 0 0]] w
    fun e w' => e = .returned (.tuple #[.slice none 0 0, .int .i64 0, .int .i64 15]) ∧ Below w.heap.size w w' := by
  go_enter Try.func26, Try.ntmps26
  go_wp2_with fail
  refine (read_nil [97] 0 0 _).mono ?_
  rintro e w2 ⟨rfl, hb1⟩
  have HB := Lib.hid (show Below w.heap.size w w2 from Below.trans (by repeat (first | (with_reducible exact Below.refl _ _) | (with_reducible refine Below.setCell ?_ ?_ _) | (with_reducible refine Below.alloc ?_ ?_ _) | (with_reducible refine Below.drewN ?_ _) | (with_reducible refine Below.drew ?_) | (with_reducible exact Nat.le_refl _) | (focus (simp only [World.size_alloc, World.size_setCell, World.size_drew, World.size_drewN]; omega)) | omega | exact Nat.le_refl _ | (focus (simp; done)) | (focus (simp; omega)))) (hb1.mono (by simp)))
  clear hb1
  go_wp2_with fail
  refine (code_any 15 (by omega) (by omega) _).mono ?_
  rintro e w3 ⟨rfl, rfl⟩
  go_wp2_with fail
  go_ret3
  exact ⟨rfl, HB.out⟩
set_option maxRecDepth 100000 in
set_option maxHeartbeats 1000000 in
theorem do07n_11 (w : World) : Calls Try.prog 26 #[.pointer none, .agg #[.int .i64 11, .string ⟨#[97]⟩, .string ⟨#[98]⟩, .slice none 0 0, .int .i64 0, .int .i64 0, .int .i64 0, .slice none 0 0]] w
    fun e w' => e = .returned (.tuple #[.slice none 0 0, .int .i64 0, .int .i64 15]) ∧ Below w.heap.size w w' := by
  go_enter Try.func26, Try.ntmps26
  go_wp2_with fail
  refine (size_nil [97] _).mono ?_
  rintro e w2 ⟨rfl, hb1⟩
  have HB := Lib.hid (show Below w.heap.size w w2 from Below.trans (by repeat (first | (with_reducible exact Below.refl _ _) | (with_reducible refine Below.setCell ?_ ?_ _) | (with_reducible refine Below.alloc ?_ ?_ _) | (with_reducible refine Below.drewN ?_ _) | (with_reducible refine Below.drew ?_) | (with_reducible exact Nat.le_refl _) | (focus (simp only [World.size_alloc, World.size_setCell, World.size_drew, World.size_drewN]; omega)) | omega | exact Nat.le_refl _ | (focus (simp; done)) | (focus (simp; omega)))) (hb1.mono (by simp)))
  clear hb1
  go_wp2_with fail
  refine (code_any 15 (by omega) (by omega) _).mono ?_
  rintro e w3 ⟨rfl, rfl⟩
  go_wp2_with fail
  go_ret3
  exact ⟨rfl, HB.out⟩
theorem do07n (k : Nat) (hk : k < 12) (w : World) : Calls Try.prog 26 #[.pointer none, .agg #[.int .i64 k, .string ⟨#[97]⟩, .string ⟨#[98]⟩, .slice none 0 0, .int .i64 0, .int .i64 0, .int .i64 0, .slice none 0 0]] w
    fun e w' => e = .returned (.tuple #[.slice none 0 0, .int .i64 0, .int .i64 15]) ∧ Below w.heap.size w w' := by
  match k, hk with
  | 0, _ => exact do07n_0 w
  | 1, _ => exact do07n_1 w
  | 2, _ => exact do07n_2 w
  | 3, _ => exact do07n_3 w
  | 4, _ => exact do07n_4 w
  | 5, _ => exact do07n_5 w
  | 6, _ => exact do07n_6 w
  | 7, _ => exact do07n_7 w
  | 8, _ => exact do07n_8 w
  | 9, _ => exact do07n_9 w
  | 10, _ => exact do07n_10 w
  | 11, _ => exact do07n_11 w
end Go.Proofs.Ytcicnjlkcbimgaa

/- DiskLasts: the plain law. -/
namespace Go.Proofs.Ytcicnjlkcbimgaa
section
variable (a b c : List UInt8) (n : Int)
def lk0 : Dk := ((Dk.new 5000).create [120]).2
def lk1 : Dk := (lk0.append [120] a).2
def lk2 : Dk := ((lk1 a).sync [120]).2
def lk3 : Dk := (lk2 a).syncNames.2
def lk4 : Dk := ((lk3 a).arm n).2
def lk5 : Dk := ((lk4 a n).append [120] b).2
def lk6 : Dk := ((lk5 a b n).create [121]).2
def lk7 : Dk := ((lk6 a b n).append [121] c).2
def lk8 : Dk := ((lk7 a b c n).sync [121]).2
def lk9 : Dk := ((lk8 a b c n).rename [121] [122]).2
end
variable {a b c : List UInt8} {n : Int}
theorem lk0_eq : lk0 = ⟨5000, [([120], 0)], [], [⟨0, [], [120], 0⟩], [⟨[], 0⟩], -1⟩ := rfl
theorem lk1_eq (ha : a.length ≤ 300) : lk1 a = ⟨5000, [([120], 0)], [], [⟨0, [], [120], 0⟩], [⟨a, 0⟩], -1⟩ := by
  unfold lk1
  rw [lk0_eq]
  have h1 : ¬ 16777216 < a.length := by omega
  have h2 : ¬ 5000 < a.length := by omega
  simp [Dk.append, Dk.fnd, Dk.fileAt, Dk.used, Dk.setF, Dk.did, dirGet, h1, h2]
theorem lk2_eq (ha : a.length ≤ 300) : lk2 a = ⟨5000, [([120], 0)], [], [⟨0, [], [120], 0⟩], [⟨a, a.length⟩], -1⟩ := by
  unfold lk2
  rw [lk1_eq ha]
  simp [Dk.sync, Dk.fnd, Dk.fileAt, Dk.setF, Dk.did, dirGet]
theorem lk3_eq (ha : a.length ≤ 300) : (lk2 a).syncNames = (0, ⟨5000, [([120], 0)], [([120], 0)], [], [⟨a, a.length⟩], -1⟩) := by
  rw [lk2_eq ha]
  simp [Dk.syncNames, Dk.did]
theorem lk4_eq (ha : a.length ≤ 300) (hn : 0 ≤ n) : lk4 a n = ⟨5000, [([120], 0)], [([120], 0)], [], [⟨a, a.length⟩], n⟩ := by
  have h1 : ¬ n < 0 := by omega
  unfold lk4 lk3
  rw [lk3_eq ha]
  simp [Dk.arm, h1]
/-- What the disk is like ahead of the crash. -/
def lkAt (a b c : List UInt8) (n : Int) : Dk :=
  if n = 0 then ⟨5000, [([120], 0)], [([120], 0)], [], [⟨a, a.length⟩], 0⟩
  else if n = 1 then ⟨5000, [([120], 0)], [([120], 0)], [], [⟨a ++ b, a.length⟩], 0⟩
  else if n = 2 then ⟨5000, [([120], 0), ([121], 1)], [([120], 0)], [⟨0, [], [121], 1⟩], [⟨a ++ b, a.length⟩, ⟨[], 0⟩], 0⟩
  else if n = 3 then ⟨5000, [([120], 0), ([121], 1)], [([120], 0)], [⟨0, [], [121], 1⟩], [⟨a ++ b, a.length⟩, ⟨c, 0⟩], 0⟩
  else if n = 4 then ⟨5000, [([120], 0), ([121], 1)], [([120], 0)], [⟨0, [], [121], 1⟩], [⟨a ++ b, a.length⟩, ⟨c, c.length⟩], 0⟩
  else ⟨5000, [([120], 0), ([122], 1)], [([120], 0)], [⟨0, [], [121], 1⟩, ⟨1, [121], [122], 1⟩], [⟨a ++ b, a.length⟩, ⟨c, c.length⟩], n - 5⟩
theorem dead_append (d : Dk) (s : Nm) (x : List UInt8) (h : d.armed = 0) : (d.append s x).2 = d := by simp [Dk.append, Dk.fnd, h]
theorem dead_create (d : Dk) (s : Nm) (h : d.armed = 0) : (d.create s).2 = d := by simp [Dk.create, h]
theorem dead_sync (d : Dk) (s : Nm) (h : d.armed = 0) : (d.sync s).2 = d := by simp [Dk.sync, Dk.fnd, h]
theorem dead_rename (d : Dk) (s t : Nm) (h : d.armed = 0) : (d.rename s t).2 = d := by simp [Dk.rename, Dk.fnd, h]
theorem lk5_go (ha : a.length ≤ 300) (hb : b.length ≤ 300) (hn : 0 < n) : lk5 a b n = ⟨5000, [([120], 0)], [([120], 0)], [], [⟨a ++ b, a.length⟩], n - 1⟩ := by
  unfold lk5
  rw [lk4_eq ha (by omega)]
  have h1 : ¬ 16777216 < a.length + b.length := by omega
  have h2 : ¬ 5000 < a.length + b.length := by omega
  have h3 : n ≠ 0 := by omega
  simp [Dk.append, Dk.fnd, Dk.fileAt, Dk.used, Dk.setF, Dk.did, dirGet, h1, h2, h3, hn]
theorem lk6_go (ha : a.length ≤ 300) (hb : b.length ≤ 300) (hn : 1 < n) : lk6 a b n = ⟨5000, [([120], 0), ([121], 1)], [([120], 0)], [⟨0, [], [121], 1⟩], [⟨a ++ b, a.length⟩, ⟨[], 0⟩], n - 2⟩ := by
  unfold lk6
  rw [lk5_go ha hb (by omega)]
  have h1 : ¬ n - 1 = 0 := by omega
  have h2 : 0 < n - 1 := by omega
  have h3 : namedB [121] = true := by decide
  have h4 : dirPut [([120], 0)] [121] 1 = [([120], 0), ([121], 1)] := by decide
  simp [Dk.create, Dk.turn, Dk.did, dirGet, Deed.app, h1, h2, h3, h4]
  omega
theorem lk7_go (ha : a.length ≤ 300) (hb : b.length ≤ 300) (hc : c.length ≤ 300) (hn : 2 < n) : lk7 a b c n = ⟨5000, [([120], 0), ([121], 1)], [([120], 0)], [⟨0, [], [121], 1⟩], [⟨a ++ b, a.length⟩, ⟨c, 0⟩], n - 3⟩ := by
  unfold lk7
  rw [lk6_go ha hb (by omega)]
  have h1 : ¬ n - 2 = 0 := by omega
  have h2 : 0 < n - 2 := by omega
  have h3 : ¬ 16777216 < c.length := by omega
  have h4 : ¬ 5000 < a.length + b.length + c.length := by omega
  simp [Dk.append, Dk.fnd, Dk.fileAt, Dk.used, Dk.setF, Dk.did, dirGet, h1, h2, h3, h4]
  omega
theorem lk8_go (ha : a.length ≤ 300) (hb : b.length ≤ 300) (hc : c.length ≤ 300) (hn : 3 < n) : lk8 a b c n = ⟨5000, [([120], 0), ([121], 1)], [([120], 0)], [⟨0, [], [121], 1⟩], [⟨a ++ b, a.length⟩, ⟨c, c.length⟩], n - 4⟩ := by
  unfold lk8
  rw [lk7_go ha hb hc (by omega)]
  have h1 : ¬ n - 3 = 0 := by omega
  have h2 : 0 < n - 3 := by omega
  simp [Dk.sync, Dk.fnd, Dk.fileAt, Dk.setF, Dk.did, dirGet, h1, h2]
  omega
theorem lk9_go (ha : a.length ≤ 300) (hb : b.length ≤ 300) (hc : c.length ≤ 300) (hn : 4 < n) : lk9 a b c n = ⟨5000, [([120], 0), ([122], 1)], [([120], 0)], [⟨0, [], [121], 1⟩, ⟨1, [121], [122], 1⟩], [⟨a ++ b, a.length⟩, ⟨c, c.length⟩], n - 5⟩ := by
  unfold lk9
  rw [lk8_go ha hb hc (by omega)]
  have h1 : ¬ n - 4 = 0 := by omega
  have h2 : 0 < n - 4 := by omega
  have h3 : namedB [122] = true := by decide
  have h4 : dirPut (dirDel [([120], 0), ([121], 1)] [121]) [122] 1 = [([120], 0), ([122], 1)] := by decide
  simp [Dk.rename, Dk.fnd, Dk.turn, Dk.did, dirGet, Deed.app, h1, h2, h3, h4]
  omega
theorem lk9_eq (ha : a.length ≤ 300) (hb : b.length ≤ 300) (hc : c.length ≤ 300) (hn : 0 ≤ n) : lk9 a b c n = lkAt a b c n := by
  unfold lkAt
  by_cases h0 : n = 0
  · rw [if_pos h0]
    subst h0
    have e := lk4_eq (n := 0) ha hn
    unfold lk9 lk8 lk7 lk6 lk5
    rw [e, dead_append ⟨5000, [([120], 0)], [([120], 0)], [], [⟨a, a.length⟩], 0⟩ _ _ rfl, dead_create _ _ rfl, dead_append ⟨5000, [([120], 0)], [([120], 0)], [], [⟨a, a.length⟩], 0⟩ _ _ rfl, dead_sync _ _ rfl, dead_rename _ _ _ rfl]
  rw [if_neg h0]
  by_cases h1 : n = 1
  · rw [if_pos h1]
    have e := lk5_go (n := n) ha hb (by omega)
    have hz : n - 1 = 0 := by omega
    unfold lk9 lk8 lk7 lk6
    rw [e, dead_create _ _ hz, dead_append _ _ _ hz, dead_sync _ _ hz, dead_rename _ _ _ hz, hz]
  rw [if_neg h1]
  by_cases h2 : n = 2
  · rw [if_pos h2]
    have e := lk6_go (n := n) ha hb (by omega)
    have hz : n - 2 = 0 := by omega
    unfold lk9 lk8 lk7
    rw [e, dead_append _ _ _ hz, dead_sync _ _ hz, dead_rename _ _ _ hz, hz]
  rw [if_neg h2]
  by_cases h3 : n = 3
  · rw [if_pos h3]
    have e := lk7_go (n := n) ha hb hc (by omega)
    have hz : n - 3 = 0 := by omega
    unfold lk9 lk8
    rw [e, dead_sync _ _ hz, dead_rename _ _ _ hz, hz]
  rw [if_neg h3]
  by_cases h4 : n = 4
  · rw [if_pos h4]
    have e := lk8_go (n := n) ha hb hc (by omega)
    have hz : n - 4 = 0 := by omega
    unfold lk9
    rw [e, dead_rename _ _ _ hz, hz]
  rw [if_neg h4]
  exact lk9_go ha hb hc (by omega)
/-- What is read of x behind the crash. -/
structure LastsOk (a b s : List UInt8) : Prop where
  lo : a.length ≤ s.length
  hi : s.length ≤ a.length + b.length
  pre : s.take a.length = a
  mid : ∀ k, a.length ≤ k → k + 1 < s.length → s[k]? = b[k - a.length]?
theorem settle_lasts_ok (a b : List UInt8) (p : DPick) : LastsOk a b ((⟨a ++ b, a.length⟩ : DFile).settle p).b := by
  have hk : keepN ⟨a ++ b, a.length⟩ p ≤ b.length := by
    have : keepN ⟨a ++ b, a.length⟩ p ≤ (a ++ b).length - a.length := Nat.min_le_right _ _
    simpa using this
  have hl := settle_len ⟨a ++ b, a.length⟩ p (by simp)
  simp only at hl
  have hb : ∀ k, k + 1 < a.length + keepN ⟨a ++ b, a.length⟩ p ∨ k < a.length → ((⟨a ++ b, a.length⟩ : DFile).settle p).b[k]? = (a ++ b)[k]? := fun k hk' => by
    unfold DFile.settle
    dsimp only
    split
    · rename_i h0
      unfold xorAt
      rw [List.getElem?_set_ne (by rw [List.length_take, List.length_append]; omega), List.getElem?_take_of_lt (by omega)]
    · rw [List.getElem?_take_of_lt (by omega)]
  refine ⟨by omega, by omega, ?_, fun k h1 h2 => ?_⟩
  · apply List.ext_getElem?
    intro k
    by_cases h : k < a.length
    · rw [List.getElem?_take_of_lt h, hb k (.inr h), List.getElem?_append_left h]
    · rw [List.getElem?_eq_none (by rw [List.length_take]; omega), List.getElem?_eq_none (by omega)]
  · rw [hb k (.inl (by omega)), List.getElem?_append_right h1]
theorem lastsOk_no {a b s : List UInt8} (h : LastsOk a [] s) : LastsOk a b s := by
  have h2 := h.hi
  have h1 := h.lo
  simp at h2
  exact ⟨h1, by omega, h.pre, fun k h3 h4 => by omega⟩
theorem take_one {α : Type} (x : α) (k : Nat) : [x].take k = [] ∨ [x].take k = [x] := by
  cases k <;> simp
theorem take_two {α : Type} (x y : α) (k : Nat) : [x, y].take k = [] ∨ [x, y].take k = [x] ∨ ([x, y].take k = [x, y] ∧ 2 ≤ k) := by
  match k with
  | 0 => simp
  | 1 => simp
  | k + 2 => simp
/-- The law. -/
theorem lasts_law (p : DPicks) (ha : a.length ≤ 300) (hb : b.length ≤ 300) (hc : c.length ≤ 300) (hn : 0 ≤ n) :
    ∃ s, LastsOk a b s ∧ ((lk9 a b c n).crash p).size [120] = (0, s.length) ∧ ((lk9 a b c n).crash p).read [120] 0 s.length = (0, s) ∧ ((lk9 a b c n).armed == 0) = decide (n ≤ 5) ∧
      ((((lk9 a b c n).crash p).size [122]).1 = 6 ∨ (((lk9 a b c n).crash p).size [122] = (0, c.length) ∧ 4 < n ∧ 2 ≤ p.names)) := by
  rw [lk9_eq ha hb hc hn]
  have key : ∀ (st : Dk) (x : List UInt8), st.files[0]? = some ⟨a ++ x, a.length⟩ → (x = [] ∨ x = b) → dirGet (st.lastDir p) [120] = some 0 →
      ∃ s, LastsOk a b s ∧ (st.crash p).size [120] = (0, s.length) ∧ (st.crash p).read [120] 0 s.length = (0, s) := fun st x hf hx hg => by
    refine ⟨((⟨a ++ x, a.length⟩ : DFile).settle (p.at 0)).b, ?_, ?_⟩
    · rcases hx with rfl | rfl
      · exact lastsOk_no (settle_lasts_ok a [] (p.at 0))
      · exact settle_lasts_ok a x (p.at 0)
    · have hany : (st.lastDir p).any (fun y => y.2 == 0) = true := List.any_eq_true.2 ⟨_, get_mem hg, rfl⟩
      have hfd : (st.crash p).fnd [120] = (0, 0) := by
        unfold Dk.fnd Dk.crash
        simp [hg]
      have hfa : ((st.crash p).fileAt 0).b = ((⟨a ++ x, a.length⟩ : DFile).settle (p.at 0)).b := by
        unfold Dk.fileAt Dk.crash settleAll
        simp only [List.getElem?_mapIdx, hf, Option.map_some, Option.getD_some, hany, if_true]
      constructor
      · unfold Dk.size
        rw [hfd]
        simp [hfa]
      · unfold Dk.read
        rw [hfd]
        simp [hfa]
  have fin : ∀ (st : Dk), (dirGet (st.lastDir p) [122] = none → ((st.crash p).size [122]).1 = 6) := fun st h => by
    unfold Dk.size Dk.fnd Dk.crash
    simp [h]
  have fin2 : ∀ (st : Dk), st.files[1]? = some ⟨c, c.length⟩ → dirGet (st.lastDir p) [122] = some 1 → (st.crash p).size [122] = (0, c.length) := fun st hf h => by
    have hany : (st.lastDir p).any (fun y => y.2 == 1) = true := List.any_eq_true.2 ⟨_, get_mem h, rfl⟩
    have hk : keepN ⟨c, c.length⟩ (p.at 1) = 0 := by unfold keepN; simp
    have hl := settle_len ⟨c, c.length⟩ (p.at 1) (Nat.le_refl _)
    rw [hk] at hl
    have hfd : (st.crash p).fnd [122] = (0, 1) := by
      unfold Dk.fnd Dk.crash
      simp [h]
    have hfa : ((st.crash p).fileAt 1).b = ((⟨c, c.length⟩ : DFile).settle (p.at 1)).b := by
      unfold Dk.fileAt Dk.crash settleAll
      rw [List.getElem?_mapIdx, hf]
      simp only [Option.map_some, Option.getD_some, hany, if_true]
    unfold Dk.size
    rw [hfd]
    simp [hfa, hl]
  unfold lkAt
  by_cases h0 : n = 0
  · rw [if_pos h0]
    obtain ⟨s, h1, h2, h3⟩ := key ⟨5000, [([120], 0)], [([120], 0)], [], [⟨a, a.length⟩], 0⟩ [] (by simp) (.inl rfl) (by simp [Dk.lastDir, deedsApp, dirGet])
    exact ⟨s, h1, h2, h3, by simp [h0], .inl (fin _ (by simp [Dk.lastDir, deedsApp, dirGet]))⟩
  rw [if_neg h0]
  by_cases h1 : n = 1
  · rw [if_pos h1]
    obtain ⟨s, h1', h2, h3⟩ := key ⟨5000, [([120], 0)], [([120], 0)], [], [⟨a ++ b, a.length⟩], 0⟩ b rfl (.inr rfl) (by simp [Dk.lastDir, deedsApp, dirGet])
    exact ⟨s, h1', h2, h3, by simp [h1], .inl (fin _ (by simp [Dk.lastDir, deedsApp, dirGet]))⟩
  rw [if_neg h1]
  have d0 : (⟨0, [], [121], 1⟩ : Deed).app [([120], 0)] = [([120], 0), ([121], 1)] := by decide
  have d1 : (⟨1, [121], [122], 1⟩ : Deed).app [([120], 0), ([121], 1)] = [([120], 0), ([122], 1)] := by decide
  have one : ∀ (k : Nat), dirGet (deedsApp ([⟨0, [], [121], 1⟩].take k) [([120], 0)]) [120] = some 0 ∧ dirGet (deedsApp ([⟨0, [], [121], 1⟩].take k) [([120], 0)]) [122] = none := fun k => by
    rcases take_one (⟨0, [], [121], 1⟩ : Deed) k with e | e <;> rw [e] <;> simp only [deedsApp, List.foldl_nil, List.foldl_cons, d0] <;> decide
  by_cases h2 : n = 2
  · rw [if_pos h2]
    obtain ⟨s, h1', h2', h3⟩ := key ⟨5000, [([120], 0), ([121], 1)], [([120], 0)], [⟨0, [], [121], 1⟩], [⟨a ++ b, a.length⟩, ⟨[], 0⟩], 0⟩ b rfl (.inr rfl) (one _).1
    exact ⟨s, h1', h2', h3, by simp [h2], .inl (fin _ (one _).2)⟩
  rw [if_neg h2]
  by_cases h3 : n = 3
  · rw [if_pos h3]
    obtain ⟨s, h1', h2', h3'⟩ := key ⟨5000, [([120], 0), ([121], 1)], [([120], 0)], [⟨0, [], [121], 1⟩], [⟨a ++ b, a.length⟩, ⟨c, 0⟩], 0⟩ b rfl (.inr rfl) (one _).1
    exact ⟨s, h1', h2', h3', by simp [h3], .inl (fin _ (one _).2)⟩
  rw [if_neg h3]
  by_cases h4 : n = 4
  · rw [if_pos h4]
    obtain ⟨s, h1', h2', h3'⟩ := key ⟨5000, [([120], 0), ([121], 1)], [([120], 0)], [⟨0, [], [121], 1⟩], [⟨a ++ b, a.length⟩, ⟨c, c.length⟩], 0⟩ b rfl (.inr rfl) (one _).1
    exact ⟨s, h1', h2', h3', by simp [h4], .inl (fin _ (one _).2)⟩
  rw [if_neg h4]
  have hk2 : p.names.toNat ≥ 2 → 2 ≤ p.names := fun h => by omega
  have harm : ((n - 5 == 0) = decide (n ≤ 5)) := by
    rw [Bool.eq_iff_iff]
    simp
    omega
  rcases take_two (⟨0, [], [121], 1⟩ : Deed) ⟨1, [121], [122], 1⟩ p.names.toNat with e | e | ⟨e, e2⟩
  · have hd : (⟨5000, [([120], 0), ([122], 1)], [([120], 0)], [⟨0, [], [121], 1⟩, ⟨1, [121], [122], 1⟩], [⟨a ++ b, a.length⟩, ⟨c, c.length⟩], n - 5⟩ : Dk).lastDir p = [([120], 0)] := by simp only [Dk.lastDir, e, deedsApp, List.foldl_nil]
    obtain ⟨s, h1', h2', h3'⟩ := key ⟨5000, [([120], 0), ([122], 1)], [([120], 0)], [⟨0, [], [121], 1⟩, ⟨1, [121], [122], 1⟩], [⟨a ++ b, a.length⟩, ⟨c, c.length⟩], n - 5⟩ b rfl (.inr rfl) (by rw [hd]; decide)
    exact ⟨s, h1', h2', h3', harm, .inl (fin _ (by rw [hd]; decide))⟩
  · have hd : (⟨5000, [([120], 0), ([122], 1)], [([120], 0)], [⟨0, [], [121], 1⟩, ⟨1, [121], [122], 1⟩], [⟨a ++ b, a.length⟩, ⟨c, c.length⟩], n - 5⟩ : Dk).lastDir p = [([120], 0), ([121], 1)] := by simp only [Dk.lastDir, e, deedsApp, List.foldl_nil, List.foldl_cons, d0]
    obtain ⟨s, h1', h2', h3'⟩ := key ⟨5000, [([120], 0), ([122], 1)], [([120], 0)], [⟨0, [], [121], 1⟩, ⟨1, [121], [122], 1⟩], [⟨a ++ b, a.length⟩, ⟨c, c.length⟩], n - 5⟩ b rfl (.inr rfl) (by rw [hd]; decide)
    exact ⟨s, h1', h2', h3', harm, .inl (fin _ (by rw [hd]; decide))⟩
  · have hd : (⟨5000, [([120], 0), ([122], 1)], [([120], 0)], [⟨0, [], [121], 1⟩, ⟨1, [121], [122], 1⟩], [⟨a ++ b, a.length⟩, ⟨c, c.length⟩], n - 5⟩ : Dk).lastDir p = [([120], 0), ([122], 1)] := by simp only [Dk.lastDir, e, deedsApp, List.foldl_nil, List.foldl_cons, d0, d1]
    obtain ⟨s, h1', h2', h3'⟩ := key ⟨5000, [([120], 0), ([122], 1)], [([120], 0)], [⟨0, [], [121], 1⟩, ⟨1, [121], [122], 1⟩], [⟨a ++ b, a.length⟩, ⟨c, c.length⟩], n - 5⟩ b rfl (.inr rfl) (by rw [hd]; decide)
    exact ⟨s, h1', h2', h3', harm, .inr ⟨fin2 _ rfl (by rw [hd]; decide), by omega, hk2 e2⟩⟩
end Go.Proofs.Ytcicnjlkcbimgaa

/- corncriblaw07.alive. -/
namespace Go.Proofs.Ytcicnjlkcbimgaa
open Go.RowKit
def al1 : Dk := ((Dk.new 100).create [97]).2
def al2 : Dk := (al1.append [97] [1]).2
def al3 : Dk := al2.crash ⟨0, []⟩
theorem al_0 : ((Dk.new 100).create [97]).1 = 0 := by decide
theorem al_1 : (al1.append [97] [1]).1 = 0 := by decide
theorem al_2 : al3.now.length = 0 := by decide
theorem al_3 : (al3.sync [97]).1 = 6 := by decide
theorem al_4 : (al3.sync [97]).2 = al3 := rfl
theorem reads_new (w : World) (us : List Value) (T n c B : Nat) (hn : us.length = n) (h : n ≤ maxLen) (hB : w.heap.size = B) : Reads (w.alloc (.cells us.toArray T)) 1 (.slice (some ⟨B, 0, none⟩) n c) n us := by
  subst hB
  exact ⟨by simp [hn], .inr ⟨_, _, rfl, h, World.news_of_block (heap_new w _)⟩⟩
theorem reads_no (w : World) (sz : Nat) : Reads w sz (.slice none 0 0) 0 [] := ⟨by simp, .inl ⟨rfl, rfl⟩⟩
set_option maxRecDepth 100000 in
set_option maxHeartbeats 2000000 in
theorem alive07 (w : World) : Calls Try.prog 8 #[] w fun e w' => e = .returned (.bool true) ∧ Below w.heap.size w w' := by
  go_enter Try.func8, Try.ntmps8
  go_wp2_with fail
  refine (new_ds 100 (by omega) _).mono ?_
  rintro e w1 ⟨rfl, hd1, hb1, hz1⟩
  have HP1 : ∀ k, k < w.heap.size → k < w1.heap.size := fun k hk => by omega
  have HD1 := Lib.hid hd1
  have HB1 := Lib.hid hb1
  clear hd1 hb1
  go_wp2_with fail
  refine (create_ds HD1.out HP1 (by omega) [97] (by decide)).mono ?_
  rintro e w2 ⟨rfl, hd2, hk2⟩
  rw [al_0]
  have hz2 := hk2.size
  have HB2 := Lib.hid (HB1.out.trans (hk2.below (B := w.heap.size) (by omega) fun k hk => hk))
  have HD2 := Lib.hid (show DS w2 (w.heap.size + 2) (fun k => k < w.heap.size) 1 al1 from hd2)
  clear hd2 hk2
  go_wp2_with fail
  refine (append_ds (HD2.out.below (by repeat (first | (with_reducible exact Below.refl _ _) | (with_reducible refine Below.setCell ?_ ?_ _) | (with_reducible refine Below.alloc ?_ ?_ _) | (with_reducible refine Below.drewN ?_ _) | (with_reducible refine Below.drew ?_) | (with_reducible exact Nat.le_refl _) | (focus (simp only [World.size_alloc, World.size_setCell, World.size_drew, World.size_drewN]; omega)) | omega | exact Nat.le_refl _ | (focus (simp; done)) | (focus (simp; omega))))) (fun k hk => by simp; omega) [97] _ [1] (by decide) (reads_new w2 [bv 1] _ 1 1 _ rfl (by unfold maxLen; omega) rfl)).mono ?_
  rintro e w3 ⟨rfl, hd3, hk3⟩
  have hz3 := hk3.size
  simp only [World.size_alloc] at hz3
  rw [al_1]
  have HB3 := Lib.hid ((HB2.out.alloc (by omega) _).trans (hk3.below (B := w.heap.size) (by simp; omega) fun k hk => hk))
  have HD3 := Lib.hid (show DS w3 (w.heap.size + 2) (fun k => k < w.heap.size) 1 al2 from hd3)
  clear hd3 hk3
  go_wp2_with fail
  refine (crash_ds HD3.out (fun k hk => by omega) (by omega) ⟨0, []⟩ none 0 (reads_no _ _) (fun a e => by cases e) (by decide) (by decide) (fun x hx => by cases hx)).mono ?_
  rintro e w4 ⟨rfl, hd4, hk4⟩
  have hz4 := hk4.size
  have HB4 := Lib.hid (HB3.out.trans (hk4.below (B := w.heap.size) (by omega) fun k hk => hk))
  have HD4 := Lib.hid (show DS w4 (w.heap.size + 2) (fun k => k < w.heap.size) 1 al3 from hd4)
  clear hd4 hk4
  go_wp2_with fail
  refine (sync_ds HD4.out (fun k hk => by omega) [97] (by decide)).mono ?_
  rintro e w5 ⟨rfl, hd5, hk5⟩
  have hz5 := hk5.size
  rw [al_3]
  have HB5 := Lib.hid (HB4.out.trans (hk5.below (B := w.heap.size) (by omega) fun k hk => hk))
  have HD5 := Lib.hid (show DS w5 (w.heap.size + 2) (fun k => k < w.heap.size) 1 al3 from hd5)
  clear hd5 hk5
  go_wp2_with fail
  refine (code0 _).mono ?_
  rintro e w6 ⟨rfl, rfl⟩
  go_wp2_with fail
  refine (code0 _).mono ?_
  rintro e w6 ⟨rfl, rfl⟩
  go_wp2_with fail
  refine (code0 _).mono ?_
  rintro e w6 ⟨rfl, rfl⟩
  go_wp2_with fail
  refine (code0 _).mono ?_
  rintro e w6 ⟨rfl, rfl⟩
  go_wp2_with fail
  refine (names_ds HD5.out).mono ?_
  rintro e w7 ⟨v, rfl, ho7, hb7⟩
  rw [al_2] at ho7
  obtain ⟨a7, c7, rfl⟩ := ownsRow_len ho7
  have HB7 := Lib.hid (HB5.out.trans (hb7.mono (by omega)))
  clear ho7 hb7
  go_wp2_with fail
  refine (code_any 6 (by omega) (by omega) _).mono ?_
  rintro e w8 ⟨rfl, rfl⟩
  go_wp2_with fail
  go_ret
  exact ⟨rfl, HB7.out⟩
end Go.Proofs.Ytcicnjlkcbimgaa

/- Bytes read from memory, and corncribref01.Same at any two lists of bytes. No condition but that they are read. -/
namespace Go.Proofs.Ytcicnjlkcbimgaa
open Go.RowKit
set_option maxRecDepth 100000 in
set_option maxHeartbeats 1000000 in
theorem same_any (va vb : Value) (xs ys : List UInt8) (w : World) (ha : Reads w 1 va xs.length (xs.map bv)) (hb : Reads w 1 vb ys.length (ys.map bv)) :
    Calls Try.prog 22 #[va, vb] w fun e w' => e = .returned (.bool (decide (xs = ys))) ∧ Below w.heap.size w w' := by
  obtain ⟨a1, c1, rfl⟩ := reads_len ha
  obtain ⟨a2, c2, rfl⟩ := reads_len hb
  by_cases hl : xs.length = ys.length
  · have hdl : ((xs.length : Int) != (ys.length : Int)) = false := by rw [hl]; simp
    have HL := Lib.hid hl
    have HA := Lib.hid ha
    have HB := Lib.hid hb
    clear hl ha hb
    go_enter Try.func22, Try.ntmps22
    go_wp2
    go_loopw [5] (fun i wr => ∃ k : Nat, k ≤ xs.length ∧ i = .int .i64 k ∧ xs.take k = ys.take k ∧ Below w.heap.size w wr) (fun i _ => xs.length - (intOf i).toNat)
    case atStart => exact ⟨0, Nat.zero_le _, rfl, rfl, Below.refl _ _⟩
    case round =>
      obtain ⟨k, hk, rfl, ht, hbw⟩ := hrel
      have HT := Lib.hid ht
      have HBW := Lib.hid hbw
      clear ht hbw
      by_cases hlt : k < xs.length
      · have hlt2 : k < ys.length := by have := HL.out; omega
        obtain ⟨b1, o1, _, e1, hb1, hm1, hc1⟩ := reads_addr HA.out (by omega)
        obtain ⟨b2, o2, _, e2, hb2, hm2, hc2⟩ := reads_addr HB.out (by omega)
        obtain ⟨rfl, -, rfl⟩ := sl_inj e1
        obtain ⟨rfl, -, rfl⟩ := sl_inj e2
        have k1 := (HBW.out.cell (p := ⟨b1, o1 + k, none⟩) hb1).trans (hc1 k (bv xs[k]) (by rw [List.getElem?_map, List.getElem?_eq_getElem hlt]; rfl))
        have k2 := (HBW.out.cell (p := ⟨b2, o2 + k, none⟩) hb2).trans (hc2 k (bv ys[k]) (by rw [List.getElem?_map, List.getElem?_eq_getElem hlt2]; rfl))
        unfold maxLen at hm1 hm2
        clear e1 e2 hc1 hc2
        have hi0 : (0 : Int) ≤ (k : Int) := by omega
        have hi1 : (k : Int) < (xs.length : Int) := by omega
        have hi2 : (k : Int) < (ys.length : Int) := by omega
        have HX := Lib.hid (show xs.take (k + 1) = xs.take k ++ [xs[k]] by rw [List.take_succ_eq_append_getElem hlt])
        have HY := Lib.hid (show ys.take (k + 1) = ys.take k ++ [ys[k]] by rw [List.take_succ_eq_append_getElem hlt2])
        unfold bv at k1 k2
        obtain ⟨x, hx⟩ : ∃ x, xs[k] = x := ⟨_, rfl⟩
        obtain ⟨y, hy⟩ : ∃ y, ys[k] = y := ⟨_, rfl⟩
        have HXX := Lib.hid hx
        have HYY := Lib.hid hy
        rw [hx] at k1
        rw [hy] at k2
        clear hx hy
        by_cases hxy : x = y
        · have hxe : ((x.toNat : Int) != (y.toNat : Int)) = false := by rw [hxy]; simp
          have HXY := Lib.hid hxy
          clear hxy
          go_wp2_with fail
          refine wp_region_now0 [3, 7] [(0, 0), (1, 0), (2, 0), (3, 2), (4, 0), (5, 0), (6, 0), (7, 2), (8, 0)] (by kernel_rfl) (by kernel_rfl) rfl (by kernel_rfl) ?_
          refine stepE0 rfl rfl (fun K hK => ?_)
          go_simp
          refine hK _ ?_
          clear hK K
          refine stepE0 rfl rfl (fun K hK => ?_)
          go_simp
          refine hK _ ?_
          clear hK K
          refine stepE0 rfl rfl (fun K hK => ?_)
          go_simp
          refine hK _ ?_
          clear hK K
          refine stepE2 rfl rfl ?_ (fun w1 hS => ?_) (fun K hK => ?_)
          rotate_left
          focus (obtain rfl : w1 = _ := hS; go_simp; rfl)
          go_simp
          refine hK _ ?_
          clear hK K
          refine stepE0 rfl rfl (fun K hK => ?_)
          go_simp
          refine hK _ ?_
          clear hK K
          refine stepE0 rfl rfl (fun K hK => ?_)
          go_simp
          refine hK _ ?_
          clear hK K
          refine stepE0 rfl rfl (fun K hK => ?_)
          go_simp
          refine hK _ ?_
          clear hK K
          refine stepE2 rfl rfl ?_ (fun w1 hS => ?_) (fun K hK => ?_)
          rotate_left
          focus (obtain rfl : w1 = _ := hS; go_simp; rfl)
          go_simp
          refine hK _ ?_
          clear hK K
          refine stepE0 rfl rfl (fun K hK => ?_)
          go_simp
          refine hK _ ?_
          clear hK K
          try refine stepEnil0 ?_
          go_wp2_with fail
          go_roundw
          case rel => exact ⟨k + 1, by omega, by go_num, by rw [HX.out, HY.out, HT.out, HXX.out, HYY.out, HXY.out], HBW.out.drew⟩
          case measure => simp [intOf]; omega
        · have hxe : ((x.toNat : Int) != (y.toNat : Int)) = true := by
            rw [bne_iff_ne]
            intro h
            exact hxy (UInt8.toNat_inj.1 (by omega))
          have HXY := Lib.hid hxy
          clear hxy
          go_wp2_with fail
          refine wp_region_now0 [3, 7] [(0, 0), (1, 0), (2, 0), (3, 2), (4, 0), (5, 0), (6, 0), (7, 2), (8, 0)] (by kernel_rfl) (by kernel_rfl) rfl (by kernel_rfl) ?_
          refine stepE0 rfl rfl (fun K hK => ?_)
          go_simp
          refine hK _ ?_
          clear hK K
          refine stepE0 rfl rfl (fun K hK => ?_)
          go_simp
          refine hK _ ?_
          clear hK K
          refine stepE0 rfl rfl (fun K hK => ?_)
          go_simp
          refine hK _ ?_
          clear hK K
          refine stepE2 rfl rfl ?_ (fun w1 hS => ?_) (fun K hK => ?_)
          rotate_left
          focus (obtain rfl : w1 = _ := hS; go_simp; rfl)
          go_simp
          refine hK _ ?_
          clear hK K
          refine stepE0 rfl rfl (fun K hK => ?_)
          go_simp
          refine hK _ ?_
          clear hK K
          refine stepE0 rfl rfl (fun K hK => ?_)
          go_simp
          refine hK _ ?_
          clear hK K
          refine stepE0 rfl rfl (fun K hK => ?_)
          go_simp
          refine hK _ ?_
          clear hK K
          refine stepE2 rfl rfl ?_ (fun w1 hS => ?_) (fun K hK => ?_)
          rotate_left
          focus (obtain rfl : w1 = _ := hS; go_simp; rfl)
          go_simp
          refine hK _ ?_
          clear hK K
          refine stepE0 rfl rfl (fun K hK => ?_)
          go_simp
          refine hK _ ?_
          clear hK K
          try refine stepEnil0 ?_
          go_wp2_with fail
          go_ret
          refine ⟨ret_bool (decide_eq_false fun h => HXY.out ?_).symm, HBW.out.drew⟩
          subst h
          rw [← HXX.out, ← HYY.out]
      · go_wp2_with fail
        go_ret
        refine ⟨ret_bool (decide_eq_true ?_).symm, HBW.out⟩
        have := HT.out
        rwa [List.take_of_length_le (by omega), List.take_of_length_le (by have := HL.out; omega)] at this
  · have hdl : ((xs.length : Int) != (ys.length : Int)) = true := by rw [bne_iff_ne]; omega
    have HL := Lib.hid hl
    clear hl ha hb
    go_enter Try.func22, Try.ntmps22
    go_wp2
    go_ret
    exact ⟨ret_bool (decide_eq_false fun h => HL.out (by rw [h])).symm, Below.refl _ _⟩
end Go.Proofs.Ytcicnjlkcbimgaa
