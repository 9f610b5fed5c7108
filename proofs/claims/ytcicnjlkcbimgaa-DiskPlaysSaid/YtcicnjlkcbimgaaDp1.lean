/- Joined texts: Ref07, Ref07b, Ref07c, Ref07d, Ref07e, Ref07f. -/
import Derived.Test.YtcicnjlkcbimgaaDiskPlain
import Derived.Test.YtcicnjlkcbimgaaDiskPicks
import Derived.Test.YtcicnjlkcbimgaaDiskS
import Derived.Test.YtcicnjlkcbimgaaAppReads
import Derived.Maps.AppendAt
import Derived.WideShapes
import Derived.WideAt
import Derived.Test.YtcicnjlkcbimgaaOrderM
import Derived.Test.YtcicnjlkcbimgaaDisk07
import Derived.Test.YtcicnjlkcbimgaaDiskNamed
/- corncribref07: Find, without, Named. -/
namespace Go.Proofs.Ytcicnjlkcbimgaa
open Go.RowKit
def entRow (p : Nm × Nat) : List Value := [.string ⟨p.1.toArray⟩, .int .i64 p.2]
theorem entRow_len (p : Nm × Nat) : (entRow p).length = 2 := rfl
theorem ent_at {w : World} {v : Value} {n : Nat} {l : Dir} (h : Reads w 2 v n (l.flatMap entRow)) {k : Nat} {x : Nm × Nat} (hx : l[k]? = some x) (hn : 0 < n) :
    ∃ b o c, v = .slice (some ⟨b, o, none⟩) n c ∧ b < w.heap.size ∧ w.cell? ⟨b, o + k * 2, none⟩ = some (.string ⟨x.1.toArray⟩) ∧ w.cell? ⟨b, o + k * 2 + 1, none⟩ = some (.int .i64 x.2) := by
  obtain ⟨b, o, c, e, h1, _, h2⟩ := reads_at h hn (by omega)
  have key : ∀ j u, j < 2 → (entRow x)[j]? = some u → w.cell? ⟨b, o + (k * 2 + j), none⟩ = some u := fun j u hj hu => h2 (k * 2 + j) u (by rw [getElem?_flatMap_row entRow 2 entRow_len l k j hj, hx]; exact hu)
  exact ⟨b, o, c, e, h1, key 0 _ (by omega) rfl, key 1 _ (by omega) rfl⟩
def findI (l : Dir) (s : Nm) : Int := match dirGet l s with | some f => (f : Int) | none => -1
theorem get_first {l : Dir} {s : Nm} {k f : Nat} (hx : l[k]? = some (s, f)) (hk : ∀ p ∈ l.take k, p.1 ≠ s) : dirGet l s = some f := by
  have hd : l = l.take k ++ (s, f) :: l.drop (k + 1) := by
    obtain ⟨hk', e⟩ := List.getElem?_eq_some_iff.1 hx
    rw [← e, ← List.drop_eq_getElem_cons hk', List.take_append_drop]
  unfold dirGet
  rw [hd, List.find?_append]
  have h1 : (l.take k).find? (fun p => p.1 == s) = none := by
    rw [List.find?_eq_none]
    intro p hp
    simpa using hk p hp
  rw [h1]
  simp
set_option maxRecDepth 100000 in
set_option maxHeartbeats 1000000 in
theorem find07_any (a : Option Addr) (n c : Nat) (l : Dir) (s : Nm) (w : World) (hl : l.length = n) (hr : Reads w 2 (.slice a n c) n (l.flatMap entRow)) (hn : n ≤ 4096) :
    Calls Try.prog 48 #[.slice a n c, .string ⟨s.toArray⟩] w fun e w' => e = .returned (.int .i64 (findI l s)) ∧ w = w' := by
  have HL := Lib.hid hl
  have HR := Lib.hid hr
  clear hl hr
  go_enter Try.func48, Try.ntmps48
  go_wp2_with fail
  go_loopw [5] (fun i wr => ∃ k : Nat, k ≤ n ∧ i = .int .i64 k ∧ (∀ p ∈ l.take k, p.1 ≠ s) ∧ w = wr) (fun i _ => n - (intOf i).toNat)
  case atStart => exact ⟨0, Nat.zero_le _, rfl, fun p hp => by simp at hp, rfl⟩
  case round =>
    obtain ⟨k, hk, rfl, hno, rfl⟩ := hrel
    have HNO := Lib.hid hno
    clear hno
    by_cases hlt : k < n
    · obtain ⟨x, hx⟩ : ∃ x, l[k]? = some x := ⟨_, List.getElem?_eq_getElem (by rw [HL.out]; exact hlt)⟩
      obtain ⟨b, o, cc, e, hbl, x0, x1⟩ := ent_at HR.out hx (by omega)
      obtain ⟨rfl, -, rfl⟩ := sl_inj e
      have HX := Lib.hid hx
      have hk0 : (0 : Int) ≤ (k : Int) := by omega
      have hk1 : (k : Int) < (n : Int) := by omega
      clear hx e
      obtain ⟨t, f⟩ := x
      simp only at x0 x1
      by_cases hts : t = s
      · subst hts
        have HF := Lib.hid (show findI l t = (f : Int) by unfold findI; rw [get_first HX.out HNO.out])
        go_wp2_with fail
        go_ret
        exact ⟨by rw [HF.out]; rfl, rfl⟩
      · have hne : (t == s) = false := by simpa using hts
        have HNO2 := Lib.hid (show ∀ p ∈ l.take (k + 1), p.1 ≠ s from fun p hp => by
          rw [take_snoc_at l k _ HX.out] at hp
          rcases List.mem_append.1 hp with hp | hp
          · exact HNO.out p hp
          · obtain rfl : p = _ := List.mem_singleton.1 hp
            exact hts)
        clear hts
        go_wp2_with fail
        go_roundw
        case rel => exact ⟨k + 1, by omega, by go_num, HNO2.out, trivial⟩
        case measure => simp [intOf]; omega
    · have hkn : decide ((k : Int) < (n : Int)) = false := by simp; omega
      have HF := Lib.hid (show findI l s = -1 by
        unfold findI
        have e : dirGet l s = none := by
          unfold dirGet
          rw [Option.map_eq_none_iff, List.find?_eq_none]
          intro p hp
          have := HNO.out p (by rw [List.take_of_length_le (by rw [HL.out]; omega)]; exact hp)
          simpa using this
        rw [e])
      go_wp2_with fail
      go_ret
      exact ⟨by rw [HF.out]; rfl, rfl⟩
end Go.Proofs.Ytcicnjlkcbimgaa

/- corncribref07: without, with, Turn. -/
namespace Go.Proofs.Ytcicnjlkcbimgaa
open Go.RowKit Go.WideShapes Go.WideAt
theorem entry_info : (Try.prog.info? 72).map (fun i => (i.zero, i.size, i.bytes)) = some (some (.agg #[.string ⟨#[]⟩, .int .i64 0]), 2, 24) := by kernel_rfl
theorem del_snoc_no {l : Dir} {k : Nat} {x : Nm × Nat} (s : Nm) (hx : l[k]? = some x) (h : x.1 = s) : dirDel (l.take (k + 1)) s = dirDel (l.take k) s := by
  rw [take_snoc_at l k x hx]
  unfold dirDel
  rw [List.filter_append]
  simp [h]
theorem del_snoc_yes {l : Dir} {k : Nat} {x : Nm × Nat} (s : Nm) (hx : l[k]? = some x) (h : x.1 ≠ s) : dirDel (l.take (k + 1)) s = dirDel (l.take k) s ++ [x] := by
  rw [take_snoc_at l k x hx]
  unfold dirDel
  rw [List.filter_append]
  simp [h]
theorem ents_one (l : Dir) : ∀ u ∈ l.flatMap entRow, u.oneCell' = true := by
  intro u hu
  obtain ⟨m, _, hm⟩ := List.mem_flatMap.1 hu
  unfold entRow at hm
  simp only [List.mem_cons, List.not_mem_nil, or_false] at hm
  rcases hm with rfl | rfl <;> rfl
set_option maxRecDepth 100000 in
set_option maxHeartbeats 2000000 in
theorem without07_any (a : Option Addr) (n c : Nat) (l : Dir) (s : Nm) (w : World) (hl : l.length = n) (hr : Reads w 2 (.slice a n c) n (l.flatMap entRow)) (hn : n ≤ 4096) :
    Calls Try.prog 66 #[.slice a n c, .string ⟨s.toArray⟩] w fun e w' => ∃ v, e = .returned v ∧ w'.ownsRow w.heap.size 72 2 v (dirDel l s).length ((dirDel l s).flatMap entRow) ∧ Below w.heap.size w w' := by
  have HL := Lib.hid hl
  have HR := Lib.hid hr
  obtain ⟨i0, hi, hz0, hz1, hz2⟩ := info_parts entry_info
  have HI := Lib.hid hi
  have HZ0 := Lib.hid hz0
  have HZ1 := Lib.hid hz1
  have HZ2 := Lib.hid hz2
  clear hi hz0 hz1 hz2 hl hr
  go_enter Try.func66, Try.ntmps66
  go_wp2_with fail
  go_loopw [5, 6] (fun x i wr => ∃ k : Nat, k ≤ n ∧ i = .int .i64 k ∧ wr.ownsRow w.heap.size 72 2 x (dirDel (l.take k) s).length ((dirDel (l.take k) s).flatMap entRow) ∧ Below w.heap.size w wr) (fun _ i _ => n - (intOf i).toNat)
  case atStart => exact ⟨0, Nat.zero_le _, rfl, World.ownsRow_nil _ _ _ _, Below.refl _ _⟩
  case round =>
    obtain ⟨k, hk, rfl, hown, hbw⟩ := hrel
    have HOW := Lib.hid hown
    have HBW := Lib.hid hbw
    have hzr := hbw.size
    obtain ⟨al, cl, rfl⟩ := ownsRow_len hown
    clear hown hbw
    by_cases hlt : k < n
    · obtain ⟨x, hx⟩ : ∃ x, l[k]? = some x := ⟨_, List.getElem?_eq_getElem (by rw [HL.out]; exact hlt)⟩
      obtain ⟨b, o, cc, e, hbl, x0, x1⟩ := ent_at (HR.out.below HBW.out) hx (by omega)
      obtain ⟨rfl, -, rfl⟩ := sl_inj e
      have HX := Lib.hid hx
      have hk0 : (0 : Int) ≤ (k : Int) := by omega
      have hk1 : (k : Int) < (n : Int) := by omega
      have hdl : (dirDel (l.take k) s).length ≤ 4096 := by have := len_del (l.take k) s; rw [List.length_take] at this; omega
      clear hx e
      obtain ⟨t, f⟩ := x
      simp only at x0 x1
      by_cases hts : t = s
      · subst hts
        have HD := Lib.hid (del_snoc_no t HX.out rfl)
        go_wp2_with fail
        go_roundw
        case rel => exact ⟨k + 1, by omega, by go_num, by rw [HD.out]; exact HOW.out, HBW.out⟩
        case measure => simp [intOf]; omega
      · have hne : (t == s) = false := by simpa using hts
        have HD := Lib.hid (del_snoc_yes s HX.out hts)
        clear hts
        go_wp2_with (at_builtin; refine wpList_append_own _ rfl _ _ 60 rfl w.heap.size 72 i0 (.agg #[.string ⟨#[]⟩, .int .i64 0]) 2 24 Try.underlying60 HI.out HZ0.out HZ1.out HZ2.out rfl (by decide) _ _ _ rfl (HOW.out.alloc _) ⟨wr.heap.size, 0, none⟩ 1 1 [.string ⟨t.toArray⟩, .int .i64 f] rfl rfl (World.news_of_block (cs := #[.string ⟨t.toArray⟩, .int .i64 f]) (t := 72) (fr := (0, 0)) (heap_new wr _)) (by simp [Value.oneCell']) (by unfold maxLen; omega) (by omega) (by simp; omega) ?_; intro v' w5 hown' hgrow _; have HOX := Lib.hid hown'; have HGX := Lib.hid hgrow; clear hown' hgrow)
        go_roundw
        case rel => exact ⟨k + 1, by omega, by go_num, by rw [HD.out]; simpa [entRow] using HOX.out, (HBW.out.alloc hzr _).grown HGX.out (by simp; omega) (fun g hg => (HOW.out.lt g hg).1)⟩
        case measure => simp [intOf]; omega
    · have hkn : decide ((k : Int) < (n : Int)) = false := by simp; omega
      have HK := Lib.hid (show l.take k = l from List.take_of_length_le (by rw [HL.out]; omega))
      go_wp2_with fail
      go_ret
      refine ⟨_, rfl, ?_, HBW.out⟩
      have := HOW.out
      rw [HK.out] at this ⊢
      exact this
/-- The insertion's place: the names ahead of s. -/
def aheadN (l : Dir) (s : Nm) : Nat := (l.takeWhile fun p => bytesBefore p.1 s).length
theorem ins_split (x : Nm × Nat) : ∀ (l : Dir), (∀ p ∈ l, p.1 ≠ x.1) → dirIns x l = l.takeWhile (fun p => bytesBefore p.1 x.1) ++ x :: l.dropWhile (fun p => bytesBefore p.1 x.1)
  | [], _ => rfl
  | y :: r, h => by
    have hy := h y List.mem_cons_self
    unfold dirIns
    rw [List.takeWhile_cons, List.dropWhile_cons]
    by_cases hb : bytesBefore x.1 y.1 = true
    · have hf : bytesBefore y.1 x.1 = false := by
        cases e : bytesBefore y.1 x.1
        · rfl
        · have := bytes_trans _ _ _ hb e
          rw [bytes_irrefl] at this
          cases this
      rw [if_pos hb, hf]
      simp
    · have ht : bytesBefore y.1 x.1 = true := (bytes_total _ _ hy).resolve_right hb
      rw [if_neg hb, ht, ins_split x r (fun p hp => h p (List.mem_cons_of_mem _ hp))]
      simp
end Go.Proofs.Ytcicnjlkcbimgaa

/- corncribref07: with, Turn. -/
namespace Go.Proofs.Ytcicnjlkcbimgaa
open Go.RowKit Go.WideShapes Go.WideAt
theorem run_prefixK (T e : TypeId) (k : Nat) (hT : Try.prog.underlying T = some (.slice e)) (hs : ∀ W, (sizeOf e).run Try.prog W = .ok k W) (a : Option Addr) (len c n : Nat) (ha : (a = none ∧ c = 0) ∨ ∃ g, a = some ⟨g, 0, none⟩) (hn : n ≤ c) (W : World) : (Instr.slice T (.slice a len c) none (some (.int .i64 n)) none).run Try.prog W = .ok (.slice a n c) W := by
  have e : (if c = 0 then a else a.map (·.add (0 * k))) = a := by
    rcases ha with ⟨rfl, _⟩ | ⟨g, rfl⟩
    · simp
    · simp [add_zero_off]
  simp [Instr.slice, run_underlying hT, Instr.sliceBounds, run_sliceBound, hs, Result.andThen, (by omega : (0 : Int) ≤ (n : Int)), (by omega : (n : Int) ≤ (c : Int))]
  simpa using e
theorem run_suffixK (T e : TypeId) (k : Nat) (hT : Try.prog.underlying T = some (.slice e)) (hs : ∀ W, (sizeOf e).run Try.prog W = .ok k W) (a : Option Addr) (len c n : Nat) (hn : n ≤ len) (hl : len ≤ c) (W : World) :
    ∃ a', (Instr.slice T (.slice a len c) (some (.int .i64 n)) none none).run Try.prog W = .ok (.slice a' (len - n) (c - n)) W ∧ a' = (if c = n then a else a.map (·.add (n * k))) := by
  refine ⟨_, ?_, rfl⟩
  simp [Instr.slice, run_underlying hT, Instr.sliceBounds, run_sliceBound, hs, Result.andThen, (by omega : (0 : Int) ≤ (n : Int)), (by omega : (n : Int) ≤ (len : Int)), (by omega : (len : Int) ≤ (c : Int))]
theorem ent_size : ∀ W, (sizeOf 72).run Try.prog W = .ok 2 W := fun W => by kernel_rfl
/-- Some of a row: its first i, its others. -/
theorem pre_reads {w : World} {base n c i : Nat} {a : Option Addr} {d : Dir} (h : w.ownsRow base 72 2 (.slice a n c) n (d.flatMap entRow)) (hd : d.length = n) (hi : i ≤ n) : Reads w 2 (.slice a i c) i ((d.take i).flatMap entRow) := by
  have hl : ((d.take i).flatMap entRow).length = i * 2 := by rw [length_flatMap_row entRow 2 entRow_len, List.length_take]; rw [Nat.min_eq_left (by omega)]
  refine ⟨hl, ?_⟩
  rcases h.2 with ⟨e, h0⟩ | ⟨g, cap, cur, e, hg, hh, h1, h2, h3⟩
  · simp only [Value.slice.injEq] at e
    obtain ⟨rfl, _, rfl⟩ := e
    exact .inl ⟨by rw [show i = 0 by omega], by omega⟩
  · simp only [Value.slice.injEq] at e
    obtain ⟨rfl, _, rfl⟩ := e
    refine .inr ⟨_, _, rfl, by omega, fun m u hu => ?_⟩
    have hm : m < i * 2 := by have := (List.getElem?_eq_some_iff.1 hu).1; omega
    have h5 := h.cellAt m (by omega)
    rw [add_zero_off, h5, ← hu]
    have e : d.flatMap entRow = (d.take i).flatMap entRow ++ (d.drop i).flatMap entRow := by rw [← List.flatMap_append, List.take_append_drop]
    rw [e, List.getElem?_append_left (by omega)]
theorem suf_reads {w : World} {base n c i : Nat} {a a' : Option Addr} {c' : Nat} {d : Dir} (h : w.ownsRow base 72 2 (.slice a n c) n (d.flatMap entRow)) (hd : d.length = n) (hi : i ≤ n) (ha : a' = (if c = i then a else a.map (·.add (i * 2)))) (hc : c' = c - i) :
    Reads w 2 (.slice a' (n - i) c') (n - i) ((d.drop i).flatMap entRow) := by
  have hl : ((d.drop i).flatMap entRow).length = (n - i) * 2 := by rw [length_flatMap_row entRow 2 entRow_len, List.length_drop, hd]
  refine ⟨hl, ?_⟩
  rcases h.2 with ⟨e, h0⟩ | ⟨g, cap, cur, e, hg, hh, h1, h2, h3⟩
  · simp only [Value.slice.injEq] at e
    obtain ⟨rfl, _, rfl⟩ := e
    refine .inl ⟨?_, by omega⟩
    rw [ha, hc, show n - i = 0 by omega]
    simp
  · simp only [Value.slice.injEq] at e
    obtain ⟨rfl, _, rfl⟩ := e
    by_cases hz : c = i
    · rw [if_pos hz] at ha
      rw [ha]
      exact .inr ⟨_, _, rfl, by omega, fun m u hu => by
        have := (List.getElem?_eq_some_iff.1 hu).1
        omega⟩
    · rw [if_neg hz] at ha
      rw [ha]
      refine .inr ⟨_, _, rfl, by omega, fun m u hu => ?_⟩
      have hm : m < (n - i) * 2 := by have := (List.getElem?_eq_some_iff.1 hu).1; omega
      have h5 := h.cellAt (i * 2 + m) (by omega)
      show w.cell? (((⟨g, 0, none⟩ : Addr).add (i * 2)).add m) = some u
      rw [add_zero_off]
      have e2 : (⟨g, i * 2, none⟩ : Addr).add m = ⟨g, i * 2 + m, none⟩ := by
        unfold Addr.add
        split
        · rename_i hz; rw [hz]; rfl
        · rfl
      rw [e2, h5, ← hu]
      have e : d.flatMap entRow = (d.take i).flatMap entRow ++ (d.drop i).flatMap entRow := by rw [← List.flatMap_append, List.take_append_drop]
      have hl2 : ((d.take i).flatMap entRow).length = i * 2 := by rw [length_flatMap_row entRow 2 entRow_len, List.length_take, Nat.min_eq_left (by omega)]
      rw [e, List.getElem?_append_right (by omega), hl2]
      congr 1
      omega
end Go.Proofs.Ytcicnjlkcbimgaa

/- corncribref07: with, Turn. -/
namespace Go.Proofs.Ytcicnjlkcbimgaa
open Go.RowKit Go.WideShapes Go.WideAt
theorem less_before : ∀ a b : List UInt8, Op.bytesLess a b = bytesBefore a b
  | [], [] => rfl
  | [], _ :: _ => rfl
  | _ :: _, [] => rfl
  | a :: r, b :: s => by
    simp only [Op.bytesLess, bytesBefore, less_before r s]
theorem row_cap7 {w : World} {base n c : Nat} {a : Option Addr} {e : TypeId} {sz : Nat} {xs : List Value} (h : w.ownsRow base e sz (.slice a n c) n xs) : n ≤ c := by
  rcases h.2 with ⟨e, h0⟩ | ⟨g, cap, cur, e, _, _, h1, _⟩
  · omega
  · simp only [Value.slice.injEq] at e
    omega
theorem take_while_at {α : Type} (p : α → Bool) : ∀ (l : List α) (i : Nat), i ≤ l.length → (∀ x ∈ l.take i, p x = true) → (i = l.length ∨ ∃ x, l[i]? = some x ∧ p x = false) → l.takeWhile p = l.take i ∧ l.dropWhile p = l.drop i
  | [], i, hi, _, _ => by simp at hi; subst hi; simp
  | a :: l, 0, _, _, h2 => by
    rcases h2 with h2 | ⟨x, hx, hp⟩
    · simp at h2
    · simp at hx
      subst hx
      simp [List.takeWhile_cons, List.dropWhile_cons, hp]
  | a :: l, i + 1, hi, h1, h2 => by
    have ha : p a = true := h1 a (by simp)
    have := take_while_at p l i (by simpa using hi) (fun x hx => h1 x (by simp [hx])) (by
      rcases h2 with h2 | ⟨x, hx, hp⟩
      · exact .inl (by simpa using h2)
      · exact .inr ⟨x, by simpa using hx, hp⟩)
    simp [List.takeWhile_cons, List.dropWhile_cons, ha, this.1, this.2]
theorem put_split {l : Dir} {s : Nm} {f i : Nat} (hi : i ≤ (dirDel l s).length) (h1 : ∀ p ∈ (dirDel l s).take i, bytesBefore p.1 s = true) (h2 : i = (dirDel l s).length ∨ ∃ p, (dirDel l s)[i]? = some p ∧ bytesBefore p.1 s = false) :
    dirPut l s f = (dirDel l s).take i ++ (s, f) :: (dirDel l s).drop i := by
  unfold dirPut
  rw [ins_split (s, f) _ (fun p hp => (mem_del.1 hp).2)]
  obtain ⟨e1, e2⟩ := take_while_at (fun p : Nm × Nat => bytesBefore p.1 s) _ i hi h1 h2
  show (dirDel l s).takeWhile (fun p => bytesBefore p.1 s) ++ (s, f) :: (dirDel l s).dropWhile (fun p => bytesBefore p.1 s) = _
  rw [e1, e2]
set_option maxRecDepth 100000 in
set_option maxHeartbeats 4000000 in
theorem with07_any (a : Option Addr) (n c : Nat) (l : Dir) (s : Nm) (f : Nat) (w : World) (hl : l.length = n) (hr : Reads w 2 (.slice a n c) n (l.flatMap entRow)) (hn : n ≤ 4096) :
    Calls Try.prog 65 #[.slice a n c, .string ⟨s.toArray⟩, .int .i64 f] w fun e w' => ∃ v, e = .returned v ∧ w'.ownsRow w.heap.size 72 2 v (dirPut l s f).length ((dirPut l s f).flatMap entRow) ∧ Below w.heap.size w w' := by
  have HL := Lib.hid hl
  have HR := Lib.hid hr
  obtain ⟨i0, hi, hz0, hz1, hz2⟩ := info_parts entry_info
  have HI := Lib.hid hi
  have HZ0 := Lib.hid hz0
  have HZ1 := Lib.hid hz1
  have HZ2 := Lib.hid hz2
  clear hi hz0 hz1 hz2 hl hr
  go_enter Try.func65, Try.ntmps65
  go_wp2_with fail
  refine (without07_any a n c l s _ HL.out HR.out hn).mono ?_
  rintro e w1 ⟨v1, rfl, ho1, hb1⟩
  obtain ⟨a1, c1, rfl⟩ := ownsRow_len ho1
  have HPS := Lib.hid (fun i hi h1 h2 => put_split (l := l) (s := s) (f := f) (i := i) hi h1 h2)
  have hdn : (dirDel l s).length ≤ 4096 := by have := len_del l s; have := HL.out; omega
  obtain ⟨d, hd⟩ : ∃ d, d = dirDel l s := ⟨_, rfl⟩
  rw [← hd] at ho1 HPS hdn ⊢
  obtain ⟨m, hm⟩ : ∃ m, m = d.length := ⟨_, rfl⟩
  rw [← hm] at ho1 HPS hdn ⊢
  have HM := Lib.hid hm.symm
  have HO1 := Lib.hid ho1
  have HB1 := Lib.hid hb1
  have hz1 := hb1.size
  clear ho1 hb1 hd hm
  go_wp2_with fail
  go_loopw [7] (fun i wr => ∃ k : Nat, k ≤ m ∧ i = .int .i64 k ∧ (∀ p ∈ d.take k, bytesBefore p.1 s = true) ∧ w1 = wr) (fun i _ => m - (intOf i).toNat)
  case atStart => exact ⟨0, Nat.zero_le _, rfl, fun p hp => by simp at hp, rfl⟩
  case round =>
    obtain ⟨k, hk, rfl, hno, rfl⟩ := hrel
    have HNO := Lib.hid hno
    clear hno
    by_cases hlt : k < m
    · obtain ⟨x, hx⟩ : ∃ x, d[k]? = some x := ⟨_, List.getElem?_eq_getElem (by rw [HM.out]; exact hlt)⟩
      obtain ⟨b, o, cc, e, hbl, x0, x1⟩ := ent_at (reads_of_owns HO1.out) hx (by omega)
      obtain ⟨rfl, -, rfl⟩ := sl_inj e
      have HX := Lib.hid hx
      have hk0 : (0 : Int) ≤ (k : Int) := by omega
      have hk1 : (k : Int) < (m : Int) := by omega
      clear hx e
      obtain ⟨t, g⟩ := x
      simp only at x0 x1
      by_cases hb : bytesBefore t s = true
      · have hbl2 : Op.bytesLess t s = true := by rw [less_before]; exact hb
        have HNO2 := Lib.hid (show ∀ p ∈ d.take (k + 1), bytesBefore p.1 s = true from fun p hp => by
          rw [take_snoc_at d k _ HX.out] at hp
          rcases List.mem_append.1 hp with hp | hp
          · exact HNO.out p hp
          · obtain rfl : p = _ := List.mem_singleton.1 hp
            exact hb)
        clear hb
        go_wp2_with fail
        go_roundw
        case rel => exact ⟨k + 1, by omega, by go_num, HNO2.out, trivial⟩
        case measure => simp [intOf]; omega
      · have hbf : bytesBefore t s = false := by simpa using hb
        have hbl2 : Op.bytesLess t s = false := by rw [less_before]; exact hbf
        have HSP := Lib.hid (HPS.out k hk HNO.out (.inr ⟨_, HX.out, hbf⟩))
        clear hb hbf
        have HRUN1 := Lib.hid (run_prefixK 60 72 2 Try.underlying60 ent_size (some ⟨b, o, none⟩) m c1 k (row_addr7 HO1.out) (by have := row_cap7 HO1.out; omega))
        have hrun1 := HRUN1.out
        obtain ⟨a2, hrun2⟩ : ∃ a2, ∀ W, (Instr.slice 60 (.slice (some ⟨b, o, none⟩) m c1) (some (.int .i64 k)) none none).run Try.prog W = .ok (.slice a2 (m - k) (c1 - k)) W ∧ a2 = (if c1 = k then (some ⟨b, o, none⟩ : Option Addr) else (some ⟨b, o, none⟩ : Option Addr).map (·.add (k * 2))) := ⟨_, fun W => by
          obtain ⟨a', h1, h2⟩ := run_suffixK 60 72 2 Try.underlying60 ent_size (some ⟨b, o, none⟩) m c1 k hk (row_cap7 HO1.out) W
          rw [h2] at h1
          exact ⟨h1, rfl⟩⟩
        have ha2 := (hrun2 w1).2
        have hrun3 := fun W => (hrun2 W).1
        have HR1 := Lib.hid (pre_reads (i := k) HO1.out HM.out hk)
        have HR2 := Lib.hid (suf_reads (i := k) HO1.out HM.out hk ha2 rfl)
        have ht1 : (d.take k).length = k := by rw [List.length_take, HM.out]; omega
        have ht2 : (d.drop k).length = m - k := by rw [List.length_drop, HM.out]
        have HT1 := Lib.hid ht1
        have HT2 := Lib.hid ht2
        clear hrun2 ha2 ht1 ht2
        go_upto_region 6 with (at_builtin; refine wpList_append_reads _ rfl _ _ 60 rfl w1.heap.size 72 i0 (.agg #[.string ⟨#[]⟩, .int .i64 0]) 2 24 Try.underlying60 HI.out HZ0.out HZ1.out HZ2.out rfl (by decide) (.slice (some ⟨w1.heap.size, 0, none⟩) 0 0) 0 [] rfl (World.ownsRow_lit w1 #[] 0 (Nat.le_refl _) (by unfold maxLen; omega) rfl) (.slice (some ⟨b, o, none⟩) k c1) k _ rfl (HR1.out.below (by repeat (first | (with_reducible exact Below.refl _ _) | (with_reducible refine Below.setCell ?_ ?_ _) | (with_reducible refine Below.alloc ?_ ?_ _) | (with_reducible refine Below.drewN ?_ _) | (with_reducible refine Below.drew ?_) | (with_reducible exact Nat.le_refl _) | (focus (simp only [World.size_alloc, World.size_setCell, World.size_drew, World.size_drewN]; omega)) | omega | exact Nat.le_refl _ | (focus (simp; done)) | (focus (simp; omega))))) (ents_one _) (by unfold maxLen; omega) (by omega) (by simp) ?_; intro v2 w2 hown2 hgrow2 _; simp only [Nat.zero_add, List.nil_append] at hown2; have HB2 := Lib.hid (show Below w1.heap.size w1 w2 from Below.grown (Below.alloc (Below.refl _ _) (Nat.le_refl _) _) hgrow2 (by simp) (fun g hg => by simp [Value.ownBlock] at hg; omega)); have HO2 := Lib.hid hown2; clear hgrow2 hown2)
        have hz2 := HB2.out.size
        go_upto_region 7 with (at_builtin; refine wpList_append_reads _ rfl _ _ 60 rfl w1.heap.size 72 i0 (.agg #[.string ⟨#[]⟩, .int .i64 0]) 2 24 Try.underlying60 HI.out HZ0.out HZ1.out HZ2.out rfl (by decide) v2 k _ rfl (HO2.out.alloc _) (.slice (some ⟨w2.heap.size, 0, none⟩) 1 1) 1 [.string ⟨s.toArray⟩, .int .i64 f] rfl ⟨rfl, .inr ⟨_, _, rfl, by unfold maxLen; omega, World.news_of_block (cs := #[.string ⟨s.toArray⟩, .int .i64 f]) (t := 72) (fr := (0, 0)) (heap_new w2 _)⟩⟩ (by simp [Value.oneCell']) (by unfold maxLen; omega) (by omega) (by simp; omega) ?_; intro v3 w3 hown3 hgrow3 _; have HB3 := Lib.hid (show Below w1.heap.size w1 w3 from Below.grown (HB2.out.alloc (by omega) _) hgrow3 (by simp; omega) (fun g hg => (HO2.out.lt g hg).1)); have HO3 := Lib.hid hown3; clear hgrow3 hown3)
        have hz3 := HB3.out.size
        go_wp2_with (at_builtin; refine wpList_append_reads _ rfl _ _ 60 rfl w1.heap.size 72 i0 (.agg #[.string ⟨#[]⟩, .int .i64 0]) 2 24 Try.underlying60 HI.out HZ0.out HZ1.out HZ2.out rfl (by decide) v3 (k + 1) _ rfl HO3.out (.slice a2 (m - k) (c1 - k)) (m - k) _ rfl (HR2.out.below HB3.out) (ents_one _) (by unfold maxLen; omega) (by omega) (by omega) ?_; intro v4 w4 hown4 hgrow4 _; have HB4 := Lib.hid (show Below w1.heap.size w1 w4 from Below.grown HB3.out hgrow4 (by omega) (fun g hg => (HO3.out.lt g hg).1)); have HO4 := Lib.hid hown4; clear hgrow4 hown4)
        go_ret
        refine ⟨_, rfl, ?_, HB1.out.trans (HB4.out.mono hz1)⟩
        have hlen : (d.take k ++ (s, f) :: d.drop k).length = k + 1 + (m - k) := by rw [List.length_append, List.length_cons, HT1.out, HT2.out]; omega
        rw [HSP.out, hlen]
        refine ownsRow_mono ?_ hz1
        simpa [entRow, List.flatMap_append, List.flatMap_cons] using HO4.out
    · have hkn : decide ((k : Int) < (m : Int)) = false := by simp; omega
      have HSP := Lib.hid (HPS.out k hk HNO.out (.inl (by omega)))
      have HRUN1 := Lib.hid (run_prefixK 60 72 2 Try.underlying60 ent_size a1 m c1 k (row_addr7 HO1.out) (by have := row_cap7 HO1.out; omega))
      have hrun1 := HRUN1.out
      obtain ⟨a2, hrun2⟩ : ∃ a2, ∀ W, (Instr.slice 60 (.slice a1 m c1) (some (.int .i64 k)) none none).run Try.prog W = .ok (.slice a2 (m - k) (c1 - k)) W ∧ a2 = (if c1 = k then a1 else a1.map (·.add (k * 2))) := ⟨_, fun W => by
        obtain ⟨a', h1, h2⟩ := run_suffixK 60 72 2 Try.underlying60 ent_size a1 m c1 k hk (row_cap7 HO1.out) W
        rw [h2] at h1
        exact ⟨h1, rfl⟩⟩
      have ha2 := (hrun2 w1).2
      have hrun3 := fun W => (hrun2 W).1
      have HR1 := Lib.hid (pre_reads (i := k) HO1.out HM.out hk)
      have HR2 := Lib.hid (suf_reads (i := k) HO1.out HM.out hk ha2 rfl)
      have ht1 : (d.take k).length = k := by rw [List.length_take, HM.out]; omega
      have ht2 : (d.drop k).length = m - k := by rw [List.length_drop, HM.out]
      have HT1 := Lib.hid ht1
      have HT2 := Lib.hid ht2
      clear hrun2 ha2 ht1 ht2
      go_upto_region 6 with (at_builtin; refine wpList_append_reads _ rfl _ _ 60 rfl w1.heap.size 72 i0 (.agg #[.string ⟨#[]⟩, .int .i64 0]) 2 24 Try.underlying60 HI.out HZ0.out HZ1.out HZ2.out rfl (by decide) (.slice (some ⟨w1.heap.size, 0, none⟩) 0 0) 0 [] rfl (World.ownsRow_lit w1 #[] 0 (Nat.le_refl _) (by unfold maxLen; omega) rfl) (.slice a1 k c1) k _ rfl (HR1.out.below (by repeat (first | (with_reducible exact Below.refl _ _) | (with_reducible refine Below.setCell ?_ ?_ _) | (with_reducible refine Below.alloc ?_ ?_ _) | (with_reducible refine Below.drewN ?_ _) | (with_reducible refine Below.drew ?_) | (with_reducible exact Nat.le_refl _) | (focus (simp only [World.size_alloc, World.size_setCell, World.size_drew, World.size_drewN]; omega)) | omega | exact Nat.le_refl _ | (focus (simp; done)) | (focus (simp; omega))))) (ents_one _) (by unfold maxLen; omega) (by omega) (by simp) ?_; intro v2 w2 hown2 hgrow2 _; simp only [Nat.zero_add, List.nil_append] at hown2; have HB2 := Lib.hid (show Below w1.heap.size w1 w2 from Below.grown (Below.alloc (Below.refl _ _) (Nat.le_refl _) _) hgrow2 (by simp) (fun g hg => by simp [Value.ownBlock] at hg; omega)); have HO2 := Lib.hid hown2; clear hgrow2 hown2)
      have hz2 := HB2.out.size
      go_upto_region 7 with (at_builtin; refine wpList_append_reads _ rfl _ _ 60 rfl w1.heap.size 72 i0 (.agg #[.string ⟨#[]⟩, .int .i64 0]) 2 24 Try.underlying60 HI.out HZ0.out HZ1.out HZ2.out rfl (by decide) v2 k _ rfl (HO2.out.alloc _) (.slice (some ⟨w2.heap.size, 0, none⟩) 1 1) 1 [.string ⟨s.toArray⟩, .int .i64 f] rfl ⟨rfl, .inr ⟨_, _, rfl, by unfold maxLen; omega, World.news_of_block (cs := #[.string ⟨s.toArray⟩, .int .i64 f]) (t := 72) (fr := (0, 0)) (heap_new w2 _)⟩⟩ (by simp [Value.oneCell']) (by unfold maxLen; omega) (by omega) (by simp; omega) ?_; intro v3 w3 hown3 hgrow3 _; have HB3 := Lib.hid (show Below w1.heap.size w1 w3 from Below.grown (HB2.out.alloc (by omega) _) hgrow3 (by simp; omega) (fun g hg => (HO2.out.lt g hg).1)); have HO3 := Lib.hid hown3; clear hgrow3 hown3)
      have hz3 := HB3.out.size
      go_wp2_with (at_builtin; refine wpList_append_reads _ rfl _ _ 60 rfl w1.heap.size 72 i0 (.agg #[.string ⟨#[]⟩, .int .i64 0]) 2 24 Try.underlying60 HI.out HZ0.out HZ1.out HZ2.out rfl (by decide) v3 (k + 1) _ rfl HO3.out (.slice a2 (m - k) (c1 - k)) (m - k) _ rfl (HR2.out.below HB3.out) (ents_one _) (by unfold maxLen; omega) (by omega) (by omega) ?_; intro v4 w4 hown4 hgrow4 _; have HB4 := Lib.hid (show Below w1.heap.size w1 w4 from Below.grown HB3.out hgrow4 (by omega) (fun g hg => (HO3.out.lt g hg).1)); have HO4 := Lib.hid hown4; clear hgrow4 hown4)
      go_ret
      refine ⟨_, rfl, ?_, HB1.out.trans (HB4.out.mono hz1)⟩
      have hlen : (d.take k ++ (s, f) :: d.drop k).length = k + 1 + (m - k) := by rw [List.length_append, List.length_cons, HT1.out, HT2.out]; omega
      rw [HSP.out, hlen]
      refine ownsRow_mono ?_ hz1
      simpa [entRow, List.flatMap_append, List.flatMap_cons] using HO4.out
end Go.Proofs.Ytcicnjlkcbimgaa

/- corncribref07: Turn. -/
namespace Go.Proofs.Ytcicnjlkcbimgaa
open Go.RowKit
def deedRow (x : Deed) : List Value := [.int .i64 x.kind, .string ⟨x.frm.toArray⟩, .string ⟨x.to.toArray⟩, .int .i64 x.file]
theorem deedRow_len (x : Deed) : (deedRow x).length = 4 := rfl
set_option maxRecDepth 100000 in
set_option maxHeartbeats 4000000 in
theorem turn07_any (a : Option Addr) (n c : Nat) (l : Dir) (x : Deed) (hx : x.kind ≤ 2) (w : World) (hl : l.length = n) (hr : Reads w 2 (.slice a n c) n (l.flatMap entRow)) (hn : n ≤ 4096) :
    Calls Try.prog 58 #[.slice a n c, .agg #[.int .i64 x.kind, .string ⟨x.frm.toArray⟩, .string ⟨x.to.toArray⟩, .int .i64 x.file]] w fun e w' => ∃ v, e = .returned v ∧ w'.ownsRow w.heap.size 72 2 v (x.app l).length ((x.app l).flatMap entRow) ∧ Below w.heap.size w w' := by
  obtain ⟨kd, fr, to, fl⟩ := x
  simp only at hx ⊢
  have HL := Lib.hid hl
  have HR := Lib.hid hr
  clear hl hr
  by_cases h0 : kd = 0
  · subst h0
    have HAP := Lib.hid (show (⟨0, fr, to, fl⟩ : Deed).app l = dirPut l to fl from if_pos rfl)
    go_enter Try.func58, Try.ntmps58
    go_wp2_with fail
    refine (with07_any a n c l to fl _ HL.out (HR.out.below (by repeat (first | (with_reducible exact Below.refl _ _) | (with_reducible refine Below.setCell ?_ ?_ _) | (with_reducible refine Below.alloc ?_ ?_ _) | (with_reducible refine Below.drewN ?_ _) | (with_reducible refine Below.drew ?_) | (with_reducible exact Nat.le_refl _) | (focus (simp only [World.size_alloc, World.size_setCell, World.size_drew, World.size_drewN]; omega)) | omega | exact Nat.le_refl _ | (focus (simp; done)) | (focus (simp; omega))))) hn).mono ?_
    rintro e w2 ⟨v, rfl, ho, hb⟩
    obtain ⟨a2, c2, rfl⟩ := ownsRow_len ho
    have HO := Lib.hid ho
    have HB := Lib.hid hb
    clear ho hb
    go_wp2_with fail
    go_ret
    exact ⟨_, rfl, by rw [HAP.out]; exact ownsRow_mono HO.out (by simp), Below.trans (by repeat (first | (with_reducible exact Below.refl _ _) | (with_reducible refine Below.setCell ?_ ?_ _) | (with_reducible refine Below.alloc ?_ ?_ _) | (with_reducible refine Below.drewN ?_ _) | (with_reducible refine Below.drew ?_) | (with_reducible exact Nat.le_refl _) | (focus (simp only [World.size_alloc, World.size_setCell, World.size_drew, World.size_drewN]; omega)) | omega | exact Nat.le_refl _ | (focus (simp; done)) | (focus (simp; omega)))) (HB.out.mono (by simp))⟩
  by_cases h1 : kd = 1
  · subst h1
    have HAP := Lib.hid (show (⟨1, fr, to, fl⟩ : Deed).app l = dirPut (dirDel l fr) to fl from (if_neg (show ¬ (1 : Nat) = 0 by omega)).trans (if_pos rfl))
    go_enter Try.func58, Try.ntmps58
    go_wp2_with fail
    obtain ⟨SS, HSD⟩ : ∃ SS : World → Prop, Hid (SS = fun w' => w'.cell? ⟨w.heap.size, 1, none⟩ = some (.string ⟨fr.toArray⟩) ∧ w'.cell? ⟨w.heap.size, 2, none⟩ = some (.string ⟨to.toArray⟩) ∧ w'.cell? ⟨w.heap.size, 3, none⟩ = some (.int .i64 fl)) := ⟨_, Lib.hid rfl⟩
    refine wp_region_mask0 SS [2, 5, 7] [0, 0, 2, 7, 0, 16, 0, 64, 255, 511] (.op 0 0 (.op 1 0 (.op 2 2 (.op 4 0 (.op 5 2 (.op 6 0 (.op 7 2 (.op 3 1 (.op 8 1 (.op 9 0 .nil)))))))))) (by kernel_rfl) (by kernel_rfl) rfl (by kernel_rfl) (by kernel_rfl) ?_ ?_
    focus (rw [HSD.out]; refine ⟨?_, ?_, ?_⟩ <;> go_simp)
    refine stepM0 rfl rfl (fun K hK => ?_)
    go_simp
    refine hK _ ?_
    clear hK K
    refine stepM0 rfl rfl (fun K hK => ?_)
    go_simp
    refine hK _ ?_
    clear hK K
    refine stepM2 rfl rfl ?_ (fun w1 hS => ?_) (fun K hK => ?_)
    rotate_left
    focus (rw [HSD.out] at hS; obtain ⟨s0, s1, s2⟩ := hS; go_simp; rfl)
    go_simp
    refine hK _ ?_
    clear hK K
    refine stepM0 rfl rfl (fun K hK => ?_)
    go_simp
    refine hK _ ?_
    clear hK K
    refine stepM2 rfl rfl ?_ (fun w1 hS => ?_) (fun K hK => ?_)
    rotate_left
    focus (rw [HSD.out] at hS; obtain ⟨s0, s1, s2⟩ := hS; go_simp; rfl)
    go_simp
    refine hK _ ?_
    clear hK K
    refine stepM0 rfl rfl (fun K hK => ?_)
    go_simp
    refine hK _ ?_
    clear hK K
    refine stepM2 rfl rfl ?_ (fun w1 hS => ?_) (fun K hK => ?_)
    rotate_left
    focus (rw [HSD.out] at hS; obtain ⟨s0, s1, s2⟩ := hS; go_simp; rfl)
    go_simp
    refine hK _ ?_
    clear hK K
    refine stepM1S rfl rfl (fun K hK => ?_)
    (go_wp2_with fail; refine Calls.mono (without07_any a n c l fr _ HL.out (HR.out.below (by repeat (first | (with_reducible exact Below.refl _ _) | (with_reducible refine Below.setCell ?_ ?_ _) | (with_reducible refine Below.alloc ?_ ?_ _) | (with_reducible refine Below.drewN ?_ _) | (with_reducible refine Below.drew ?_) | (with_reducible exact Nat.le_refl _) | (focus (simp only [World.size_alloc, World.size_setCell, World.size_drew, World.size_drewN]; omega)) | omega | exact Nat.le_refl _ | (focus (simp; done)) | (focus (simp; omega))))) hn) ?_; rintro e w2 ⟨v, rfl, ho, hb⟩; obtain ⟨a2, c2, rfl⟩ := ownsRow_len ho; have kb := (fun (o : Nat) => hb.cell (p := ⟨w.heap.size, o, none⟩) (by simp)); have HO := Lib.hid ho; have HB := Lib.hid (show Below w.heap.size w w2 from Below.trans (by repeat (first | (with_reducible exact Below.refl _ _) | (with_reducible refine Below.setCell ?_ ?_ _) | (with_reducible refine Below.alloc ?_ ?_ _) | (with_reducible refine Below.drewN ?_ _) | (with_reducible refine Below.drew ?_) | (with_reducible exact Nat.le_refl _) | (focus (simp only [World.size_alloc, World.size_setCell, World.size_drew, World.size_drewN]; omega)) | omega | exact Nat.le_refl _ | (focus (simp; done)) | (focus (simp; omega)))) (hb.mono (by simp))); have hz2 := hb.size; simp only [World.size_alloc, World.size_drew] at hz2; clear ho hb; go_wp2)
    refine ⟨by rw [HSD.out]; exact (by refine ⟨(kb 1).trans ?_, (kb 2).trans ?_, (kb 3).trans ?_⟩ <;> go_simp), ?_⟩
    refine stepM1 rfl rfl (by kernel_rfl) (fun K hK => ?_)
    (go_wp2_with fail; refine Calls.mono (with07_any a2 (dirDel l fr).length c2 (dirDel l fr) to fl _ rfl (reads_of_owns HO.out) (by have := len_del l fr; have := HL.out; omega)) ?_; rintro e w3 ⟨v3, rfl, ho3, hb3⟩; obtain ⟨a3, c3, rfl⟩ := ownsRow_len ho3; have HO3 := Lib.hid ho3; have HB3 := Lib.hid (HB.out.trans (hb3.mono (by omega))); clear ho3 hb3; go_wp2)
    refine stepM0 rfl rfl (fun K hK => ?_)
    go_simp
    refine hK _ ?_
    clear hK K
    try refine stepMnil0 ?_
    clear HSD SS
    go_wp2_with fail
    go_ret
    exact ⟨_, rfl, by rw [HAP.out]; exact ownsRow_mono HO3.out (by omega), HB3.out⟩
  · have h2 : kd = 2 := by omega
    subst h2
    have HAP := Lib.hid (show (⟨2, fr, to, fl⟩ : Deed).app l = dirDel l fr from (if_neg (show ¬ (2 : Nat) = 0 by omega)).trans (if_neg (show ¬ (2 : Nat) = 1 by omega)))
    clear h0 h1
    go_enter Try.func58, Try.ntmps58
    go_wp2_with fail
    refine (without07_any a n c l fr _ HL.out (HR.out.below (by repeat (first | (with_reducible exact Below.refl _ _) | (with_reducible refine Below.setCell ?_ ?_ _) | (with_reducible refine Below.alloc ?_ ?_ _) | (with_reducible refine Below.drewN ?_ _) | (with_reducible refine Below.drew ?_) | (with_reducible exact Nat.le_refl _) | (focus (simp only [World.size_alloc, World.size_setCell, World.size_drew, World.size_drewN]; omega)) | omega | exact Nat.le_refl _ | (focus (simp; done)) | (focus (simp; omega))))) hn).mono ?_
    rintro e w2 ⟨v, rfl, ho, hb⟩
    obtain ⟨a2, c2, rfl⟩ := ownsRow_len ho
    have HO := Lib.hid ho
    have HB := Lib.hid hb
    clear ho hb
    go_wp2_with fail
    go_ret
    exact ⟨_, rfl, by rw [HAP.out]; exact ownsRow_mono HO.out (by simp), Below.trans (by repeat (first | (with_reducible exact Below.refl _ _) | (with_reducible refine Below.setCell ?_ ?_ _) | (with_reducible refine Below.alloc ?_ ?_ _) | (with_reducible refine Below.drewN ?_ _) | (with_reducible refine Below.drew ?_) | (with_reducible exact Nat.le_refl _) | (focus (simp only [World.size_alloc, World.size_setCell, World.size_drew, World.size_drewN]; omega)) | omega | exact Nat.le_refl _ | (focus (simp; done)) | (focus (simp; omega)))) (HB.out.mono (by simp))⟩
end Go.Proofs.Ytcicnjlkcbimgaa

/- corncribref07: Named. -/
namespace Go.Proofs.Ytcicnjlkcbimgaa
open Go.RowKit Go.Maps
theorem named_false {s : Nm} (h : s.all okc = false) : namedB s = false := by
  unfold namedB
  rw [h]
  simp
set_option maxRecDepth 100000 in
set_option maxHeartbeats 1000000 in
theorem named07_any (s : Nm) (w : World) (hs : s.length ≤ maxLen) :
    Calls Try.prog 59 #[.string ⟨s.toArray⟩] w fun e w' => e = .returned (.bool (namedB s)) ∧ w = w' := by
  unfold maxLen at hs
  go_enter Try.func59, Try.ntmps59
  go_wp2_with fail
  go_loopw [3] (fun i wr => ∃ k : Nat, k ≤ s.length ∧ i = .int .i64 k ∧ (s.take k).all okc = true ∧ w = wr) (fun i _ => s.length - (intOf i).toNat)
  case atStart => exact ⟨0, Nat.zero_le _, rfl, rfl, rfl⟩
  case round =>
    obtain ⟨k, hk, rfl, ha, rfl⟩ := hrel
    have HA := Lib.hid ha
    clear ha
    by_cases hlt : k < s.length
    · have hlt' : (k : Int) < (s.length : Int) := by omega
      have hk0 : (0 : Int) ≤ (k : Int) := by omega
      obtain ⟨x, hx⟩ : ∃ x : Nat, s[k].toNat = x := ⟨_, rfl⟩
      have hx2 : x < 256 := by rw [← hx]; exact s[k].toNat_lt
      have HO := Lib.hid (okc_of _ x hx)
      have hb : ∀ h : k < (ByteArray.mk s.toArray).size, (ByteArray.mk s.toArray)[k]'h = s[k] := fun _ => rfl
      by_cases hok : okc s[k] = true
      · have HT := Lib.hid (show (s.take (k + 1)).all okc = true by rw [take_all_snoc s k hlt, HA.out, hok]; rfl)
        rw [HO.out] at hok
        simp at hok
        have hd := hok
        clear hok
        rcases hd with (hd | hd) | hd
        · have hd1 := hd.1
          have hd2 := hd.2
          have he : ((x : Int) == 46) = false := by simp; omega
          clear hd
          go_wp2_with fail
          go_roundw
          case rel => exact ⟨k + 1, by omega, by go_num, HT.out, trivial⟩
          case measure => simp [intOf]; omega
        · have hd1 := hd.1
          have hd2 := hd.2
          have hd3 : decide ((97 : Int) ≤ (x : Int)) = false := by simp; omega
          have he : ((x : Int) == 46) = false := by simp; omega
          clear hd
          go_wp2_with fail
          go_roundw
          case rel => exact ⟨k + 1, by omega, by go_num, HT.out, trivial⟩
          case measure => simp [intOf]; omega
        · have hd1 : decide ((97 : Int) ≤ (x : Int)) = false := by simp; omega
          have hd2 : decide ((48 : Int) ≤ (x : Int)) = false := by simp; omega
          have he : ((x : Int) == 46) = true := by simp; omega
          clear hd
          go_wp2_with fail
          go_roundw
          case rel => exact ⟨k + 1, by omega, by go_num, HT.out, trivial⟩
          case measure => simp [intOf]; omega
      · have hof : okc s[k] = false := by simpa using hok
        have HF := Lib.hid (named_false (all_false s k hlt hof))
        rw [HO.out] at hof
        simp at hof
        obtain ⟨⟨hd1, hd2⟩, hd3⟩ := hof
        have he : ((x : Int) == 46) = false := by simp; omega
        clear hok hd3
        by_cases h97 : 97 ≤ x
        · have hd4 : decide ((x : Int) ≤ 122) = false := by simp; omega
          have hd5 : decide ((x : Int) ≤ 57) = false := by simp; omega
          clear hd1 hd2
          go_wp2_with fail
          go_ret
          exact ⟨by rw [HF.out]; rfl, rfl⟩
        · have hd4 : decide ((97 : Int) ≤ (x : Int)) = false := by simp; omega
          by_cases h48 : 48 ≤ x
          · have hd5 : decide ((x : Int) ≤ 57) = false := by simp; omega
            clear hd1 hd2
            go_wp2_with fail
            go_ret
            exact ⟨by rw [HF.out]; rfl, rfl⟩
          · have hd5 : decide ((48 : Int) ≤ (x : Int)) = false := by simp; omega
            clear hd1 hd2
            go_wp2_with fail
            go_ret
            exact ⟨by rw [HF.out]; rfl, rfl⟩
    · have hkn : decide ((k : Int) < (s.length : Int)) = false := by simp; omega
      have HN := Lib.hid (show namedB s = (decide (1 ≤ s.length) && decide (s.length ≤ 32)) by
        have : s.all okc = true := by rw [← HA.out, List.take_of_length_le (by omega)]
        unfold namedB
        rw [this]
        cases s <;> simp)
      by_cases h1 : 1 ≤ s.length
      · by_cases h2 : s.length ≤ 32
        · go_wp2_with fail
          go_ret
          exact ⟨by rw [HN.out]; simp [h1, h2]; omega, rfl⟩
        · go_wp2_with fail
          go_ret
          exact ⟨by rw [HN.out]; simp [h1, h2]; omega, rfl⟩
      · go_wp2_with fail
        go_ret
        exact ⟨by rw [HN.out]; simp [h1], rfl⟩
end Go.Proofs.Ytcicnjlkcbimgaa
