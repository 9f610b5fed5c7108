/- Joined texts: Disk12, Disk13, Disk14, Disk15. -/
import Derived.Test.YtmaalbbclldnpaaGreatDoorSo6
import Derived.Shelf.SlMaps.Clone
import Derived.LoopTactic
/- Package disk: maps.Clone, SyncNames. -/
namespace Go.Proofs.YtmaalbbclldnpaaGreatDoor
open Go.RowKit Go.Maps
set_option maxRecDepth 100000 in
set_option maxHeartbeats 2000000 in
theorem dirclone_any (b : Nat) (g : Nat → Nat) (l : Dir) (w : World) (h : DirAt w b g l) :
    Calls Tryz.prog 117 #[.map (some b)] w fun e w' => e = .returned (.map (some w.heap.size)) ∧ DirAt w' w.heap.size g l ∧ Below w.heap.size w w' ∧ w.heap.size < w'.heap.size := by
  obtain ⟨es, clock, hb, F, hs, hD⟩ := h
  have hq := fun w => run_eql_map_nil_sl (P := Tryz.prog) w 98 _ _ (some b) Tryz.underlying98
  have h50 := @run_callFunc_extern Tryz.prog 136 _ Extern.MapsClone.clone Tryz.func136 (by kernel_rfl) (by kernel_rfl) (by kernel_rfl) (by kernel_rfl)
  have hrun := run_maps_clone_sl (P := Tryz.prog) w 98 hb
  have hta := fun (W : World) (v : Value) => run_typeAssert_map_sl (P := Tryz.prog) W 98 20 _ _ v Tryz.underlying98
  have HF := Lib.hid F
  have HS := Lib.hid hs
  have HD := Lib.hid hD
  clear F hs hD hb
  go_enter Tryz.func117, Tryz.ntmps117
  go_wp2
  go_ret
  exact ⟨rfl, ⟨es, clock, heap_new _ _, HF.out, HS.out, HD.out⟩, (by repeat (first | (with_reducible exact Below.refl _ _) | (with_reducible refine Below.setCell ?_ ?_ _) | (with_reducible refine Below.alloc ?_ ?_ _) | (with_reducible refine Below.drewN ?_ _) | (with_reducible refine Below.drew ?_) | (with_reducible exact Nat.le_refl _) | (focus (simp only [World.size_alloc, World.size_setCell, World.size_drew, World.size_drewN]; omega)) | omega | exact Nat.le_refl _ | (focus (simp; done)) | (focus (simp; omega)))), by simp⟩
theorem DiskAt.syncTo {w w1 w' : World} {d : Nat} {F : Nat → Prop} {q : DW} {st : Dk} (h : DiskAt w d F q st) (hb : Below w.heap.size w w1) {nb : Nat} (hnb : w.heap.size ≤ nb) (hn : DirAt w1 nb q.fb st.now) (hk : Keeps (fun k => k = d) w1 w')
    (hd : w'.heap[d]? = some (.cells #[.int .i64 st.cap, .int .i64 st.files.length, .map (some q.bn), .map (some nb), .slice none 0 0, .int .i64 st.armed] 101 (0, 0))) :
    DiskAt w' d (fun k => F k ∨ w.heap.size ≤ k) { q with bl := nb, vd := .slice none 0 0, ds := [] } { st with lasting := st.now, deeds := [] } := by
  have h1 := h.below hb
  have hh := hits_one h1.blk
  have hlt := h.now.lt
  exact ⟨hd, h1.now.hits hk hh (by simp [kindO]), hn.hits hk hh (by simp [kindO]), by show q.bn ≠ nb; omega, ⟨World.ownsRow_nil _ _ _ _, fun i x hx => by simp at hx, fun g hg => by cases hg⟩, (h1.files.hits hk hh (by simp [kindO]) (by simp [kindO])).mono (fun _ h => .inl h), .inl h.fd, .inl h.fn, .inr hnb⟩
set_option maxRecDepth 100000 in
set_option maxHeartbeats 2000000 in
theorem syncNames_any (d : Nat) (F : Nat → Prop) (q : DW) (st : Dk) (K : Nat) (w : World) (h : DiskAt w d F q st) (hok : DkOk K st) :
    Calls Tryz.prog 84 #[(.pointer (some ⟨d, 0, none⟩))] w fun e w' => e = .returned (errV st.syncNames.1) ∧ DiskTo w w' d F st.syncNames.2 := by
  have H := Lib.hid h
  have HOK := Lib.hid hok
  obtain ⟨c0, c1, c2, c3, c4, c5, cf⟩ := cells6 h.blk
  have hdl := blk_lt h.blk
  clear h hok c0 c1 c3 c4 c5 cf
  by_cases ha : st.armed = 0
  · have e : st.syncNames = (12, st) := by unfold Dk.syncNames; rw [if_pos ha]
    rw [e]
    have HA := Lib.hid ha
    clear e ha
    go_enter Tryz.func84, Tryz.ntmps84
    go_wp2_with fail
    refine (up_any d F q st _ H.out).mono ?_
    rintro e w' ⟨rfl, rfl⟩
    rw [if_pos HA.out, errV_ne (by omega)]
    go_wp2
    go_ret
    exact ⟨rfl, H.out.same⟩
  · have e : st.syncNames = (0, ({ st with lasting := st.now, deeds := [] } : Dk).did) := by unfold Dk.syncNames; rw [if_neg ha]
    rw [e]
    have HA := Lib.hid ha
    clear e ha
    go_enter Tryz.func84, Tryz.ntmps84
    go_wp2_with fail
    refine (up_any d F q st _ H.out).mono ?_
    rintro e w' ⟨rfl, rfl⟩
    rw [if_neg HA.out, errV_zero]
    go_wp2_with fail
    refine (dirclone_any q.bn q.fb st.now _ H.out.now).mono ?_
    rintro e w1 ⟨rfl, hn1, hb1, hz1⟩
    have HN1 := Lib.hid hn1
    have HB1 := Lib.hid hb1
    have HBK := Lib.hid (blk_below H.out.blk hb1)
    obtain ⟨d0, d1, d2, d3, d4, d5, df⟩ := cells6 HBK.out
    clear hn1 hb1 d0 d1 d2 d5
    go_wp2_with fail
    have hkk : Keeps (fun j => j = d) w1 ((w1.setCell ⟨d, 3, none⟩ (.map (some w.heap.size))).setCell ⟨d, 4, none⟩ (.slice none 0 0)) := (keeps_set _ _).trans (keeps_set _ _) fun _ _ e => e
    have h6 := H.out.syncTo HB1.out (Nat.le_refl _) HN1.out hkk (by simpa using blk_put (blk_put HBK.out 3 (.map (some w.heap.size))) 4 (.slice none 0 0))
    refine (did_any d _ _ _ _ h6 HOK.out.armed.1 HOK.out.armed.2).mono ?_
    rintro e w7 ⟨rfl, h7, hk7⟩
    have H7 := Lib.hid (h7.to (((keeps_below F HB1.out).trans (hkk.mono (G := F) fun _ _ e => e ▸ H.out.fd) fun _ _ h => h).trans hk7 fun _ _ e => e ▸ H.out.fd) (fun k hk => hk))
    clear h7 hk7 h6 hkk
    go_wp2_with fail
    go_ret
    exact ⟨rfl, H7.out⟩
end Go.Proofs.YtmaalbbclldnpaaGreatDoor

/- Package disk: settle. -/
namespace Go.Proofs.YtmaalbbclldnpaaGreatDoor
open Go.RowKit Go.Maps
theorem ret_int2 {k : IntKind} {a b : Int} (h : a = b) : Value.int k a = .int k b := by rw [h]
theorem keepN_le (f : DFile) (p : DPick) : keepN f p ≤ f.b.length - f.lasts := Nat.min_le_right _ _
end Go.Proofs.YtmaalbbclldnpaaGreatDoor

/- Package disk: Crash. -/
namespace Go.Proofs.YtmaalbbclldnpaaGreatDoor
open Go.RowKit Go.Maps
def DPick.row (p : DPick) : List Value := [.int .i64 p.keep, .int .u8 p.turn.toNat]
theorem DPick.row_len (p : DPick) : p.row.length = 2 := rfl
theorem run_prefixT (T e : TypeId) (hT : Tryz.prog.underlying T = some (.slice e)) (hs : ∀ W, (sizeOf e).run Tryz.prog W = .ok 1 W) (a : Option Addr) (len c n : Nat) (ha : (a = none ∧ c = 0) ∨ ∃ g, a = some ⟨g, 0, none⟩) (hn : n ≤ c) (W : World) : (Instr.slice T (.slice a len c) none (some (.int .i64 n)) none).run Tryz.prog W = .ok (.slice a n c) W := by
  have e : (if c = 0 then a else a.map (·.add (0 * 1))) = a := by
    rcases ha with ⟨rfl, _⟩ | ⟨g, rfl⟩
    · simp
    · simp [add_zero_off]
  simp [Instr.slice, run_underlying hT, Instr.sliceBounds, run_sliceBound, hs, Result.andThen, (by omega : (0 : Int) ≤ (n : Int)), (by omega : (n : Int) ≤ (c : Int))]
  simpa using e
theorem sameKey_str (a b : Nm) : (Lit.string a).sameKey (.string b) = (a == b) := rfl
theorem get_of_mem : ∀ {l : Dir} {x : Nm} {j : Nat}, l.Pairwise (fun p q => p.1 ≠ q.1) → (x, j) ∈ l → dirGet l x = some j
  | [], _, _, _, h => absurd h List.not_mem_nil
  | p :: r, x, j, hp, h => by
    obtain ⟨h1, h2⟩ := List.pairwise_cons.1 hp
    unfold dirGet
    rw [List.find?_cons]
    rcases List.mem_cons.1 h with rfl | h
    · simp
    · have : (p.1 == x) = false := beq_eq_false_iff_ne.2 (h1 _ h)
      rw [this]
      exact get_of_mem h2 h
/-- Files of which those whose names have come are settled. -/
def settleS (l : Dir) (p : DPicks) (left : Lit → Bool) (fs : List DFile) : List DFile := fs.mapIdx fun i f => if l.any (fun x => x.2 == i && !left (.string x.1)) then f.settle (p.at i) else f
theorem settleS_len (l : Dir) (p : DPicks) (left : Lit → Bool) (fs : List DFile) : (settleS l p left fs).length = fs.length := by simp [settleS]
theorem settleS_start (l : Dir) (p : DPicks) (g : Nat → Nat) (fs : List DFile) : settleS l p (Maps.has (dirD g l)) fs = fs := by
  unfold settleS
  refine List.ext_getElem? fun i => ?_
  rw [List.getElem?_mapIdx]
  cases h : fs[i]? with
  | none => rfl
  | some f =>
    have e : (l.any fun x => x.2 == i && !Maps.has (dirD g l) (.string x.1)) = false := by
      rw [List.any_eq_false]
      intro x hx
      rw [dirD_has, get_has hx]
      simp
    simp [e]
theorem settleS_end (l : Dir) (p : DPicks) (left : Lit → Bool) (fs : List DFile) (h : ∀ kl, left kl = false) : settleS l p left fs = settleAll l p fs := by
  unfold settleS settleAll
  have e : ∀ i : Nat, (l.any fun x => x.2 == i && !left (.string x.1)) = l.any fun x => x.2 == i := fun i => by
    congr 1
    funext x
    rw [h]
    simp
  simp only [e]
theorem settleS_get (l : Dir) (p : DPicks) (left : Lit → Bool) (fs : List DFile) (i : Nat) (f : DFile) (h : fs[i]? = some f) : ∃ g, (settleS l p left fs)[i]? = some g ∧ (g = f ∨ g = f.settle (p.at i)) := by
  unfold settleS
  rw [List.getElem?_mapIdx, h]
  simp only [Option.map_some, Option.some.injEq, exists_eq_left']
  split
  · exact .inr rfl
  · exact .inl rfl
theorem settleS_step (l : Dir) (p : DPicks) (left : Lit → Bool) (fs : List DFile) (x : Nm) (i : Nat) (f : DFile) (hd : l.Pairwise (fun p q => p.1 ≠ q.1)) (hx : dirGet l x = some i) (hf : (settleS l p left fs)[i]? = some f) :
    settleS l p (fun z => left z && !z.sameKey (.string x)) fs = (settleS l p left fs).set i (f.settle (p.at i)) := by
  have hm := get_mem hx
  refine List.ext_getElem? fun j => ?_
  by_cases hj : j = i
  · subst hj
    have hl : j < (settleS l p left fs).length := (List.getElem?_eq_some_iff.1 hf).1
    rw [List.getElem?_set_self hl]
    rw [settleS_len] at hl
    have h0 := List.getElem?_eq_getElem hl
    unfold settleS at hf ⊢
    rw [List.getElem?_mapIdx, h0] at hf ⊢
    simp only [Option.map_some, Option.some.injEq] at hf ⊢
    have ha : (l.any fun y => y.2 == j && !(left (.string y.1) && !(Lit.string y.1).sameKey (.string x))) = true := by
      rw [List.any_eq_true]
      exact ⟨(x, j), hm, by dsimp only; rw [sameKey_str]; simp⟩
    rw [ha, if_pos rfl]
    subst hf
    split
    · rw [settle_twice]
    · rfl
  · rw [List.getElem?_set_ne (Ne.symm hj)]
    unfold settleS
    rw [List.getElem?_mapIdx, List.getElem?_mapIdx]
    cases h : fs[j]? with
    | none => rfl
    | some y =>
      simp only [Option.map_some, Option.some.injEq]
      have hap : (l.any fun y => y.2 == j && !(left (.string y.1) && !(Lit.string y.1).sameKey (.string x))) = l.any fun y => y.2 == j && !left (.string y.1) := by
        rw [Bool.eq_iff_iff, List.any_eq_true, List.any_eq_true]
        have hk : ∀ y ∈ l, (y.2 == j && !(left (.string y.1) && !(Lit.string y.1).sameKey (.string x))) = (y.2 == j && !left (.string y.1)) := fun y hy => by
          by_cases e : y.2 = j
          · have hne : y.1 ≠ x := fun e2 => hj (by
              have := get_of_mem hd (show (y.1, y.2) ∈ l from hy)
              rw [e2, hx] at this
              simp at this
              omega)
            have : (Lit.string y.1).sameKey (.string x) = false := beq_eq_false_iff_ne.2 hne
            rw [this]
            simp
          · have : (y.2 == j) = false := beq_eq_false_iff_ne.2 e
            rw [this]
            rfl
        constructor
        · rintro ⟨y, hy, h1⟩
          exact ⟨y, hy, by rw [← hk y hy]; exact h1⟩
        · rintro ⟨y, hy, h1⟩
          exact ⟨y, hy, by rw [hk y hy]; exact h1⟩
      rw [hap]
end Go.Proofs.YtmaalbbclldnpaaGreatDoor

/- Package disk: Crash. -/
namespace Go.Proofs.YtmaalbbclldnpaaGreatDoor
open Go.RowKit Go.Maps
theorem deedsApp_snoc (xs : List Deed) (j : Nat) (x : Deed) (l : Dir) (h : xs[j]? = some x) : deedsApp (xs.take (j + 1)) l = x.app (deedsApp (xs.take j) l) := by
  rw [List.take_add_one, h]
  simp [deedsApp, List.foldl_append]
theorem keeps_grow {w w' : World} {b : Nat} (h : Keeps (fun k => k = b) w w') : w.grownBy w' (some b) := ⟨h.os, h.tape, h.output, h.size, fun i hi hne => h.block i hi fun e => hne (by rw [e])⟩
theorem settleS_bound (l : Dir) (p : DPicks) (left : Lit → Bool) {fs : List DFile} (h : ∀ f ∈ fs, f.lasts ≤ f.b.length ∧ f.b.length ≤ 16777216) {i : Nat} {g : DFile} (hg : (settleS l p left fs)[i]? = some g) : g.lasts ≤ g.b.length ∧ g.b.length ≤ 16777216 := by
  have hi : i < fs.length := by
    have := (List.getElem?_eq_some_iff.1 hg).1
    rwa [settleS_len] at this
  have hf := List.getElem?_eq_getElem hi
  have hb := h _ (List.getElem_mem hi)
  obtain ⟨g', h1, h2⟩ := settleS_get l p left fs i _ hf
  rw [hg] at h1
  cases h1
  rcases h2 with rfl | rfl
  · exact hb
  · have hk := keepN_le fs[i] (p.at i)
    rw [settle_lasts, settle_len _ _ hb.1]
    omega
theorem DiskAt.crashTo {w w1 w' : World} {d : Nat} {F : Nat → Prop} {q : DW} {st : Dk} (h : DiskAt w d F q st) (hb : Below w.heap.size w w1) {nb : Nat} (hnb : w.heap.size ≤ nb) (hn : DirAt w1 nb q.fb st.lasting) (hk : Keeps (fun k => k = d) w1 w')
    (hd : w'.heap[d]? = some (.cells #[.int .i64 st.cap, .int .i64 st.files.length, .map (some nb), .map (some q.bl), .slice none 0 0, .int .i64 (-1)] 101 (0, 0))) :
    DiskAt w' d (fun k => F k ∨ w.heap.size ≤ k) { q with bn := nb, vd := .slice none 0 0, ds := [] } ⟨st.cap, st.lasting, st.lasting, [], st.files, -1⟩ := by
  have h1 := h.below hb
  have hh := hits_one h1.blk
  have hlt := h.last.lt
  exact ⟨hd, hn.hits hk hh (by simp [kindO]), h1.last.hits hk hh (by simp [kindO]), by show nb ≠ q.bl; omega, ⟨World.ownsRow_nil _ _ _ _, fun i x hx => by simp at hx, fun g hg => by cases hg⟩, (h1.files.hits hk hh (by simp [kindO]) (by simp [kindO])).mono (fun _ h => .inl h), .inl h.fd, .inr hnb, .inl h.fl⟩
theorem pick_info : (Tryz.prog.info? 285).map (fun i => (i.zero, i.size, i.bytes)) = some (some (.agg #[.int .i64 0, .int .u8 0]), 2, 16) := by kernel_rfl
end Go.Proofs.YtmaalbbclldnpaaGreatDoor
