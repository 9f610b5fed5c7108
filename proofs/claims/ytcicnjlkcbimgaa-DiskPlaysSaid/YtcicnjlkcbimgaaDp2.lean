/- Joined texts: Ref07g, Ref07h, Ref07i, Ref07j, Ref07k, Ref07m, Ref07l. -/
import Derived.Test.YtcicnjlkcbimgaaDp1
import Derived.Test.YtcicnjlkcbimgaaDiskNilW
import Derived.Test.YtcicnjlkcbimgaaDiskAct
import Derived.Test.YtcicnjlkcbimgaaAppReads
import Derived.Test.YtcicnjlkcbimgaaBytesClone
/- corncribref07: how its disk lies in memory; Used. -/
namespace Go.Proofs.Ytcicnjlkcbimgaa
open Go.RowKit Go.Maps
/-- A row of bytes of one's own. -/
def RB (w : World) (v : Value) (b : List UInt8) : Prop := w.ownsRow 0 5 1 v b.length (b.map bv)
def fileRow (p : Value × DFile) : List Value := [p.1, .int .i64 p.2.lasts]
theorem fileRow_len (p : Value × DFile) : (fileRow p).length = 2 := rfl
def REnts (w : World) (v : Value) (l : Dir) : Prop := w.ownsRow 0 72 2 v l.length (l.flatMap entRow)
def RDeeds (w : World) (v : Value) (l : List Deed) : Prop := w.ownsRow 0 115 4 v l.length (l.flatMap deedRow)
def RFiles (w : World) (M : Nat → Prop) (v : Value) (l : List (Value × DFile)) : Prop :=
  w.ownsRow 0 70 2 v l.length (l.flatMap fileRow) ∧ ∀ p ∈ l, RB w p.1 p.2.b ∧ ∀ k, p.1.ownBlock = some k → M k
/-- The document's disk in block m; its blocks are of M. -/
def RefAt (w : World) (m : Nat) (M : Nat → Prop) (st : Dk) : Prop := ∃ (vn vl vd vf : Value) (fs : List (Value × DFile)),
  w.heap[m]? = some (.cells #[.int .i64 st.cap, vn, vl, vd, vf, .int .i64 st.armed] 64 (0, 0)) ∧
  REnts w vn st.now ∧ REnts w vl st.lasting ∧ RDeeds w vd st.deeds ∧ RFiles w M vf fs ∧ fs.map (·.2) = st.files ∧
  M m ∧ ∀ k, (vn.ownBlock = some k ∨ vl.ownBlock = some k ∨ vd.ownBlock = some k ∨ vf.ownBlock = some k) → M k
theorem RB.len {w : World} {v : Value} {b : List UInt8} (h : RB w v b) : ∃ a c, v = .slice a b.length c := by
  obtain ⟨a, c, e⟩ := ownsRow_len h
  exact ⟨a, c, e⟩
theorem RB.pre {w : World} {a : Option Addr} {n c : Nat} {b : List UInt8} (h : RB w (.slice a n c) b) (k : Nat) (hk : k ≤ b.length) : RB w (.slice a k c) (b.take k) := by
  have hl : (b.take k).length = k := by rw [List.length_take]; omega
  have hlb : n = b.length := by
    obtain ⟨a', c', e⟩ := h.len
    simp only [Value.slice.injEq] at e
    exact e.2.1
  unfold RB at h ⊢
  rw [hl]
  refine ⟨by simp; omega, ?_⟩
  rcases h.2 with ⟨e, h0⟩ | ⟨g, cap, cur, e, hg, hh, h1, h2, h3, h4⟩
  · simp only [Value.slice.injEq] at e
    obtain ⟨rfl, _, rfl⟩ := e
    exact .inl ⟨by rw [show k = 0 by omega], by omega⟩
  · simp only [Value.slice.injEq] at e
    obtain ⟨rfl, _, rfl⟩ := e
    refine .inr ⟨g, c, cur, rfl, hg, hh, by omega, h2, h3, ?_⟩
    rw [List.map_take, ← h4, List.take_take]
    congr 1
    omega
theorem RFiles.pair {w : World} {M : Nat → Prop} {v : Value} {l : List (Value × DFile)} (h : RFiles w M v l) {i : Nat} {p : Value × DFile} (hx : l[i]? = some p) : ∃ g c ab cb, v = .slice (some ⟨g, 0, none⟩) l.length c ∧ p.1 = .slice ab p.2.b.length cb ∧ i < l.length ∧ g < w.heap.size ∧ w.cell? ⟨g, i * 2, none⟩ = some (.slice ab p.2.b.length cb) ∧ w.cell? ⟨g, i * 2 + 1, none⟩ = some (.int .i64 p.2.lasts) := by
  have hi := (List.getElem?_eq_some_iff.1 hx).1
  obtain ⟨ab, cb, e⟩ := (h.2 p (List.mem_of_getElem? hx)).1.len
  rcases h.1.2 with ⟨_, h0⟩ | ⟨g, cap, cur, rfl, hg, hh, h1, h2, h3, h4⟩
  · omega
  · have key : ∀ j u, j < 2 → (fileRow p)[j]? = some u → w.cell? ⟨g, i * 2 + j, none⟩ = some u := fun j u hj hu => by
      rw [h.1.cellAt (i * 2 + j) (by omega), getElem?_flatMap_row fileRow 2 fileRow_len l i j hj, hx]
      exact hu
    exact ⟨g, cap, ab, cb, rfl, e, hi, blk_lt hh, key 0 _ (by omega) (by simp [fileRow, e]), key 1 _ (by omega) rfl⟩
theorem file_sum (st : Dk) (k : Nat) (x : Nm × Nat) (hx : st.now[k]? = some x) : ((st.now.take (k + 1)).map fun p => (st.fileAt p.2).b.length).sum = ((st.now.take k).map fun p => (st.fileAt p.2).b.length).sum + (st.fileAt x.2).b.length := by
  rw [take_snoc_at st.now k x hx]
  simp
theorem ents_cell {w : World} {v : Value} {l : Dir} (h : REnts w v l) {i : Nat} {x : Nm × Nat} (hx : l[i]? = some x) : ∃ g c, v = .slice (some ⟨g, 0, none⟩) l.length c ∧ i < l.length ∧ g < w.heap.size ∧ w.cell? ⟨g, i * 2, none⟩ = some (.string ⟨x.1.toArray⟩) ∧ w.cell? ⟨g, i * 2 + 1, none⟩ = some (.int .i64 x.2) := by
  have hi := (List.getElem?_eq_some_iff.1 hx).1
  rcases h.2 with ⟨_, h0⟩ | ⟨g, cap, cur, rfl, hg, hh, h1, h2, h3, h4⟩
  · omega
  · have key : ∀ j u, j < 2 → (entRow x)[j]? = some u → w.cell? ⟨g, i * 2 + j, none⟩ = some u := fun j u hj hu => by
      rw [World.ownsRow.cellAt h (i * 2 + j) (by omega), getElem?_flatMap_row entRow 2 entRow_len l i j hj, hx]
      exact hu
    exact ⟨g, cap, rfl, hi, blk_lt hh, key 0 _ (by omega) rfl, key 1 _ (by omega) rfl⟩
theorem files_get {fs : List (Value × DFile)} {st : Dk} (h : fs.map (·.2) = st.files) {i : Nat} (hi : i < st.files.length) : ∃ v, fs[i]? = some (v, st.fileAt i) := by
  have hl : fs.length = st.files.length := by rw [← h]; simp
  have hi' : i < fs.length := by omega
  refine ⟨fs[i].1, ?_⟩
  rw [List.getElem?_eq_getElem hi']
  congr 1
  refine Prod.ext rfl ?_
  unfold Dk.fileAt
  rw [← h, List.getElem?_map, List.getElem?_eq_getElem hi']
  rfl
theorem sum_few {K : Nat} {st : Dk} (hok : DkOk K st) (k : Nat) : ((st.now.take k).map fun p => (st.fileAt p.2).b.length).sum ≤ 64 * 16777216 := by
  have h := hok.lnow
  have key : ∀ (l : Dir), (l.map fun p => (st.fileAt p.2).b.length).sum ≤ l.length * 16777216 := by
    intro l
    induction l with
    | nil => simp
    | cons a r ih =>
      have := (hok.at a.2).2
      simp only [List.map_cons, List.sum_cons, List.length_cons]
      omega
  have h2 := key (st.now.take k)
  rw [List.length_take] at h2
  have h3 : min k st.now.length ≤ 64 := Nat.le_trans (Nat.min_le_right _ _) h
  exact Nat.le_trans h2 (Nat.mul_le_mul_right _ h3)
set_option maxRecDepth 100000 in
set_option maxHeartbeats 2000000 in
theorem rused_any (m K : Nat) (M : Nat → Prop) (st : Dk) (w : World) (h : RefAt w m M st) (hok : DkOk K st) :
    Calls Try.prog 49 #[(.pointer (some ⟨m, 0, none⟩))] w fun e w' => e = .returned (.int .i64 st.used) ∧ Below w.heap.size w w' := by
  obtain ⟨vn, vl, vd, vf, fs, hblk, hen, hel, hde, hfi, hfs, hM, hMr⟩ := h
  have HEN := Lib.hid hen
  have HFI := Lib.hid hfi
  have HFS := Lib.hid hfs
  have HOK := Lib.hid hok
  have HBLK := Lib.hid hblk
  have hlen := hok.lnow
  obtain ⟨an, cn, rfl⟩ := ownsRow_len hen
  clear hen hel hde hfi hfs hM hMr hok hblk
  go_enter Try.func49, Try.ntmps49
  go_wp2_with fail
  go_loopw [3, 4] (fun s i wr => ∃ k : Nat, k ≤ st.now.length ∧ i = .int .i64 k ∧ s = .int .i64 (((st.now.take k).map fun p => (st.fileAt p.2).b.length).sum : Nat) ∧ Below w.heap.size w wr) (fun _ i _ => st.now.length - (intOf i).toNat)
  case atStart => exact ⟨0, Nat.zero_le _, rfl, rfl, Below.refl _ _⟩
  case round =>
    obtain ⟨k, hk, rfl, rfl, hbr⟩ := hrel
    have HBR := Lib.hid hbr
    have hblk := blk_below HBLK.out hbr
    obtain ⟨c0, c1, c2, c3, c4, c5, _⟩ := cells6 hblk
    have hml := blk_lt hblk
    clear hblk hbr
    by_cases hlt : k < st.now.length
    · obtain ⟨x, hx⟩ : ∃ x, st.now[k]? = some x := ⟨_, List.getElem?_eq_getElem hlt⟩
      obtain ⟨g, c, e, _, hgl, x0, x1⟩ := ents_cell HEN.out hx
      obtain ⟨rfl, -, rfl⟩ := sl_inj e
      have hf := HOK.out.fnow _ (List.mem_of_getElem? hx)
      obtain ⟨vb, hvb⟩ := files_get HFS.out hf
      obtain ⟨gf, cf, ab, cb, rfl, _, _, hgf, y0, y1⟩ := HFI.out.pair hvb
      have hfl : fs.length = st.files.length := by rw [← HFS.out]; simp
      rw [hfl] at c4
      have HS := Lib.hid (file_sum st k x hx)
      have hsf := sum_few HOK.out k
      have hbl := (HOK.out.at x.2).2
      have hk0 : (0 : Int) ≤ (k : Int) := by omega
      have hk1 : (k : Int) < (st.now.length : Int) := by omega
      have hf0 : (0 : Int) ≤ (x.2 : Int) := by omega
      have hf1 : (x.2 : Int) < (st.files.length : Int) := by omega
      have z1 := (HBR.out.cell (p := ⟨g, k * 2 + 1, none⟩) hgl).trans x1
      have z0 := (HBR.out.cell (p := ⟨gf, x.2 * 2, none⟩) hgf).trans y0
      have hzr := HBR.out.size
      have hgl2 : g < wr.heap.size := by omega
      have hgf2 : gf < wr.heap.size := by omega
      clear hx e x0 x1 y0 y1 hvb
      obtain ⟨t, f⟩ := x
      simp only at z1 z0 hf hf0 hf1 hbl HS
      obtain ⟨sm, hsm⟩ : ∃ sm, sm = ((st.now.take k).map fun p => (st.fileAt p.2).b.length).sum := ⟨_, rfl⟩
      obtain ⟨bl, hbld⟩ : ∃ bl, bl = (st.fileAt f).b.length := ⟨_, rfl⟩
      rw [← hsm] at HS hsf ⊢
      rw [← hbld] at HS hbl z0
      clear hsm hbld
      have hw : IntKind.i64.wrap ((sm : Int) + (bl : Int)) = (sm : Int) + (bl : Int) := IntWalk.i64_in _ (by omega)
      go_wp2_with fail
      refine wp_region_now0 [4, 8, 12, 15] [(0, 0), (1, 0), (2, 0), (3, 0), (4, 2), (5, 0), (6, 0), (7, 0), (8, 2), (9, 0), (10, 0), (11, 0), (12, 2), (13, 0), (14, 0), (15, 2), (16, 0), (17, 0), (18, 0)] (by kernel_rfl) (by kernel_rfl) rfl (by kernel_rfl) ?_
      refine stepE0 rfl rfl (fun K hK => ?_)
      go_simp
      refine hK _ ?_
      clear hK K
      refine stepE0 rfl rfl (fun K hK => ?_)
      go_simp
      refine hK _ ?_
      clear hK K
      refine stepE0 rfl rfl (fun K hK => ?_)
      go_simp
      refine hK _ ?_
      clear hK K
      refine stepE0 rfl rfl (fun K hK => ?_)
      go_simp
      refine hK _ ?_
      clear hK K
      refine stepE2 rfl rfl ?_ (fun w1 hS => ?_) (fun K hK => ?_)
      rotate_left
      focus (obtain rfl : w1 = _ := hS; go_simp; rfl)
      go_simp
      refine hK _ ?_
      clear hK K
      refine stepE0 rfl rfl (fun K hK => ?_)
      go_simp
      refine hK _ ?_
      clear hK K
      refine stepE0 rfl rfl (fun K hK => ?_)
      go_simp
      refine hK _ ?_
      clear hK K
      refine stepE0 rfl rfl (fun K hK => ?_)
      go_simp
      refine hK _ ?_
      clear hK K
      refine stepE2 rfl rfl ?_ (fun w1 hS => ?_) (fun K hK => ?_)
      rotate_left
      focus (obtain rfl : w1 = _ := hS; go_simp; rfl)
      go_simp
      refine hK _ ?_
      clear hK K
      refine stepE0 rfl rfl (fun K hK => ?_)
      go_simp
      refine hK _ ?_
      clear hK K
      refine stepE0 rfl rfl (fun K hK => ?_)
      go_simp
      refine hK _ ?_
      clear hK K
      refine stepE0 rfl rfl (fun K hK => ?_)
      go_simp
      refine hK _ ?_
      clear hK K
      refine stepE2 rfl rfl ?_ (fun w1 hS => ?_) (fun K hK => ?_)
      rotate_left
      focus (obtain rfl : w1 = _ := hS; go_simp; rfl)
      go_simp
      refine hK _ ?_
      clear hK K
      refine stepE0 rfl rfl (fun K hK => ?_)
      go_simp
      refine hK _ ?_
      clear hK K
      refine stepE0 rfl rfl (fun K hK => ?_)
      go_simp
      refine hK _ ?_
      clear hK K
      refine stepE2 rfl rfl ?_ (fun w1 hS => ?_) (fun K hK => ?_)
      rotate_left
      focus (obtain rfl : w1 = _ := hS; go_simp; rfl)
      go_simp
      refine hK _ ?_
      clear hK K
      refine stepE0 rfl rfl (fun K hK => ?_)
      go_simp
      refine hK _ ?_
      clear hK K
      refine stepE0 rfl rfl (fun K hK => ?_)
      go_simp
      refine hK _ ?_
      clear hK K
      refine stepE0 rfl rfl (fun K hK => ?_)
      go_simp
      refine hK _ ?_
      clear hK K
      try refine stepEnil0 ?_
      go_wp2_with fail
      go_roundw
      case rel => exact ⟨k + 1, by omega, by go_num, by rw [HS.out]; simp [hw], HBR.out.drew⟩
      case measure => simp [intOf]; omega
    · have hkn : decide ((k : Int) < (st.now.length : Int)) = false := by simp; omega
      have HU := Lib.hid (show st.used = ((st.now.take k).map fun p => (st.fileAt p.2).b.length).sum by rw [List.take_of_length_le (by omega)]; rfl)
      go_wp2_with fail
      go_ret
      exact ⟨by rw [HU.out]; rfl, HBR.out⟩
end Go.Proofs.Ytcicnjlkcbimgaa

/- corncribref07: (*Disk).turn. -/
namespace Go.Proofs.Ytcicnjlkcbimgaa
open Go.RowKit Go.Maps
theorem deedR_info : (Try.prog.info? 115).map (fun i => (i.zero, i.size, i.bytes)) = some (some (.agg #[.int .i64 0, .string ⟨#[]⟩, .string ⟨#[]⟩, .int .i64 0]), 4, 48) := by kernel_rfl
theorem deeds_one (l : List Deed) : ∀ u ∈ l.flatMap deedRow, u.oneCell' = true := by
  intro u hu
  obtain ⟨m, _, hm⟩ := List.mem_flatMap.1 hu
  unfold deedRow at hm
  simp only [List.mem_cons, List.not_mem_nil, or_false] at hm
  rcases hm with rfl | rfl | rfl | rfl <;> rfl
def RTo (w w' : World) (m : Nat) (M : Nat → Prop) (st : Dk) : Prop := RefAt w' m (fun k => M k ∨ (w.heap.size ≤ k ∧ k < w'.heap.size)) st ∧ Keeps M w w'
theorem blk4 {w : World} {b : Nat} {t : TypeId} {v0 v1 v2 v3 : Value} (h : w.heap[b]? = some (.cells #[v0, v1, v2, v3] t (0, 0))) : w.cell? ⟨b, 0, none⟩ = some v0 ∧ w.cell? ⟨b, 1, none⟩ = some v1 ∧ w.cell? ⟨b, 2, none⟩ = some v2 ∧ w.cell? ⟨b, 3, none⟩ = some v3 := by
  have e := fun j => cell_of_row w b j _ _ _ h
  exact ⟨e 0, e 1, e 2, e 3⟩
theorem RFiles.keep {w w' : World} {M R G : Nat → Prop} {v : Value} {l : List (Value × DFile)} {n : Nat} (h : RFiles w M v l) (hk : Keeps G w w') (hh : Hits w G n) (h1 : 70 + 1 ≠ n) (h2 : 5 + 1 ≠ n) (hr : ∀ k, M k → R k) : RFiles w' R v l :=
  ⟨keep_row hk hh h.1 h1, fun p hp => ⟨keep_row hk hh (h.2 p hp).1 h2, fun k e => hr k ((h.2 p hp).2 k e)⟩⟩
theorem lit_d {w : World} {base k : Nat} (hk : w.heap.size = k) (hb : base ≤ k) : (w.alloc (.cells #[] 115)).ownsRow base 115 4 (.slice (some ⟨k, 0, none⟩) 0 0) 0 [] := by
  subst hk
  exact World.ownsRow_lit w #[] 0 hb (by unfold maxLen; omega) rfl
theorem rturn_fin {w w3 w5 : World} {m b2 : Nat} {M : Nat → Prop} {st : Dk} {x : Deed} {vn vn' vl vd vd' vf : Value} {fs : List (Value × DFile)} (hblk : w.heap[m]? = some (.cells #[.int .i64 st.cap, vn, vl, vd, vf, .int .i64 st.armed] 64 (0, 0)))
    (hM : M m) (hMr : ∀ k, (vn.ownBlock = some k ∨ vl.ownBlock = some k ∨ vd.ownBlock = some k ∨ vf.ownBlock = some k) → M k) (hel : REnts w vl st.lasting) (hfi : RFiles w M vf fs) (hfs : fs.map (·.2) = st.files) (hk3 : Keeps (fun k => k = m) w w3)
    (hnew : w3.ownsRow b2 72 2 vn' (x.app st.now).length ((x.app st.now).flatMap entRow)) (hb2 : w.heap.size ≤ b2) (hb : Below w3.heap.size w3 w5) (hde : w5.ownsRow w3.heap.size 115 4 vd' (st.deeds.length + 1) ((st.deeds ++ [x]).flatMap deedRow))
    (hm5 : w5.heap[m]? = some (.cells #[.int .i64 st.cap, vn', vl, vd, vf, .int .i64 st.armed] 64 (0, 0))) : RTo w (w5.setCell ⟨m, 3, none⟩ vd') m M { st with now := x.app st.now, deeds := st.deeds ++ [x] } := by
  have hmF : (w5.setCell ⟨m, 3, none⟩ vd').heap[m]? = some (.cells #[.int .i64 st.cap, vn', vl, vd', vf, .int .i64 st.armed] 64 (0, 0)) := by simpa using blk_put hm5 3 vd'
  have hk5 : Keeps (fun k => k = m) w5 (w5.setCell ⟨m, 3, none⟩ vd') := (Keeps.refl _ _).setCell _ _ fun _ => rfl
  have hk3F : Keeps (fun k => k = m) w3 (w5.setCell ⟨m, 3, none⟩ vd') := Keeps.trans (keeps_below _ hb) hk5 fun _ _ e => e
  have hkF : Keeps (fun k => k = m) w (w5.setCell ⟨m, 3, none⟩ vd') := Keeps.trans hk3 hk3F fun _ _ e => e
  have hh := hits_one hblk
  have hnw := ownsRow_below hnew hb
  have e1 : (72 + 1 : Nat) ≠ 64 + 1 := by decide
  have e2 : (115 + 1 : Nat) ≠ 64 + 1 := by decide
  have e3 : (70 + 1 : Nat) ≠ 64 + 1 := by decide
  have e4 : (5 + 1 : Nat) ≠ 64 + 1 := by decide
  have hnF := keep_row hk5 (hits_one hm5) hnw e1
  have hdF := keep_row hk5 (hits_one hm5) hde e2
  have hz3 := hk3.size
  have hz5 := hb.size
  refine ⟨⟨vn', vl, vd', vf, fs, hmF, ownsRow_mono hnF (Nat.zero_le _), keep_row hkF hh hel e1, ?_, hfi.keep hkF hh e3 e4 fun k e => .inl e, hfs, .inl hM, ?_⟩, Keeps.mono hkF fun k _ e => by rw [e]; exact hM⟩
  · have := ownsRow_mono hdF (Nat.zero_le _)
    unfold RDeeds
    rw [List.length_append]
    exact this
  · rintro k (e | e | e | e)
    · exact .inr ⟨by have := (hnF.lt k e).1; omega, (hnF.lt k e).2⟩
    · exact .inl (hMr k (.inr (.inl e)))
    · exact .inr ⟨by have := (hdF.lt k e).1; omega, (hdF.lt k e).2⟩
    · exact .inl (hMr k (.inr (.inr (.inr e))))
theorem hp_newd {w : World} {k : Nat} (o : Obj) (hk : w.heap.size = k) : (w.alloc o).heap[k]? = some o := by
  subst hk
  exact heap_alloc_new w o
set_option maxRecDepth 100000 in
set_option maxHeartbeats 4000000 in
theorem rturn_any (m N : Nat) (M : Nat → Prop) (st : Dk) (x : Deed) (hx : x.kind ≤ 2) (w : World) (h : RefAt w m M st) (hok : DkOk N st) (hN : N ≤ 4096) :
    Calls Try.prog 60 #[(.pointer (some ⟨m, 0, none⟩)), .agg #[.int .i64 x.kind, .string ⟨x.frm.toArray⟩, .string ⟨x.to.toArray⟩, .int .i64 x.file]] w fun e w' => e = .returned (.tuple #[]) ∧ RTo w w' m M { st with now := x.app st.now, deeds := st.deeds ++ [x] } := by
  obtain ⟨vn, vl, vd, vf, fs, hblk, hen, hel, hde, hfi, hfs, hM, hMr⟩ := h
  have HEN := Lib.hid hen
  have HEL := Lib.hid hel
  have HDE := Lib.hid hde
  have HFI := Lib.hid hfi
  have HFS := Lib.hid hfs
  have HOK := Lib.hid hok
  have HBLK := Lib.hid hblk
  have HM := Lib.hid hM
  have HMR := Lib.hid hMr
  have hlen := hok.lnow
  have hml := blk_lt hblk
  obtain ⟨an, cn, rfl⟩ := ownsRow_len hen
  obtain ⟨ad, cd, rfl⟩ := ownsRow_len hde
  obtain ⟨kd, fr, to, fl⟩ := x
  simp only at hx ⊢
  clear hen hel hde hfi hfs hM hMr hok hblk
  obtain ⟨i0, hi, hz0, hz1, hz2⟩ := info_parts deedR_info
  have HI := Lib.hid hi
  have HZ0 := Lib.hid hz0
  have HZ1 := Lib.hid hz1
  have HZ2 := Lib.hid hz2
  clear hi hz0 hz1 hz2
  go_enter Try.func60, Try.ntmps60
  go_wp2_with fail
  have hbm := blk_alloc HBLK.out (.cells #[.int .i64 kd, .string ⟨fr.toArray⟩, .string ⟨to.toArray⟩, .int .i64 fl] 115)
  have hbx := blk_new (w := w) (.cells #[.int .i64 kd, .string ⟨fr.toArray⟩, .string ⟨to.toArray⟩, .int .i64 fl] 115) rfl
  obtain ⟨SS, HSD⟩ : ∃ SS : World → Prop, Hid (SS = fun w' => w'.heap[m]? = some (.cells #[.int .i64 st.cap, .slice an st.now.length cn, vl, .slice ad st.deeds.length cd, vf, .int .i64 st.armed] 64 (0, 0)) ∧ w'.heap[w.heap.size]? = some (.cells #[.int .i64 kd, .string ⟨fr.toArray⟩, .string ⟨to.toArray⟩, .int .i64 fl] 115 (0, 0))) := ⟨_, Lib.hid rfl⟩
  refine wp_region_mask0 SS [4, 5] [0, 0, 2, 6, 14, 0, 62, 127, 255, 511] (.op 0 0 (.op 1 0 (.op 2 0 (.op 3 0 (.op 4 2 (.op 5 2 (.op 6 1 (.op 7 0 (.op 8 0 (.op 9 1 .nil)))))))))) (by kernel_rfl) (by kernel_rfl) rfl (by kernel_rfl) (by kernel_rfl) ?_ ?_
  focus (rw [HSD.out]; exact ⟨hbm, hbx⟩)
  refine stepM0 rfl rfl (fun K hK => ?_)
  go_simp
  refine hK _ ?_
  clear hK K
  refine stepM0 rfl rfl (fun K hK => ?_)
  go_simp
  refine hK _ ?_
  clear hK K
  refine stepM0 rfl rfl (fun K hK => ?_)
  go_simp
  refine hK _ ?_
  clear hK K
  refine stepM0 rfl rfl (fun K hK => ?_)
  go_simp
  refine hK _ ?_
  clear hK K
  refine stepM2 rfl rfl ?_ (fun w1 hS => ?_) (fun K hK => ?_)
  rotate_left
  focus (rw [HSD.out] at hS; obtain ⟨s0, s1, s2, s3, s4, s5, _⟩ := cells6 hS.1; obtain ⟨d0, d1, d2, d3⟩ := blk4 hS.2; go_simp; rfl)
  go_simp
  refine hK _ ?_
  clear hK K
  refine stepM2 rfl rfl ?_ (fun w1 hS => ?_) (fun K hK => ?_)
  rotate_left
  focus (rw [HSD.out] at hS; obtain ⟨s0, s1, s2, s3, s4, s5, _⟩ := cells6 hS.1; obtain ⟨d0, d1, d2, d3⟩ := blk4 hS.2; go_simp; rfl)
  go_simp
  refine hK _ ?_
  clear hK K
  refine stepM1 rfl rfl (by kernel_rfl) (fun K hK => ?_)
  (go_wp2_with fail; refine Calls.mono (turn07_any an st.now.length cn st.now ⟨kd, fr, to, fl⟩ hx _ rfl ((reads_of_owns HEN.out).below (by repeat (first | (with_reducible exact Below.refl _ _) | (with_reducible refine Below.setCell ?_ ?_ _) | (with_reducible refine Below.alloc ?_ ?_ _) | (with_reducible refine Below.drewN ?_ _) | (with_reducible refine Below.drew ?_) | (with_reducible exact Nat.le_refl _) | (focus (simp only [World.size_alloc, World.size_setCell, World.size_drew, World.size_drewN]; omega)) | omega | exact Nat.le_refl _ | (focus (simp; done)) | (focus (simp; omega))))) (by omega)) ?_; rintro e w2 ⟨v2, rfl, ho, hb⟩; obtain ⟨a2, c2, rfl⟩ := ownsRow_len ho; have hm2 := (hb.block m (by simp; omega)).trans hbm; have hx2 := (hb.block w.heap.size (by simp)).trans hbx; have HO := Lib.hid ho; have HB := Lib.hid (show Below w.heap.size w w2 from Below.trans (by repeat (first | (with_reducible exact Below.refl _ _) | (with_reducible refine Below.setCell ?_ ?_ _) | (with_reducible refine Below.alloc ?_ ?_ _) | (with_reducible refine Below.drewN ?_ _) | (with_reducible refine Below.drew ?_) | (with_reducible exact Nat.le_refl _) | (focus (simp only [World.size_alloc, World.size_setCell, World.size_drew, World.size_drewN]; omega)) | omega | exact Nat.le_refl _ | (focus (simp; done)) | (focus (simp; omega)))) (hb.mono (by simp))); have hz2 := hb.size; simp only [World.size_alloc, World.size_drew] at hz2; clear ho hb; go_wp2)
  refine stepM0 rfl rfl (fun K hK => ?_)
  go_simp
  refine hK _ ?_
  clear hK K
  refine stepM0 rfl rfl (fun K hK => ?_)
  go_simp
  refine hK _ ?_
  clear hK K
  refine stepM1 rfl rfl (by kernel_rfl) (fun K hK => ?_)
  (obtain ⟨t0, t1, t2, t3, t4, t5, tf⟩ := cells6 hm2; have tf1 := tf 1; have hml2 := blk_lt hm2; clear tf; go_wp2)
  try refine stepMnil0 ?_
  clear HSD SS
  go_wp2_with fail
  obtain ⟨w3, hw3⟩ : ∃ w3, w3 = w2.setCell ⟨m, 1, none⟩ (.slice a2 ((⟨kd, fr, to, fl⟩ : Deed).app st.now).length c2) := ⟨_, rfl⟩
  have hm3 : w3.heap[m]? = some (.cells #[.int .i64 st.cap, .slice a2 ((⟨kd, fr, to, fl⟩ : Deed).app st.now).length c2, vl, .slice ad st.deeds.length cd, vf, .int .i64 st.armed] 64 (0, 0)) := by
    rw [hw3]
    simpa using blk_put hm2 1 (.slice a2 ((⟨kd, fr, to, fl⟩ : Deed).app st.now).length c2)
  have hx3 : w3.heap[w.heap.size]? = some (.cells #[.int .i64 kd, .string ⟨fr.toArray⟩, .string ⟨to.toArray⟩, .int .i64 fl] 115) := by
    rw [hw3]
    exact blk_set hx2 _ _ (by show w.heap.size ≠ m; omega)
  have hk23 : Keeps (fun k => k = m) w2 w3 := by rw [hw3]; exact (Keeps.refl _ _).setCell _ _ fun _ => rfl
  have HK3 := Lib.hid (show Keeps (fun k => k = m) w w3 by rw [hw3]; exact (keeps_below _ HB.out).setCell _ _ fun _ => rfl)
  have HO3 := Lib.hid (keep_row hk23 (hits_one hm2) HO.out (by show (72 + 1 : Nat) ≠ 64 + 1; decide))
  have HDE3 := Lib.hid (keep_row HK3.out (hits_one HBLK.out) HDE.out (by show (115 + 1 : Nat) ≠ 64 + 1; decide))
  have hz3 := hk23.size
  have hml3 : m < w3.heap.size := by omega
  rw [← hw3]
  have hNd : st.deeds.length ≤ 4096 := by have := HOK.out.nd; omega
  clear hk23 hm2 hx2 hw3 hbm hbx
  obtain ⟨SS, HSD⟩ : ∃ SS : World → Prop, Hid (SS = fun w' => w'.heap[m]? = some (.cells #[.int .i64 st.cap, .slice a2 ((⟨kd, fr, to, fl⟩ : Deed).app st.now).length c2, vl, .slice ad st.deeds.length cd, vf, .int .i64 st.armed] 64 (0, 0)) ∧ w'.heap[w.heap.size]? = some (.cells #[.int .i64 kd, .string ⟨fr.toArray⟩, .string ⟨to.toArray⟩, .int .i64 fl] 115)) := ⟨_, Lib.hid rfl⟩
  refine wp_region_mask0 SS [5, 7] [0, 0, 0, 4, 12, 28, 62, 0, 128, 510, 1023, 2047, 4095] (.op 0 0 (.op 2 0 (.op 3 0 (.op 4 0 (.op 5 2 (.op 7 2 (.two 1 (.two 6 (.op 8 1 (.op 9 1 (.op 10 0 (.op 11 0 (.op 12 1 .nil))))) 8 (.op 6 1 (.op 9 1 (.op 10 0 (.op 11 0 (.op 12 1 .nil)))))) 8 (.op 1 1 (.op 6 1 (.op 9 1 (.op 10 0 (.op 11 0 (.op 12 1 .nil))))))))))))) (by kernel_rfl) (by kernel_rfl) rfl (by kernel_rfl) (by kernel_rfl) ?_ ?_
  focus (rw [HSD.out]; exact ⟨hm3, hx3⟩)
  refine stepM0 rfl rfl (fun K hK => ?_)
  go_simp
  refine hK _ ?_
  clear hK K
  refine stepM0 rfl rfl (fun K hK => ?_)
  go_simp
  refine hK _ ?_
  clear hK K
  refine stepM0 rfl rfl (fun K hK => ?_)
  go_simp
  refine hK _ ?_
  clear hK K
  refine stepM0 rfl rfl (fun K hK => ?_)
  go_simp
  refine hK _ ?_
  clear hK K
  refine stepM2 rfl rfl ?_ (fun w1 hS => ?_) (fun K hK => ?_)
  rotate_left
  focus (rw [HSD.out] at hS; obtain ⟨s0, s1, s2, s3, s4, s5, _⟩ := cells6 hS.1; obtain ⟨d0, d1, d2, d3⟩ := blk4 hS.2; go_simp; rfl)
  go_simp
  refine hK _ ?_
  clear hK K
  refine stepM2 rfl rfl ?_ (fun w1 hS => ?_) (fun K hK => ?_)
  rotate_left
  focus (rw [HSD.out] at hS; obtain ⟨s0, s1, s2, s3, s4, s5, _⟩ := cells6 hS.1; obtain ⟨d0, d1, d2, d3⟩ := blk4 hS.2; go_simp; rfl)
  go_simp
  refine hK _ ?_
  clear hK K
  refine stepMtwo ?_ ?_ (by kernel_rfl) (by kernel_rfl)
  ·
    refine stepM1S rfl rfl (fun K hK => ?_)
    go_wp2
    refine ⟨by rw [HSD.out]; exact ((by exact ⟨blk_alloc hm3 _, blk_alloc hx3 _⟩)), ?_⟩
    refine stepMtwo ?_ ?_ (by kernel_rfl) (by kernel_rfl)
    ·
      refine stepM1S rfl rfl (fun K hK => ?_)
      (refine wp_append_reads _ _ _ 61 rfl w3.heap.size 115 i0 (.agg #[.int .i64 0, .string ⟨#[]⟩, .string ⟨#[]⟩, .int .i64 0]) 4 48 Try.underlying61 HI.out HZ0.out HZ1.out HZ2.out rfl (by decide) (.slice (some ⟨w3.heap.size, 0, none⟩) 0 0) 0 [] rfl (lit_d rfl (Nat.le_refl _)) (.slice ad st.deeds.length cd) st.deeds.length (st.deeds.flatMap deedRow) rfl (reads_of_owns (ownsRow_below HDE3.out (by repeat (first | (with_reducible exact Below.refl _ _) | (with_reducible refine Below.setCell ?_ ?_ _) | (with_reducible refine Below.alloc ?_ ?_ _) | (with_reducible refine Below.drewN ?_ _) | (with_reducible refine Below.drew ?_) | (with_reducible exact Nat.le_refl _) | (focus (simp only [World.size_alloc, World.size_setCell, World.size_drew, World.size_drewN]; omega)) | omega | exact Nat.le_refl _ | (focus (simp; done)) | (focus (simp; omega)))))) (deeds_one st.deeds) (by unfold maxLen; omega) (by omega) (by first | omega | (simp; done) | (simp; omega)) ?_; intro v1 w1' hown1 hgrow1 hat1; have hzq1 := hgrow1.size; simp only [World.size_alloc, World.size_drew] at hzq1; have hmx := (hgrow1.block m (by first | omega | (simp; done) | (simp; omega)) (by simp [Value.ownBlock]; omega)).trans (by exact blk_alloc hm3 _); have hxx := (hgrow1.block w.heap.size (by first | omega | (simp; done) | (simp; omega)) (by simp [Value.ownBlock]; omega)).trans (by exact blk_alloc hx3 _); have HO1 := Lib.hid hown1; have HG1 := Lib.hid hgrow1; clear hown1 hgrow1 hat1; go_wp2)
      refine ⟨by rw [HSD.out]; exact ((by exact ⟨hmx, hxx⟩)), ?_⟩
      refine stepM1S rfl rfl (fun K hK => ?_)
      go_wp2
      refine ⟨by rw [HSD.out]; exact ((by exact ⟨blk_alloc hmx _, blk_alloc hxx _⟩)), ?_⟩
      refine stepM1 rfl rfl (by kernel_rfl) (fun K hK => ?_)
      (refine wp_append_lies _ _ _ 61 rfl w3.heap.size 115 i0 (.agg #[.int .i64 0, .string ⟨#[]⟩, .string ⟨#[]⟩, .int .i64 0]) 4 48 Try.underlying61 HI.out HZ0.out HZ1.out HZ2.out rfl (by decide) v1 (0 + st.deeds.length) ([] ++ st.deeds.flatMap deedRow) rfl (HO1.out.alloc _) ⟨w1'.heap.size, 0, none⟩ 1 1 [.int .i64 kd, .string ⟨fr.toArray⟩, .string ⟨to.toArray⟩, .int .i64 fl] rfl rfl (World.news_of_block (cs := #[.int .i64 kd, .string ⟨fr.toArray⟩, .string ⟨to.toArray⟩, .int .i64 fl]) (t := 115) (fr := (0, 0)) (heap_alloc_new w1' _)) (by simp [Value.oneCell']) (by omega) (by unfold maxLen; omega) (by omega) (by first | omega | (simp; done) | (simp; omega)) _ rfl ?_; intro gg cap2 w2' hown2 hgrow2 hat2 hlt2; have hzq2 := hgrow2.size; (try simp only [World.size_alloc, World.size_drew] at hzq2); have hmy := (hgrow2.block m (by first | omega | (simp; done) | (simp; omega)) (fun e => by have := (HO1.out.lt m e.symm).1; omega)).trans (by exact blk_alloc hmx _); go_wp2)
      refine stepM0 rfl rfl (fun K hK => ?_)
      go_simp
      refine hK _ ?_
      clear hK K
      refine stepM0 rfl rfl (fun K hK => ?_)
      go_simp
      refine hK _ ?_
      clear hK K
      refine stepM1 rfl rfl (by kernel_rfl) (fun K hK => ?_)
      (obtain ⟨t0, t1, t2, t3, t4, t5, tf⟩ := cells6 hmy; have tf3 := tf 3; have hmly := blk_lt hmy; clear tf; go_wp2)
      try refine stepMnil0 ?_
      clear HSD SS
      go_wp2_with fail
      go_end0
      refine ⟨rfl, rturn_fin HBLK.out HM.out HMR.out HEL.out HFI.out HFS.out HK3.out HO3.out (by simp) ?_ (by simpa [deedRow] using hown2) hmy⟩
      refine Below.grown ?_ hgrow2 (by first | omega | (simp; done) | (simp; omega)) (fun q hq => (HO1.out.lt q hq).1)
      first | exact Below.grown (by repeat (first | (with_reducible exact Below.refl _ _) | (with_reducible refine Below.setCell ?_ ?_ _) | (with_reducible refine Below.alloc ?_ ?_ _) | (with_reducible refine Below.drewN ?_ _) | (with_reducible refine Below.drew ?_) | (with_reducible exact Nat.le_refl _) | (focus (simp only [World.size_alloc, World.size_setCell, World.size_drew, World.size_drewN]; omega)) | omega | exact Nat.le_refl _ | (focus (simp; done)) | (focus (simp; omega)))) HG1.out (by first | omega | (simp; done) | (simp; omega)) (by simp [Value.ownBlock]) | exact (Below.grown (by repeat (first | (with_reducible exact Below.refl _ _) | (with_reducible refine Below.setCell ?_ ?_ _) | (with_reducible refine Below.alloc ?_ ?_ _) | (with_reducible refine Below.drewN ?_ _) | (with_reducible refine Below.drew ?_) | (with_reducible exact Nat.le_refl _) | (focus (simp only [World.size_alloc, World.size_setCell, World.size_drew, World.size_drewN]; omega)) | omega | exact Nat.le_refl _ | (focus (simp; done)) | (focus (simp; omega)))) HG1.out (by first | omega | (simp; done) | (simp; omega)) (by simp [Value.ownBlock])).alloc (by omega) _
    ·
      refine stepM1S rfl rfl (fun K hK => ?_)
      go_wp2
      refine ⟨by rw [HSD.out]; exact ((by exact ⟨blk_alloc (blk_alloc hm3 _) _, blk_alloc (blk_alloc hx3 _) _⟩)), ?_⟩
      refine stepM1S rfl rfl (fun K hK => ?_)
      (refine wp_append_reads _ _ _ 61 rfl w3.heap.size 115 i0 (.agg #[.int .i64 0, .string ⟨#[]⟩, .string ⟨#[]⟩, .int .i64 0]) 4 48 Try.underlying61 HI.out HZ0.out HZ1.out HZ2.out rfl (by decide) (.slice (some ⟨w3.heap.size, 0, none⟩) 0 0) 0 [] rfl ((lit_d rfl (Nat.le_refl _)).alloc (.cells #[.int .i64 kd, .string ⟨fr.toArray⟩, .string ⟨to.toArray⟩, .int .i64 fl] 115)) (.slice ad st.deeds.length cd) st.deeds.length (st.deeds.flatMap deedRow) rfl (reads_of_owns (ownsRow_below HDE3.out (by repeat (first | (with_reducible exact Below.refl _ _) | (with_reducible refine Below.setCell ?_ ?_ _) | (with_reducible refine Below.alloc ?_ ?_ _) | (with_reducible refine Below.drewN ?_ _) | (with_reducible refine Below.drew ?_) | (with_reducible exact Nat.le_refl _) | (focus (simp only [World.size_alloc, World.size_setCell, World.size_drew, World.size_drewN]; omega)) | omega | exact Nat.le_refl _ | (focus (simp; done)) | (focus (simp; omega)))))) (deeds_one st.deeds) (by unfold maxLen; omega) (by omega) (by first | omega | (simp; done) | (simp; omega)) ?_; intro v1 w1' hown1 hgrow1 hat1; have hzq1 := hgrow1.size; simp only [World.size_alloc, World.size_drew] at hzq1; have hmx := (hgrow1.block m (by first | omega | (simp; done) | (simp; omega)) (by simp [Value.ownBlock]; omega)).trans (by exact blk_alloc (blk_alloc hm3 _) _); have hxx := (hgrow1.block w.heap.size (by first | omega | (simp; done) | (simp; omega)) (by simp [Value.ownBlock]; omega)).trans (by exact blk_alloc (blk_alloc hx3 _) _); have hev1 := (hgrow1.block (w3.heap.size + 1) (by first | omega | (simp; done) | (simp; omega)) (by simp [Value.ownBlock])).trans (by exact hp_newd (w := w3.alloc (.cells #[] 115)) (.cells #[.int .i64 kd, .string ⟨fr.toArray⟩, .string ⟨to.toArray⟩, .int .i64 fl] 115) (by simp)); have HO1 := Lib.hid hown1; have HG1 := Lib.hid hgrow1; clear hown1 hgrow1 hat1; go_wp2)
      refine ⟨by rw [HSD.out]; exact ((by exact ⟨hmx, hxx⟩)), ?_⟩
      refine stepM1 rfl rfl (by kernel_rfl) (fun K hK => ?_)
      (refine wp_append_lies _ _ _ 61 rfl w3.heap.size 115 i0 (.agg #[.int .i64 0, .string ⟨#[]⟩, .string ⟨#[]⟩, .int .i64 0]) 4 48 Try.underlying61 HI.out HZ0.out HZ1.out HZ2.out rfl (by decide) v1 (0 + st.deeds.length) ([] ++ st.deeds.flatMap deedRow) rfl HO1.out ⟨w3.heap.size + 1, 0, none⟩ 1 1 [.int .i64 kd, .string ⟨fr.toArray⟩, .string ⟨to.toArray⟩, .int .i64 fl] rfl rfl (World.news_of_block (cs := #[.int .i64 kd, .string ⟨fr.toArray⟩, .string ⟨to.toArray⟩, .int .i64 fl]) (t := 115) (fr := (0, 0)) (hev1)) (by simp [Value.oneCell']) (by omega) (by unfold maxLen; omega) (by omega) (by first | omega | (simp; done) | (simp; omega)) _ rfl ?_; intro gg cap2 w2' hown2 hgrow2 hat2 hlt2; have hzq2 := hgrow2.size; (try simp only [World.size_alloc, World.size_drew] at hzq2); have hmy := (hgrow2.block m (by first | omega | (simp; done) | (simp; omega)) (fun e => by have := (HO1.out.lt m e.symm).1; omega)).trans (by exact hmx); go_wp2)
      refine stepM0 rfl rfl (fun K hK => ?_)
      go_simp
      refine hK _ ?_
      clear hK K
      refine stepM0 rfl rfl (fun K hK => ?_)
      go_simp
      refine hK _ ?_
      clear hK K
      refine stepM1 rfl rfl (by kernel_rfl) (fun K hK => ?_)
      (obtain ⟨t0, t1, t2, t3, t4, t5, tf⟩ := cells6 hmy; have tf3 := tf 3; have hmly := blk_lt hmy; clear tf; go_wp2)
      try refine stepMnil0 ?_
      clear HSD SS
      go_wp2_with fail
      go_end0
      refine ⟨rfl, rturn_fin HBLK.out HM.out HMR.out HEL.out HFI.out HFS.out HK3.out HO3.out (by simp) ?_ (by simpa [deedRow] using hown2) hmy⟩
      refine Below.grown ?_ hgrow2 (by first | omega | (simp; done) | (simp; omega)) (fun q hq => (HO1.out.lt q hq).1)
      first | exact Below.grown (by repeat (first | (with_reducible exact Below.refl _ _) | (with_reducible refine Below.setCell ?_ ?_ _) | (with_reducible refine Below.alloc ?_ ?_ _) | (with_reducible refine Below.drewN ?_ _) | (with_reducible refine Below.drew ?_) | (with_reducible exact Nat.le_refl _) | (focus (simp only [World.size_alloc, World.size_setCell, World.size_drew, World.size_drewN]; omega)) | omega | exact Nat.le_refl _ | (focus (simp; done)) | (focus (simp; omega)))) HG1.out (by first | omega | (simp; done) | (simp; omega)) (by simp [Value.ownBlock]) | exact (Below.grown (by repeat (first | (with_reducible exact Below.refl _ _) | (with_reducible refine Below.setCell ?_ ?_ _) | (with_reducible refine Below.alloc ?_ ?_ _) | (with_reducible refine Below.drewN ?_ _) | (with_reducible refine Below.drew ?_) | (with_reducible exact Nat.le_refl _) | (focus (simp only [World.size_alloc, World.size_setCell, World.size_drew, World.size_drewN]; omega)) | omega | exact Nat.le_refl _ | (focus (simp; done)) | (focus (simp; omega)))) HG1.out (by first | omega | (simp; done) | (simp; omega)) (by simp [Value.ownBlock])).alloc (by omega) _
  ·
    refine stepM1S rfl rfl (fun K hK => ?_)
    go_wp2
    refine ⟨by rw [HSD.out]; exact ((by exact ⟨blk_alloc hm3 _, blk_alloc hx3 _⟩)), ?_⟩
    refine stepM1S rfl rfl (fun K hK => ?_)
    go_wp2
    refine ⟨by rw [HSD.out]; exact ((by exact ⟨blk_alloc (blk_alloc hm3 _) _, blk_alloc (blk_alloc hx3 _) _⟩)), ?_⟩
    refine stepM1S rfl rfl (fun K hK => ?_)
    (refine wp_append_reads _ _ _ 61 rfl w3.heap.size 115 i0 (.agg #[.int .i64 0, .string ⟨#[]⟩, .string ⟨#[]⟩, .int .i64 0]) 4 48 Try.underlying61 HI.out HZ0.out HZ1.out HZ2.out rfl (by decide) (.slice (some ⟨w3.heap.size + 1, 0, none⟩) 0 0) 0 [] rfl (lit_d (by simp) (by omega)) (.slice ad st.deeds.length cd) st.deeds.length (st.deeds.flatMap deedRow) rfl (reads_of_owns (ownsRow_below HDE3.out (by repeat (first | (with_reducible exact Below.refl _ _) | (with_reducible refine Below.setCell ?_ ?_ _) | (with_reducible refine Below.alloc ?_ ?_ _) | (with_reducible refine Below.drewN ?_ _) | (with_reducible refine Below.drew ?_) | (with_reducible exact Nat.le_refl _) | (focus (simp only [World.size_alloc, World.size_setCell, World.size_drew, World.size_drewN]; omega)) | omega | exact Nat.le_refl _ | (focus (simp; done)) | (focus (simp; omega)))))) (deeds_one st.deeds) (by unfold maxLen; omega) (by omega) (by first | omega | (simp; done) | (simp; omega)) ?_; intro v1 w1' hown1 hgrow1 hat1; have hzq1 := hgrow1.size; simp only [World.size_alloc, World.size_drew] at hzq1; have hmx := (hgrow1.block m (by first | omega | (simp; done) | (simp; omega)) (by simp [Value.ownBlock]; omega)).trans (by exact blk_alloc (blk_alloc hm3 _) _); have hxx := (hgrow1.block w.heap.size (by first | omega | (simp; done) | (simp; omega)) (by simp [Value.ownBlock]; omega)).trans (by exact blk_alloc (blk_alloc hx3 _) _); have hev1 := (hgrow1.block w3.heap.size (by first | omega | (simp; done) | (simp; omega)) (by simp [Value.ownBlock])).trans (by exact blk_alloc (heap_alloc_new w3 (.cells #[.int .i64 kd, .string ⟨fr.toArray⟩, .string ⟨to.toArray⟩, .int .i64 fl] 115)) _); have HO1 := Lib.hid hown1; have HG1 := Lib.hid hgrow1; clear hown1 hgrow1 hat1; go_wp2)
    refine ⟨by rw [HSD.out]; exact ((by exact ⟨hmx, hxx⟩)), ?_⟩
    refine stepM1 rfl rfl (by kernel_rfl) (fun K hK => ?_)
    (refine wp_append_lies _ _ _ 61 rfl w3.heap.size 115 i0 (.agg #[.int .i64 0, .string ⟨#[]⟩, .string ⟨#[]⟩, .int .i64 0]) 4 48 Try.underlying61 HI.out HZ0.out HZ1.out HZ2.out rfl (by decide) v1 (0 + st.deeds.length) ([] ++ st.deeds.flatMap deedRow) rfl HO1.out ⟨w3.heap.size, 0, none⟩ 1 1 [.int .i64 kd, .string ⟨fr.toArray⟩, .string ⟨to.toArray⟩, .int .i64 fl] rfl rfl (World.news_of_block (cs := #[.int .i64 kd, .string ⟨fr.toArray⟩, .string ⟨to.toArray⟩, .int .i64 fl]) (t := 115) (fr := (0, 0)) (hev1)) (by simp [Value.oneCell']) (by omega) (by unfold maxLen; omega) (by omega) (by first | omega | (simp; done) | (simp; omega)) _ rfl ?_; intro gg cap2 w2' hown2 hgrow2 hat2 hlt2; have hzq2 := hgrow2.size; (try simp only [World.size_alloc, World.size_drew] at hzq2); have hmy := (hgrow2.block m (by first | omega | (simp; done) | (simp; omega)) (fun e => by have := (HO1.out.lt m e.symm).1; omega)).trans (by exact hmx); go_wp2)
    refine stepM0 rfl rfl (fun K hK => ?_)
    go_simp
    refine hK _ ?_
    clear hK K
    refine stepM0 rfl rfl (fun K hK => ?_)
    go_simp
    refine hK _ ?_
    clear hK K
    refine stepM1 rfl rfl (by kernel_rfl) (fun K hK => ?_)
    (obtain ⟨t0, t1, t2, t3, t4, t5, tf⟩ := cells6 hmy; have tf3 := tf 3; have hmly := blk_lt hmy; clear tf; go_wp2)
    try refine stepMnil0 ?_
    clear HSD SS
    go_wp2_with fail
    go_end0
    refine ⟨rfl, rturn_fin HBLK.out HM.out HMR.out HEL.out HFI.out HFS.out HK3.out HO3.out (by simp) ?_ (by simpa [deedRow] using hown2) hmy⟩
    refine Below.grown ?_ hgrow2 (by first | omega | (simp; done) | (simp; omega)) (fun q hq => (HO1.out.lt q hq).1)
    first | exact Below.grown (by repeat (first | (with_reducible exact Below.refl _ _) | (with_reducible refine Below.setCell ?_ ?_ _) | (with_reducible refine Below.alloc ?_ ?_ _) | (with_reducible refine Below.drewN ?_ _) | (with_reducible refine Below.drew ?_) | (with_reducible exact Nat.le_refl _) | (focus (simp only [World.size_alloc, World.size_setCell, World.size_drew, World.size_drewN]; omega)) | omega | exact Nat.le_refl _ | (focus (simp; done)) | (focus (simp; omega)))) HG1.out (by first | omega | (simp; done) | (simp; omega)) (by simp [Value.ownBlock]) | exact (Below.grown (by repeat (first | (with_reducible exact Below.refl _ _) | (with_reducible refine Below.setCell ?_ ?_ _) | (with_reducible refine Below.alloc ?_ ?_ _) | (with_reducible refine Below.drewN ?_ _) | (with_reducible refine Below.drew ?_) | (with_reducible exact Nat.le_refl _) | (focus (simp only [World.size_alloc, World.size_setCell, World.size_drew, World.size_drewN]; omega)) | omega | exact Nat.le_refl _ | (focus (simp; done)) | (focus (simp; omega)))) HG1.out (by first | omega | (simp; done) | (simp; omega)) (by simp [Value.ownBlock])).alloc (by omega) _
end Go.Proofs.Ytcicnjlkcbimgaa

/- corncribref07: (*Disk).write. -/
namespace Go.Proofs.Ytcicnjlkcbimgaa
open Go.RowKit Go.Maps
/-- An act as a value. -/
def actV (a : DAct) (ab af : Option Addr) (cb cf : Nat) : Value := .agg #[.int .i64 a.kind, .string ⟨a.name.toArray⟩, .string ⟨a.to.toArray⟩, .slice ab a.b.length cb, .int .i64 a.n, .int .i64 a.m, .int .i64 a.p.names, .slice af a.p.files.length cf]
theorem rset_fin {w w2 : World} {m gf cg f : Nat} {M : Nat → Prop} {st : Dk} {vn vl vd vb : Value} {fs : List (Value × DFile)} {x : DFile} (hblk : w.heap[m]? = some (.cells #[.int .i64 st.cap, vn, vl, vd, .slice (some ⟨gf, 0, none⟩) fs.length cg, .int .i64 st.armed] 64 (0, 0)))
    (hM : M m) (hMr : ∀ k, (vn.ownBlock = some k ∨ vl.ownBlock = some k ∨ vd.ownBlock = some k ∨ (Value.slice (some ⟨gf, 0, none⟩) fs.length cg).ownBlock = some k) → M k) (hen : REnts w vn st.now) (hel : REnts w vl st.lasting) (hde : RDeeds w vd st.deeds) (hfi : RFiles w M (.slice (some ⟨gf, 0, none⟩) fs.length cg) fs) (hfs : fs.map (·.2) = st.files)
    (hf : f < fs.length) (hb : Below w.heap.size w w2) (hrb : RB w2 vb x.b) (hvb : ∀ k, vb.ownBlock = some k → M k ∨ w.heap.size ≤ k) :
    RTo w ((w2.setCell ⟨gf, f * 2, none⟩ vb).setCell ⟨gf, f * 2 + 1, none⟩ (.int .i64 x.lasts)) m M (st.setF f x) := by
  have hgM : M gf := hMr gf (.inr (.inr (.inr rfl)))
  have hk2 : Keeps (fun k => k = gf) w2 ((w2.setCell ⟨gf, f * 2, none⟩ vb).setCell ⟨gf, f * 2 + 1, none⟩ (.int .i64 x.lasts)) := Keeps.setCell (Keeps.setCell (Keeps.refl (fun k => k = gf) w2) ⟨gf, f * 2, none⟩ vb fun _ => rfl) ⟨gf, f * 2 + 1, none⟩ _ fun _ => rfl
  have hkF : Keeps (fun k => k = gf) w ((w2.setCell ⟨gf, f * 2, none⟩ vb).setCell ⟨gf, f * 2 + 1, none⟩ (.int .i64 x.lasts)) := Keeps.trans (keeps_below _ hb) hk2 fun _ _ e => e
  have hfr := ownsRow_below hfi.1 hb
  have hh : Hits w2 (fun k => k = gf) (70 + 1) := fun k y hk hy => hits_row hfr k y (by rw [hk]; rfl) hy
  have e1 : (72 + 1 : Nat) ≠ 70 + 1 := by decide
  have e2 : (115 + 1 : Nat) ≠ 70 + 1 := by decide
  have e3 : (64 + 1 : Nat) ≠ 70 + 1 := by decide
  have e4 : (5 + 1 : Nat) ≠ 70 + 1 := by decide
  have hz := hk2.size
  have hrow := ownsRow_struct fileRow 2 fileRow_len fs f (vb, x) hf hfr
  refine ⟨⟨vn, vl, vd, .slice (some ⟨gf, 0, none⟩) fs.length cg, fs.set f (vb, x), keep_blk hk2 hh (blk_below hblk hb) e3, keep_row hk2 hh (ownsRow_below hen hb) e1, keep_row hk2 hh (ownsRow_below hel hb) e1, keep_row hk2 hh (ownsRow_below hde hb) e2, ⟨?_, ?_⟩, ?_, .inl hM, fun k e => .inl (hMr k e)⟩, Keeps.mono hkF fun k _ e => by rw [e]; exact hgM⟩
  · rw [List.length_set]
    exact hrow
  · intro p hp
    rcases List.mem_or_eq_of_mem_set hp with hp | rfl
    · exact ⟨keep_row hk2 hh (ownsRow_below (hfi.2 p hp).1 hb) e4, fun k e => .inl ((hfi.2 p hp).2 k e)⟩
    · have hnew := keep_row hk2 hh hrb e4
      exact ⟨hnew, fun k e => (hvb k e).imp id fun h => ⟨h, (hnew.lt k e).2⟩⟩
  · rw [List.map_set, hfs]
    rfl
set_option maxRecDepth 100000 in
set_option maxHeartbeats 4000000 in
theorem rwrite2_any (m N f : Nat) (M : Nat → Prop) (st : Dk) (nm to : Nm) (b : List UInt8) (an am pn : Int) (lf : Nat) (ab af : Option Addr) (cb cf : Nat) (w : World) (h : RefAt w m M st) (hok : DkOk N st) (hf : f < st.files.length) :
    Calls Try.prog 61 #[(.pointer (some ⟨m, 0, none⟩)), .agg #[.int .i64 2, .string ⟨nm.toArray⟩, .string ⟨to.toArray⟩, .slice ab b.length cb, .int .i64 an, .int .i64 am, .int .i64 pn, .slice af lf cf], .int .i64 f] w fun e w' => e = .returned (.int .i64 0) ∧ RTo w w' m M (st.setF f ⟨(st.fileAt f).b, (st.fileAt f).b.length⟩) := by
  obtain ⟨vn, vl, vd, vf, fs, hblk, hen, hel, hde, hfi, hfs, hM, hMr⟩ := h
  obtain ⟨vb, hvb⟩ := files_get hfs hf
  obtain ⟨gf, cg, ax, cx, rfl, ex, hfl, hgf, y0, y1⟩ := hfi.pair hvb
  simp only at ex
  subst ex
  obtain ⟨fb, fl⟩ : ∃ x, x = st.fileAt f := ⟨_, rfl⟩
  have hml := blk_lt hblk
  obtain ⟨c0, c1, c2, c3, c4, c5, _⟩ := cells6 hblk
  have HEN := Lib.hid hen
  have HEL := Lib.hid hel
  have HDE := Lib.hid hde
  have HFI := Lib.hid hfi
  have HFS := Lib.hid hfs
  have HOK := Lib.hid hok
  have HBLK := Lib.hid hblk
  have HM := Lib.hid hM
  have HMR := Lib.hid hMr
  have HVB := Lib.hid hvb
  have hf0 : (0 : Int) ≤ (f : Int) := by omega
  have hf1 : (f : Int) < (fs.length : Int) := by omega
  clear hen hel hde hfi hfs hM hMr hok hblk hvb hf
  go_enter Try.func61, Try.ntmps61
  go_wp2_with fail
  have hbm := blk_alloc (blk_alloc HBLK.out (.cells #[.int .i64 2, .string ⟨nm.toArray⟩, .string ⟨to.toArray⟩, .slice ab b.length cb, .int .i64 an, .int .i64 am, .int .i64 pn, .slice af lf cf] 53)) (.cells #[.slice ax (st.fileAt f).b.length cx, .int .i64 (st.fileAt f).b.length] 70)
  have hbx : ((w.alloc (.cells #[.int .i64 2, .string ⟨nm.toArray⟩, .string ⟨to.toArray⟩, .slice ab b.length cb, .int .i64 an, .int .i64 am, .int .i64 pn, .slice af lf cf] 53)).alloc (.cells #[.slice ax (st.fileAt f).b.length cx, .int .i64 (st.fileAt f).b.length] 70)).heap[w.heap.size + 1]? = some (.cells #[.slice ax (st.fileAt f).b.length cx, .int .i64 (st.fileAt f).b.length] 70 (0, 0)) := blk_new _ (by simp)
  obtain ⟨w2, hw2⟩ : ∃ w2, w2 = ((w.alloc (.cells #[.int .i64 2, .string ⟨nm.toArray⟩, .string ⟨to.toArray⟩, .slice ab b.length cb, .int .i64 an, .int .i64 am, .int .i64 pn, .slice af lf cf] 53)).alloc (.cells #[.slice ax (st.fileAt f).b.length cx, .int .i64 (st.fileAt f).b.length] 70)) := ⟨_, rfl⟩
  have HB2 := Lib.hid (show Below w.heap.size w w2 by rw [hw2]; exact Below.alloc (Below.alloc (Below.refl _ _) (Nat.le_refl _) _) (by simp) _)
  have hz2 : w2.heap.size = w.heap.size + 2 := by rw [hw2]; simp
  rw [← hw2] at hbm hbx ⊢
  clear hw2
  have fz : ∀ i, w2.frozen? ⟨gf, i, none⟩ = false := fun i => (ownsRow_below HFI.out.1 HB2.out).frozenAt i
  have fz0 := fz (f * 2)
  have fz1 := fz (f * 2 + 1)
  clear fz
  have z0 := (HB2.out.cell (p := ⟨gf, f * 2, none⟩) hgf).trans y0
  have z1 := (HB2.out.cell (p := ⟨gf, f * 2 + 1, none⟩) hgf).trans y1
  have hgf2 : gf < w2.heap.size := by omega
  obtain ⟨SS, HSD⟩ : ∃ SS : World → Prop, Hid (SS = fun w' => w'.heap[m]? = some (.cells #[.int .i64 st.cap, vn, vl, vd, .slice (some ⟨gf, 0, none⟩) fs.length cg, .int .i64 st.armed] 64 (0, 0)) ∧ w'.heap[w.heap.size + 1]? = some (.cells #[.slice ax (st.fileAt f).b.length cx, .int .i64 (st.fileAt f).b.length] 70 (0, 0))) := ⟨_, Lib.hid rfl⟩
  refine wp_region_mask0 SS [3, 5] [0, 1, 3, 7, 0, 0, 63, 127] (.op 0 0 (.op 1 0 (.op 2 0 (.op 3 2 (.op 4 0 (.op 5 2 (.op 6 0 (.op 7 1 .nil)))))))) (by kernel_rfl) (by kernel_rfl) rfl (by kernel_rfl) (by kernel_rfl) ?_ ?_
  focus (rw [HSD.out]; exact ⟨hbm, hbx⟩)
  refine stepM0 rfl rfl (fun K hK => ?_)
  go_simp
  refine hK _ ?_
  clear hK K
  refine stepM0 rfl rfl (fun K hK => ?_)
  go_simp
  refine hK _ ?_
  clear hK K
  refine stepM0 rfl rfl (fun K hK => ?_)
  go_simp
  refine hK _ ?_
  clear hK K
  refine stepM2 rfl rfl ?_ (fun w1 hS => ?_) (fun K hK => ?_)
  rotate_left
  focus (rw [HSD.out] at hS; obtain ⟨s0, s1, s2, s3, s4, s5, _⟩ := cells6 hS.1; have d0 := cell_of_row _ _ 0 _ _ _ hS.2; have d1 := cell_of_row _ _ 1 _ _ _ hS.2; simp at d0 d1; go_simp; rfl)
  go_simp
  refine hK _ ?_
  clear hK K
  refine stepM0 rfl rfl (fun K hK => ?_)
  go_simp
  refine hK _ ?_
  clear hK K
  refine stepM2 rfl rfl ?_ (fun w1 hS => ?_) (fun K hK => ?_)
  rotate_left
  focus (rw [HSD.out] at hS; obtain ⟨s0, s1, s2, s3, s4, s5, _⟩ := cells6 hS.1; have d0 := cell_of_row _ _ 0 _ _ _ hS.2; have d1 := cell_of_row _ _ 1 _ _ _ hS.2; simp at d0 d1; go_simp; rfl)
  go_simp
  refine hK _ ?_
  clear hK K
  refine stepM0 rfl rfl (fun K hK => ?_)
  go_simp
  refine hK _ ?_
  clear hK K
  refine stepM1 rfl rfl (by kernel_rfl) (fun K hK => ?_)
  go_wp2
  try refine stepMnil0 ?_
  clear HSD SS
  go_wp2_with fail
  go_ret
  refine ⟨rfl, ?_⟩
  have hR := rset_fin (x := ⟨(st.fileAt f).b, (st.fileAt f).b.length⟩) HBLK.out HM.out HMR.out HEN.out HEL.out HDE.out HFI.out HFS.out hfl HB2.out (ownsRow_below (HFI.out.2 _ (List.mem_of_getElem? HVB.out)).1 HB2.out) (fun k e => .inl ((HFI.out.2 _ (List.mem_of_getElem? HVB.out)).2 k e))
  exact ⟨hR.1, hR.2.drew⟩
end Go.Proofs.Ytcicnjlkcbimgaa

/- corncribref07: (*Disk).write, kind 6. -/
namespace Go.Proofs.Ytcicnjlkcbimgaa
open Go.RowKit Go.Maps
set_option maxRecDepth 100000 in
set_option maxHeartbeats 4000000 in
theorem rwrite6_any (m N f : Nat) (M : Nat → Prop) (st : Dk) (nm to : Nm) (b : List UInt8) (k : Nat) (am pn : Int) (lf : Nat) (ab af : Option Addr) (cb cf : Nat) (w : World) (h : RefAt w m M st) (hok : DkOk N st) (hf : f < st.files.length) (hk : k ≤ (st.fileAt f).b.length) :
    Calls Try.prog 61 #[(.pointer (some ⟨m, 0, none⟩)), .agg #[.int .i64 6, .string ⟨nm.toArray⟩, .string ⟨to.toArray⟩, .slice ab b.length cb, .int .i64 k, .int .i64 am, .int .i64 pn, .slice af lf cf], .int .i64 f] w fun e w' => e = .returned (.int .i64 0) ∧ RTo w w' m M (st.setF f ⟨(st.fileAt f).b.take k, k⟩) := by
  obtain ⟨vn, vl, vd, vf, fs, hblk, hen, hel, hde, hfi, hfs, hM, hMr⟩ := h
  obtain ⟨vb, hvb⟩ := files_get hfs hf
  obtain ⟨gf, cg, ax, cx, rfl, ex, hfl, hgf, y0, y1⟩ := hfi.pair hvb
  simp only at ex
  subst ex
  obtain ⟨fb, fl⟩ : ∃ x, x = st.fileAt f := ⟨_, rfl⟩
  have hml := blk_lt hblk
  obtain ⟨c0, c1, c2, c3, c4, c5, _⟩ := cells6 hblk
  have HEN := Lib.hid hen
  have HEL := Lib.hid hel
  have HDE := Lib.hid hde
  have HFI := Lib.hid hfi
  have HFS := Lib.hid hfs
  have HOK := Lib.hid hok
  have HBLK := Lib.hid hblk
  have HM := Lib.hid hM
  have HMR := Lib.hid hMr
  have HVB := Lib.hid hvb
  have hf0 : (0 : Int) ≤ (f : Int) := by omega
  have hf1 : (f : Int) < (fs.length : Int) := by omega
  clear hen hel hde hfi hfs hM hMr hok hblk hvb hf
  have hrb := (HFI.out.2 _ (List.mem_of_getElem? HVB.out)).1
  have hrun := run_prefixT 22 5 Try.underlying22 (fun W => by kernel_rfl) ax (st.fileAt f).b.length cx k (row_addr hrb) (by have := row_cap7 hrb; omega)
  have hkl : (k : Int) ≤ ((st.fileAt f).b.length : Int) := by omega
  have hk0 : (0 : Int) ≤ (k : Int) := by omega
  clear hrb
  go_enter Try.func61, Try.ntmps61
  go_wp2_with fail
  have hbm := blk_alloc (blk_alloc HBLK.out (.cells #[.int .i64 6, .string ⟨nm.toArray⟩, .string ⟨to.toArray⟩, .slice ab b.length cb, .int .i64 k, .int .i64 am, .int .i64 pn, .slice af lf cf] 53)) (.cells #[.slice ax k cx, .int .i64 k] 70)
  have hbx : ((w.alloc (.cells #[.int .i64 6, .string ⟨nm.toArray⟩, .string ⟨to.toArray⟩, .slice ab b.length cb, .int .i64 k, .int .i64 am, .int .i64 pn, .slice af lf cf] 53)).alloc (.cells #[.slice ax k cx, .int .i64 k] 70)).heap[w.heap.size + 1]? = some (.cells #[.slice ax k cx, .int .i64 k] 70 (0, 0)) := blk_new _ (by simp)
  obtain ⟨w2, hw2⟩ : ∃ w2, w2 = ((w.alloc (.cells #[.int .i64 6, .string ⟨nm.toArray⟩, .string ⟨to.toArray⟩, .slice ab b.length cb, .int .i64 k, .int .i64 am, .int .i64 pn, .slice af lf cf] 53)).alloc (.cells #[.slice ax k cx, .int .i64 k] 70)) := ⟨_, rfl⟩
  have HB2 := Lib.hid (show Below w.heap.size w w2 by rw [hw2]; exact Below.alloc (Below.alloc (Below.refl _ _) (Nat.le_refl _) _) (by simp) _)
  have hz2 : w2.heap.size = w.heap.size + 2 := by rw [hw2]; simp
  rw [← hw2] at hbm hbx ⊢
  clear hw2
  have fz : ∀ i, w2.frozen? ⟨gf, i, none⟩ = false := fun i => (ownsRow_below HFI.out.1 HB2.out).frozenAt i
  have fz0 := fz (f * 2)
  have fz1 := fz (f * 2 + 1)
  clear fz
  have z0 := (HB2.out.cell (p := ⟨gf, f * 2, none⟩) hgf).trans y0
  have z1 := (HB2.out.cell (p := ⟨gf, f * 2 + 1, none⟩) hgf).trans y1
  have hgf2 : gf < w2.heap.size := by omega
  obtain ⟨SS, HSD⟩ : ∃ SS : World → Prop, Hid (SS = fun w' => w'.heap[m]? = some (.cells #[.int .i64 st.cap, vn, vl, vd, .slice (some ⟨gf, 0, none⟩) fs.length cg, .int .i64 st.armed] 64 (0, 0)) ∧ w'.heap[w.heap.size + 1]? = some (.cells #[.slice ax k cx, .int .i64 k] 70 (0, 0))) := ⟨_, Lib.hid rfl⟩
  refine wp_region_mask0 SS [3, 5] [0, 1, 3, 7, 0, 0, 63, 127] (.op 0 0 (.op 1 0 (.op 2 0 (.op 3 2 (.op 4 0 (.op 5 2 (.op 6 0 (.op 7 1 .nil)))))))) (by kernel_rfl) (by kernel_rfl) rfl (by kernel_rfl) (by kernel_rfl) ?_ ?_
  focus (rw [HSD.out]; exact ⟨hbm, hbx⟩)
  refine stepM0 rfl rfl (fun K hK => ?_)
  go_simp
  refine hK _ ?_
  clear hK K
  refine stepM0 rfl rfl (fun K hK => ?_)
  go_simp
  refine hK _ ?_
  clear hK K
  refine stepM0 rfl rfl (fun K hK => ?_)
  go_simp
  refine hK _ ?_
  clear hK K
  refine stepM2 rfl rfl ?_ (fun w1 hS => ?_) (fun K hK => ?_)
  rotate_left
  focus (rw [HSD.out] at hS; obtain ⟨s0, s1, s2, s3, s4, s5, _⟩ := cells6 hS.1; have d0 := cell_of_row _ _ 0 _ _ _ hS.2; have d1 := cell_of_row _ _ 1 _ _ _ hS.2; simp at d0 d1; go_simp; rfl)
  go_simp
  refine hK _ ?_
  clear hK K
  refine stepM0 rfl rfl (fun K hK => ?_)
  go_simp
  refine hK _ ?_
  clear hK K
  refine stepM2 rfl rfl ?_ (fun w1 hS => ?_) (fun K hK => ?_)
  rotate_left
  focus (rw [HSD.out] at hS; obtain ⟨s0, s1, s2, s3, s4, s5, _⟩ := cells6 hS.1; have d0 := cell_of_row _ _ 0 _ _ _ hS.2; have d1 := cell_of_row _ _ 1 _ _ _ hS.2; simp at d0 d1; go_simp; rfl)
  go_simp
  refine hK _ ?_
  clear hK K
  refine stepM0 rfl rfl (fun K hK => ?_)
  go_simp
  refine hK _ ?_
  clear hK K
  refine stepM1 rfl rfl (by kernel_rfl) (fun K hK => ?_)
  go_wp2
  try refine stepMnil0 ?_
  clear HSD SS
  go_wp2_with fail
  go_ret
  refine ⟨rfl, ?_⟩
  have hR := rset_fin (x := ⟨(st.fileAt f).b.take k, k⟩) HBLK.out HM.out HMR.out HEN.out HEL.out HDE.out HFI.out HFS.out hfl HB2.out ((show RB w2 (.slice ax (st.fileAt f).b.length cx) (st.fileAt f).b from ownsRow_below (HFI.out.2 _ (List.mem_of_getElem? HVB.out)).1 HB2.out).pre k hk) (fun q e => .inl ((HFI.out.2 _ (List.mem_of_getElem? HVB.out)).2 q (by cases ax <;> first | exact e | cases e)))
  exact ⟨hR.1, hR.2.drew⟩
end Go.Proofs.Ytcicnjlkcbimgaa

/- corncribref07: (*Disk).write, kind 6, refused. -/
namespace Go.Proofs.Ytcicnjlkcbimgaa
open Go.RowKit Go.Maps
theorem RTo.below {w w' : World} {m : Nat} {M : Nat → Prop} {st : Dk} (h : RefAt w m M st) (hb : Below w.heap.size w w') : RTo w w' m M st := by
  obtain ⟨vn, vl, vd, vf, fs, h1, h2, h3, h4, h5, h6, h7, h8⟩ := h
  exact ⟨⟨vn, vl, vd, vf, fs, blk_below h1 hb, ownsRow_below h2 hb, ownsRow_below h3 hb, ownsRow_below h4 hb, ⟨ownsRow_below h5.1 hb, fun p hp => ⟨ownsRow_below (h5.2 p hp).1 hb, fun k e => .inl ((h5.2 p hp).2 k e)⟩⟩, h6, .inl h7, fun k e => .inl (h8 k e)⟩, keeps_below _ hb⟩
set_option maxRecDepth 100000 in
set_option maxHeartbeats 4000000 in
theorem rwrite6_no (m N f : Nat) (M : Nat → Prop) (st : Dk) (nm to : Nm) (b : List UInt8) (k : Int) (am pn : Int) (lf : Nat) (ab af : Option Addr) (cb cf : Nat) (w : World) (h : RefAt w m M st) (hok : DkOk N st) (hf : f < st.files.length) (hk : k < 0 ∨ ((st.fileAt f).b.length : Int) < k) :
    Calls Try.prog 61 #[(.pointer (some ⟨m, 0, none⟩)), .agg #[.int .i64 6, .string ⟨nm.toArray⟩, .string ⟨to.toArray⟩, .slice ab b.length cb, .int .i64 k, .int .i64 am, .int .i64 pn, .slice af lf cf], .int .i64 f] w fun e w' => e = .returned (.int .i64 1) ∧ RTo w w' m M st := by
  have h0 := h
  obtain ⟨vn, vl, vd, vf, fs, hblk, hen, hel, hde, hfi, hfs, hM, hMr⟩ := h
  obtain ⟨vb, hvb⟩ := files_get hfs hf
  obtain ⟨gf, cg, ax, cx, rfl, ex, hfl, hgf, y0, y1⟩ := hfi.pair hvb
  simp only at ex
  subst ex
  obtain ⟨fb, fl⟩ : ∃ x, x = st.fileAt f := ⟨_, rfl⟩
  have hml := blk_lt hblk
  obtain ⟨c0, c1, c2, c3, c4, c5, _⟩ := cells6 hblk
  have HEN := Lib.hid hen
  have HEL := Lib.hid hel
  have HDE := Lib.hid hde
  have HFI := Lib.hid hfi
  have HFS := Lib.hid hfs
  have HOK := Lib.hid hok
  have HBLK := Lib.hid hblk
  have HM := Lib.hid hM
  have HMR := Lib.hid hMr
  have HVB := Lib.hid hvb
  have hf0 : (0 : Int) ≤ (f : Int) := by omega
  have hf1 : (f : Int) < (fs.length : Int) := by omega
  clear hen hel hde hfi hfs hM hMr hok hblk hvb hf
  have H := Lib.hid h0
  clear h0
  rcases hk with hk | hk
  · go_enter Try.func61, Try.ntmps61
    go_wp2_with fail
    go_ret
    exact ⟨rfl, RTo.below H.out (by repeat (first | (with_reducible exact Below.refl _ _) | (with_reducible refine Below.setCell ?_ ?_ _) | (with_reducible refine Below.alloc ?_ ?_ _) | (with_reducible refine Below.drewN ?_ _) | (with_reducible refine Below.drew ?_) | (with_reducible exact Nat.le_refl _) | (focus (simp only [World.size_alloc, World.size_setCell, World.size_drew, World.size_drewN]; omega)) | omega | exact Nat.le_refl _ | (focus (simp; done)) | (focus (simp; omega))))⟩
  · have hk0 : decide (k < 0) = false := by simp; omega
    go_enter Try.func61, Try.ntmps61
    go_wp2_with fail
    go_ret
    exact ⟨rfl, RTo.below H.out (by repeat (first | (with_reducible exact Below.refl _ _) | (with_reducible refine Below.setCell ?_ ?_ _) | (with_reducible refine Below.alloc ?_ ?_ _) | (with_reducible refine Below.drewN ?_ _) | (with_reducible refine Below.drew ?_) | (with_reducible exact Nat.le_refl _) | (focus (simp only [World.size_alloc, World.size_setCell, World.size_drew, World.size_drewN]; omega)) | omega | exact Nat.le_refl _ | (focus (simp; done)) | (focus (simp; omega))))⟩
end Go.Proofs.Ytcicnjlkcbimgaa

/- corncribref07: laws of RefAt and RTo. -/
namespace Go.Proofs.Ytcicnjlkcbimgaa
open Go.RowKit Go.Maps
theorem RefAt.mono {w : World} {m : Nat} {M R : Nat → Prop} {st : Dk} (h : RefAt w m M st) (hr : ∀ k, M k → R k) : RefAt w m R st := by
  obtain ⟨vn, vl, vd, vf, fs, h1, h2, h3, h4, h5, h6, h7, h8⟩ := h
  exact ⟨vn, vl, vd, vf, fs, h1, h2, h3, h4, ⟨h5.1, fun p hp => ⟨(h5.2 p hp).1, fun k e => hr k ((h5.2 p hp).2 k e)⟩⟩, h6, hr _ h7, fun k e => hr k (h8 k e)⟩
theorem RefAt.below {w w' : World} {m : Nat} {M : Nat → Prop} {st : Dk} (h : RefAt w m M st) (hb : Below w.heap.size w w') : RefAt w' m M st := by
  obtain ⟨vn, vl, vd, vf, fs, h1, h2, h3, h4, h5, h6, h7, h8⟩ := h
  exact ⟨vn, vl, vd, vf, fs, blk_below h1 hb, ownsRow_below h2 hb, ownsRow_below h3 hb, ownsRow_below h4 hb, ⟨ownsRow_below h5.1 hb, fun p hp => ⟨ownsRow_below (h5.2 p hp).1 hb, fun k e => (h5.2 p hp).2 k e⟩⟩, h6, h7, h8⟩
theorem RefAt.kp {w w' : World} {m : Nat} {M P : Nat → Prop} {st : Dk} (h : RefAt w m M st) (hk : KP P w w') (hP : ∀ k, M k → P k) : RefAt w' m M st := by
  obtain ⟨vn, vl, vd, vf, fs, h1, h2, h3, h4, h5, h6, h7, h8⟩ := h
  exact ⟨vn, vl, vd, vf, fs, hk.blk h1 (hP _ h7), hk.row h2 fun k e => hP k (h8 k (.inl e)), hk.row h3 fun k e => hP k (h8 k (.inr (.inl e))), hk.row h4 fun k e => hP k (h8 k (.inr (.inr (.inl e)))),
    ⟨hk.row h5.1 fun k e => hP k (h8 k (.inr (.inr (.inr e)))), fun p hp => ⟨hk.row (h5.2 p hp).1 fun k e => hP k ((h5.2 p hp).2 k e), fun k e => (h5.2 p hp).2 k e⟩⟩, h6, h7, h8⟩
theorem RTo.trans {w w1 w2 : World} {m : Nat} {M : Nat → Prop} {s1 s2 : Dk} (h1 : RTo w w1 m M s1) (h2 : RTo w1 w2 m (fun k => M k ∨ (w.heap.size ≤ k ∧ k < w1.heap.size)) s2) : RTo w w2 m M s2 := by
  have hz := h2.2.size
  have hz1 := h1.2.size
  refine ⟨h2.1.mono fun k e => ?_, Keeps.trans h1.2 h2.2 fun k hk e => ?_⟩
  · rcases e with (e | e) | e
    · exact .inl e
    · exact .inr ⟨e.1, by omega⟩
    · exact .inr ⟨by omega, e.2⟩
  · rcases e with e | e
    · exact e
    · omega
theorem RTo.from {w W w' : World} {m : Nat} {M : Nat → Prop} {st : Dk} (h : RTo W w' m M st) (hb : Below w.heap.size w W) : RTo w w' m M st :=
  ⟨h.1.mono fun k e => e.imp id fun e => ⟨by have := hb.size; omega, e.2⟩, Keeps.trans (keeps_below M hb) h.2 fun _ _ e => e⟩
theorem RTo.after {w w1 w2 : World} {m : Nat} {M : Nat → Prop} {st : Dk} (h : RTo w w1 m M st) (hb : Below w1.heap.size w1 w2) : RTo w w2 m M st :=
  ⟨(h.1.below hb).mono fun k e => e.imp id fun e => ⟨e.1, by have := hb.size; omega⟩, Keeps.trans h.2 (keeps_below M hb) fun _ _ e => e⟩
theorem RTo.refl {w : World} {m : Nat} {M : Nat → Prop} {st : Dk} (h : RefAt w m M st) : RTo w w m M st := ⟨h.mono fun _ e => .inl e, Keeps.refl _ _⟩
/-- The disk's own block is laid anew. -/
theorem rfix {w w' : World} {m : Nat} {M : Nat → Prop} {st' : Dk} {x0 : Obj} {vn vl vd vf : Value} {fs : List (Value × DFile)} (hb0 : w.heap[m]? = some x0) (hx0 : kindO x0 = 64 + 1) (hk : Keeps (fun k => k = m) w w')
    (hblk : w'.heap[m]? = some (.cells #[.int .i64 st'.cap, vn, vl, vd, vf, .int .i64 st'.armed] 64 (0, 0))) (hen : REnts w vn st'.now) (hel : REnts w vl st'.lasting) (hde : RDeeds w vd st'.deeds) (hfi : RFiles w M vf fs) (hfs : fs.map (·.2) = st'.files)
    (hM : M m) (hMr : ∀ k, (vn.ownBlock = some k ∨ vl.ownBlock = some k ∨ vd.ownBlock = some k ∨ vf.ownBlock = some k) → M k) : RTo w w' m M st' := by
  have hh := hits_one hb0
  rw [hx0] at hh
  have e1 : (72 + 1 : Nat) ≠ 64 + 1 := by decide
  have e2 : (115 + 1 : Nat) ≠ 64 + 1 := by decide
  have e3 : (70 + 1 : Nat) ≠ 64 + 1 := by decide
  have e4 : (5 + 1 : Nat) ≠ 64 + 1 := by decide
  exact ⟨⟨vn, vl, vd, vf, fs, hblk, keep_row hk hh hen e1, keep_row hk hh hel e1, keep_row hk hh hde e2, hfi.keep hk hh e3 e4 fun k e => .inl e, hfs, .inl hM, fun k e => .inl (hMr k e)⟩, Keeps.mono hk fun k _ e => by rw [e]; exact hM⟩
end Go.Proofs.Ytcicnjlkcbimgaa

/- corncribref07: (*Disk).write, kind 1. -/
namespace Go.Proofs.Ytcicnjlkcbimgaa
open Go.RowKit Go.Maps
theorem blk2 {w : World} {b : Nat} {t : TypeId} {v0 v1 : Value} (h : w.heap[b]? = some (.cells #[v0, v1] t (0, 0))) : w.cell? ⟨b, 0, none⟩ = some v0 ∧ w.cell? ⟨b, 1, none⟩ = some v1 ∧ ∀ o, w.frozen? ⟨b, o, none⟩ = false := by
  have e := fun j => cell_of_row w b j _ _ _ h
  exact ⟨e 0, e 1, fun o => frozen_of_row w b o _ _ h⟩
theorem lit_u8 {w : World} {base k : Nat} (hk : w.heap.size = k) (hb : base ≤ k) : (w.alloc (.cells #[] 5)).ownsRow base 5 1 (.slice (some ⟨k, 0, none⟩) 0 0) 0 [] := by
  subst hk
  exact World.ownsRow_lit w #[] 0 hb (by unfold maxLen; omega) rfl
theorem used_le {K : Nat} {st : Dk} (hok : DkOk K st) : st.used ≤ 64 * 16777216 := by
  have h := sum_few hok st.now.length
  rwa [List.take_length] at h
theorem rb_of {w : World} {base n : Nat} {v : Value} {b : List UInt8} {xs : List Value} (h : w.ownsRow base 5 1 v n xs) (hx : xs = b.map bv) (hn : n = b.length) : RB w v b := by
  subst hx hn
  exact ownsRow_mono h (Nat.zero_le _)
set_option maxRecDepth 100000 in
set_option maxHeartbeats 4000000 in
theorem rwrite1_long (m N f : Nat) (M : Nat → Prop) (st : Dk) (nm to : Nm) (b : List UInt8) (an am pn : Int) (lf : Nat) (ab af : Option Addr) (cb cf : Nat) (w : World) (h : RefAt w m M st) (hok : DkOk N st) (hf : f < st.files.length) (hbl : b.length ≤ 300) (hk : 16777216 < (st.fileAt f).b.length + b.length) :
    Calls Try.prog 61 #[(.pointer (some ⟨m, 0, none⟩)), .agg #[.int .i64 1, .string ⟨nm.toArray⟩, .string ⟨to.toArray⟩, .slice ab b.length cb, .int .i64 an, .int .i64 am, .int .i64 pn, .slice af lf cf], .int .i64 f] w fun e w' => e = .returned (.int .i64 2) ∧ RTo w w' m M st := by
  have H := Lib.hid h
  obtain ⟨vn, vl, vd, vf, fs, hblk, hen, hel, hde, hfi, hfs, hM, hMr⟩ := h
  obtain ⟨vb, hvb⟩ := files_get hfs hf
  obtain ⟨gf, cg, ax, cx, rfl, ex, hfl, hgf, y0, y1⟩ := hfi.pair hvb
  simp only at ex
  subst ex
  have hml := blk_lt hblk
  obtain ⟨c0, c1, c2, c3, c4, c5, _⟩ := cells6 hblk
  have hf0 : (0 : Int) ≤ (f : Int) := by omega
  have hf1 : (f : Int) < (fs.length : Int) := by omega
  have hxl := (hok.at f).2
  have hkd : (16777216 : Int) < ((st.fileAt f).b.length : Int) + (b.length : Int) := by omega
  clear hen hel hde hfi hfs hM hMr hok hblk hvb hf hk
  go_enter Try.func61, Try.ntmps61
  go_wp2_with fail
  go_ret
  exact ⟨rfl, RTo.below H.out (by repeat (first | (with_reducible exact Below.refl _ _) | (with_reducible refine Below.setCell ?_ ?_ _) | (with_reducible refine Below.alloc ?_ ?_ _) | (with_reducible refine Below.drewN ?_ _) | (with_reducible refine Below.drew ?_) | (with_reducible exact Nat.le_refl _) | (focus (simp only [World.size_alloc, World.size_setCell, World.size_drew, World.size_drewN]; omega)) | omega | exact Nat.le_refl _ | (focus (simp; done)) | (focus (simp; omega))))⟩
set_option maxRecDepth 100000 in
set_option maxHeartbeats 4000000 in
theorem rwrite1_full (m N f : Nat) (M : Nat → Prop) (st : Dk) (nm to : Nm) (b : List UInt8) (an am pn : Int) (lf : Nat) (ab af : Option Addr) (cb cf : Nat) (w : World) (h : RefAt w m M st) (hok : DkOk N st) (hf : f < st.files.length) (hbl : b.length ≤ 300) (hk : ¬ 16777216 < (st.fileAt f).b.length + b.length) (hc : st.cap < st.used + b.length) :
    Calls Try.prog 61 #[(.pointer (some ⟨m, 0, none⟩)), .agg #[.int .i64 1, .string ⟨nm.toArray⟩, .string ⟨to.toArray⟩, .slice ab b.length cb, .int .i64 an, .int .i64 am, .int .i64 pn, .slice af lf cf], .int .i64 f] w fun e w' => e = .returned (.int .i64 11) ∧ RTo w w' m M st := by
  have H := Lib.hid h
  have HOK := Lib.hid hok
  obtain ⟨vn, vl, vd, vf, fs, hblk, hen, hel, hde, hfi, hfs, hM, hMr⟩ := h
  obtain ⟨vb, hvb⟩ := files_get hfs hf
  obtain ⟨gf, cg, ax, cx, rfl, ex, hfl, hgf, y0, y1⟩ := hfi.pair hvb
  simp only at ex
  subst ex
  have hml := blk_lt hblk
  obtain ⟨c0, c1, c2, c3, c4, c5, _⟩ := cells6 hblk
  have HBLK := Lib.hid hblk
  have hf0 : (0 : Int) ≤ (f : Int) := by omega
  have hf1 : (f : Int) < (fs.length : Int) := by omega
  have hxl := (hok.at f).2
  have hul := used_le hok
  have hcl := hok.cap
  have hkd : decide ((16777216 : Int) < ((st.fileAt f).b.length : Int) + (b.length : Int)) = false := by simp; omega
  clear hen hel hde hfi hfs hM hMr hok hblk hvb hf hk
  go_enter Try.func61, Try.ntmps61
  go_wp2_with fail
  have hbm := blk_alloc (blk_alloc HBLK.out (.cells #[.int .i64 1, .string ⟨nm.toArray⟩, .string ⟨to.toArray⟩, .slice ab b.length cb, .int .i64 an, .int .i64 am, .int .i64 pn, .slice af lf cf] 53)) (.cells #[.slice ax (st.fileAt f).b.length cx, .int .i64 (st.fileAt f).lasts] 70)
  have hba : ((w.alloc (.cells #[.int .i64 1, .string ⟨nm.toArray⟩, .string ⟨to.toArray⟩, .slice ab b.length cb, .int .i64 an, .int .i64 am, .int .i64 pn, .slice af lf cf] 53)).alloc (.cells #[.slice ax (st.fileAt f).b.length cx, .int .i64 (st.fileAt f).lasts] 70)).heap[w.heap.size]? = some (.cells #[.int .i64 1, .string ⟨nm.toArray⟩, .string ⟨to.toArray⟩, .slice ab b.length cb, .int .i64 an, .int .i64 am, .int .i64 pn, .slice af lf cf] 53 (0, 0)) := blk_alloc (blk_new _ rfl) _
  obtain ⟨w2, hw2⟩ : ∃ w2, w2 = ((w.alloc (.cells #[.int .i64 1, .string ⟨nm.toArray⟩, .string ⟨to.toArray⟩, .slice ab b.length cb, .int .i64 an, .int .i64 am, .int .i64 pn, .slice af lf cf] 53)).alloc (.cells #[.slice ax (st.fileAt f).b.length cx, .int .i64 (st.fileAt f).lasts] 70)) := ⟨_, rfl⟩
  have HB2 := Lib.hid (show Below w.heap.size w w2 by rw [hw2]; exact Below.alloc (Below.alloc (Below.refl _ _) (Nat.le_refl _) _) (by simp) _)
  have hz2 : w2.heap.size = w.heap.size + 2 := by rw [hw2]; simp
  have H2 := Lib.hid (H.out.below HB2.out)
  rw [← hw2] at hbm hba ⊢
  clear hw2
  have hws : IntKind.i64.wrap ((st.used : Int) + (b.length : Int)) = (st.used : Int) + (b.length : Int) := IntWalk.i64_in _ (by omega)
  obtain ⟨SS, HSD⟩ : ∃ SS : World → Prop, Hid (SS = fun w' => w'.heap[m]? = some (.cells #[.int .i64 st.cap, vn, vl, vd, .slice (some ⟨gf, 0, none⟩) fs.length cg, .int .i64 st.armed] 64 (0, 0)) ∧ w'.heap[w.heap.size]? = some (.cells #[.int .i64 1, .string ⟨nm.toArray⟩, .string ⟨to.toArray⟩, .slice ab b.length cb, .int .i64 an, .int .i64 am, .int .i64 pn, .slice af lf cf] 53 (0, 0))) := ⟨_, Lib.hid rfl⟩
  refine wp_region_mask0 SS [3, 9] [0, 1, 0, 4, 12, 31, 0, 64, 192, 448, 1023] (.op 0 0 (.op 2 0 (.op 3 2 (.op 4 0 (.op 6 0 (.op 7 0 (.op 8 0 (.op 9 2 (.op 1 1 (.op 5 0 (.op 10 0 .nil))))))))))) (by kernel_rfl) (by kernel_rfl) rfl (by kernel_rfl) (by kernel_rfl) ?_ ?_
  focus (rw [HSD.out]; exact ⟨hbm, hba⟩)
  refine stepM0 rfl rfl (fun K hK => ?_)
  go_simp
  refine hK _ ?_
  clear hK K
  refine stepM0 rfl rfl (fun K hK => ?_)
  go_simp
  refine hK _ ?_
  clear hK K
  refine stepM2 rfl rfl ?_ (fun w1 hS => ?_) (fun K hK => ?_)
  rotate_left
  focus (rw [HSD.out] at hS; obtain ⟨s0, s1, s2, s3, s4, s5, _⟩ := cells6 hS.1; have d3 := cell_of_row _ _ 3 _ _ _ hS.2; simp at d3; go_simp; rfl)
  go_simp
  refine hK _ ?_
  clear hK K
  refine stepM0 rfl rfl (fun K hK => ?_)
  go_simp
  refine hK _ ?_
  clear hK K
  refine stepM0 rfl rfl (fun K hK => ?_)
  go_simp
  refine hK _ ?_
  clear hK K
  refine stepM0 rfl rfl (fun K hK => ?_)
  go_simp
  refine hK _ ?_
  clear hK K
  refine stepM0 rfl rfl (fun K hK => ?_)
  go_simp
  refine hK _ ?_
  clear hK K
  refine stepM2 rfl rfl ?_ (fun w1 hS => ?_) (fun K hK => ?_)
  rotate_left
  focus (rw [HSD.out] at hS; obtain ⟨s0, s1, s2, s3, s4, s5, _⟩ := cells6 hS.1; have d3 := cell_of_row _ _ 3 _ _ _ hS.2; simp at d3; go_simp; rfl)
  go_simp
  refine hK _ ?_
  clear hK K
  refine stepM1S rfl rfl (fun K hK => ?_)
  (go_wp2_with fail; refine Calls.mono (rused_any m N M st _ (H2.out.below (by repeat (first | (with_reducible exact Below.refl _ _) | (with_reducible refine Below.setCell ?_ ?_ _) | (with_reducible refine Below.alloc ?_ ?_ _) | (with_reducible refine Below.drewN ?_ _) | (with_reducible refine Below.drew ?_) | (with_reducible exact Nat.le_refl _) | (focus (simp only [World.size_alloc, World.size_setCell, World.size_drew, World.size_drewN]; omega)) | omega | exact Nat.le_refl _ | (focus (simp; done)) | (focus (simp; omega))))) HOK.out) ?_; rintro e w3 ⟨rfl, hb3⟩; have hm3 := (hb3.block m (by simp; omega)).trans hbm; have hx3 := (hb3.block w.heap.size (by simp; omega)).trans hba; have HB3 := Lib.hid (show Below w2.heap.size w2 w3 from Below.trans (by repeat (first | (with_reducible exact Below.refl _ _) | (with_reducible refine Below.setCell ?_ ?_ _) | (with_reducible refine Below.alloc ?_ ?_ _) | (with_reducible refine Below.drewN ?_ _) | (with_reducible refine Below.drew ?_) | (with_reducible exact Nat.le_refl _) | (focus (simp only [World.size_alloc, World.size_setCell, World.size_drew, World.size_drewN]; omega)) | omega | exact Nat.le_refl _ | (focus (simp; done)) | (focus (simp; omega)))) (hb3.mono (by simp))); clear hb3; go_wp2)
  refine ⟨by rw [HSD.out]; exact (⟨hm3, hx3⟩), ?_⟩
  refine stepM0 rfl rfl (fun K hK => ?_)
  go_simp
  refine hK _ ?_
  clear hK K
  refine stepM0 rfl rfl (fun K hK => ?_)
  go_simp
  refine hK _ ?_
  clear hK K
  try refine stepMnil0 ?_
  clear HSD SS
  clear hws
  have hcd : (st.cap : Int) < (st.used : Int) + (b.length : Int) := by omega
  go_wp2_with fail
  go_ret
  have HB03 := HB2.out.trans (HB3.out.mono (show w.heap.size ≤ w2.heap.size by omega))
  exact ⟨rfl, RTo.below H.out (by first | exact HB03 | exact HB03.drew)⟩
set_option maxRecDepth 100000 in
set_option maxHeartbeats 4000000 in
theorem rwrite1_any (m N f : Nat) (M : Nat → Prop) (st : Dk) (nm to : Nm) (b : List UInt8) (an am pn : Int) (lf : Nat) (ab af : Option Addr) (cb cf : Nat) (w : World) (h : RefAt w m M st) (hok : DkOk N st) (hf : f < st.files.length) (hbl : b.length ≤ 300) (hk : ¬ 16777216 < (st.fileAt f).b.length + b.length) (hc : ¬ st.cap < st.used + b.length)
    (hr : Reads w 1 (.slice ab b.length cb) b.length (b.map bv)) :
    Calls Try.prog 61 #[(.pointer (some ⟨m, 0, none⟩)), .agg #[.int .i64 1, .string ⟨nm.toArray⟩, .string ⟨to.toArray⟩, .slice ab b.length cb, .int .i64 an, .int .i64 am, .int .i64 pn, .slice af lf cf], .int .i64 f] w fun e w' => e = .returned (.int .i64 0) ∧ RTo w w' m M (st.setF f ⟨(st.fileAt f).b ++ b, (st.fileAt f).lasts⟩) := by
  have H := Lib.hid h
  have HOK := Lib.hid hok
  have HR := Lib.hid hr
  obtain ⟨vn, vl, vd, vf, fs, hblk, hen, hel, hde, hfi, hfs, hM, hMr⟩ := h
  obtain ⟨vb, hvb⟩ := files_get hfs hf
  obtain ⟨gf, cg, ax, cx, rfl, ex, hfl, hgf, y0, y1⟩ := hfi.pair hvb
  simp only at ex
  subst ex
  have hml := blk_lt hblk
  obtain ⟨c0, c1, c2, c3, c4, c5, _⟩ := cells6 hblk
  have HEN := Lib.hid hen
  have HEL := Lib.hid hel
  have HDE := Lib.hid hde
  have HFI := Lib.hid hfi
  have HFS := Lib.hid hfs
  have HBLK := Lib.hid hblk
  have HM := Lib.hid hM
  have HMR := Lib.hid hMr
  have HVB := Lib.hid hvb
  have HXR := Lib.hid (hfi.2 _ (List.mem_of_getElem? hvb)).1
  obtain ⟨i0, hi, hz0, hz1, hz2⟩ := info_parts byteT_info
  have HI := Lib.hid hi
  have HZ0 := Lib.hid hz0
  have HZ1 := Lib.hid hz1
  have HZ2 := Lib.hid hz2
  have hf0 : (0 : Int) ≤ (f : Int) := by omega
  have hf1 : (f : Int) < (fs.length : Int) := by omega
  have hxl := (hok.at f).2
  have hul := used_le hok
  have hcl := hok.cap
  have hkd : decide ((16777216 : Int) < ((st.fileAt f).b.length : Int) + (b.length : Int)) = false := by simp; omega
  clear hen hel hde hfi hfs hM hMr hok hblk hvb hf hk hi hz0 hz1 hz2 hr
  go_enter Try.func61, Try.ntmps61
  go_wp2_with fail
  have hbm := blk_alloc (blk_alloc HBLK.out (.cells #[.int .i64 1, .string ⟨nm.toArray⟩, .string ⟨to.toArray⟩, .slice ab b.length cb, .int .i64 an, .int .i64 am, .int .i64 pn, .slice af lf cf] 53)) (.cells #[.slice ax (st.fileAt f).b.length cx, .int .i64 (st.fileAt f).lasts] 70)
  have hba : ((w.alloc (.cells #[.int .i64 1, .string ⟨nm.toArray⟩, .string ⟨to.toArray⟩, .slice ab b.length cb, .int .i64 an, .int .i64 am, .int .i64 pn, .slice af lf cf] 53)).alloc (.cells #[.slice ax (st.fileAt f).b.length cx, .int .i64 (st.fileAt f).lasts] 70)).heap[w.heap.size]? = some (.cells #[.int .i64 1, .string ⟨nm.toArray⟩, .string ⟨to.toArray⟩, .slice ab b.length cb, .int .i64 an, .int .i64 am, .int .i64 pn, .slice af lf cf] 53 (0, 0)) := blk_alloc (blk_new _ rfl) _
  have hbx : ((w.alloc (.cells #[.int .i64 1, .string ⟨nm.toArray⟩, .string ⟨to.toArray⟩, .slice ab b.length cb, .int .i64 an, .int .i64 am, .int .i64 pn, .slice af lf cf] 53)).alloc (.cells #[.slice ax (st.fileAt f).b.length cx, .int .i64 (st.fileAt f).lasts] 70)).heap[w.heap.size + 1]? = some (.cells #[.slice ax (st.fileAt f).b.length cx, .int .i64 (st.fileAt f).lasts] 70 (0, 0)) := blk_new _ (by simp)
  obtain ⟨w2, hw2⟩ : ∃ w2, w2 = ((w.alloc (.cells #[.int .i64 1, .string ⟨nm.toArray⟩, .string ⟨to.toArray⟩, .slice ab b.length cb, .int .i64 an, .int .i64 am, .int .i64 pn, .slice af lf cf] 53)).alloc (.cells #[.slice ax (st.fileAt f).b.length cx, .int .i64 (st.fileAt f).lasts] 70)) := ⟨_, rfl⟩
  have HB2 := Lib.hid (show Below w.heap.size w w2 by rw [hw2]; exact Below.alloc (Below.alloc (Below.refl _ _) (Nat.le_refl _) _) (by simp) _)
  have hz2 : w2.heap.size = w.heap.size + 2 := by rw [hw2]; simp
  have H2 := Lib.hid (H.out.below HB2.out)
  rw [← hw2] at hbm hba hbx ⊢
  clear hw2
  have hws : IntKind.i64.wrap ((st.used : Int) + (b.length : Int)) = (st.used : Int) + (b.length : Int) := IntWalk.i64_in _ (by omega)
  obtain ⟨SS, HSD⟩ : ∃ SS : World → Prop, Hid (SS = fun w' => w'.heap[m]? = some (.cells #[.int .i64 st.cap, vn, vl, vd, .slice (some ⟨gf, 0, none⟩) fs.length cg, .int .i64 st.armed] 64 (0, 0)) ∧ w'.heap[w.heap.size]? = some (.cells #[.int .i64 1, .string ⟨nm.toArray⟩, .string ⟨to.toArray⟩, .slice ab b.length cb, .int .i64 an, .int .i64 am, .int .i64 pn, .slice af lf cf] 53 (0, 0))) := ⟨_, Lib.hid rfl⟩
  refine wp_region_mask0 SS [3, 9] [0, 1, 0, 4, 12, 31, 0, 64, 192, 448, 1023] (.op 0 0 (.op 2 0 (.op 3 2 (.op 4 0 (.op 6 0 (.op 7 0 (.op 8 0 (.op 9 2 (.op 1 1 (.op 5 0 (.op 10 0 .nil))))))))))) (by kernel_rfl) (by kernel_rfl) rfl (by kernel_rfl) (by kernel_rfl) ?_ ?_
  focus (rw [HSD.out]; exact ⟨hbm, hba⟩)
  refine stepM0 rfl rfl (fun K hK => ?_)
  go_simp
  refine hK _ ?_
  clear hK K
  refine stepM0 rfl rfl (fun K hK => ?_)
  go_simp
  refine hK _ ?_
  clear hK K
  refine stepM2 rfl rfl ?_ (fun w1 hS => ?_) (fun K hK => ?_)
  rotate_left
  focus (rw [HSD.out] at hS; obtain ⟨s0, s1, s2, s3, s4, s5, _⟩ := cells6 hS.1; have d3 := cell_of_row _ _ 3 _ _ _ hS.2; simp at d3; go_simp; rfl)
  go_simp
  refine hK _ ?_
  clear hK K
  refine stepM0 rfl rfl (fun K hK => ?_)
  go_simp
  refine hK _ ?_
  clear hK K
  refine stepM0 rfl rfl (fun K hK => ?_)
  go_simp
  refine hK _ ?_
  clear hK K
  refine stepM0 rfl rfl (fun K hK => ?_)
  go_simp
  refine hK _ ?_
  clear hK K
  refine stepM0 rfl rfl (fun K hK => ?_)
  go_simp
  refine hK _ ?_
  clear hK K
  refine stepM2 rfl rfl ?_ (fun w1 hS => ?_) (fun K hK => ?_)
  rotate_left
  focus (rw [HSD.out] at hS; obtain ⟨s0, s1, s2, s3, s4, s5, _⟩ := cells6 hS.1; have d3 := cell_of_row _ _ 3 _ _ _ hS.2; simp at d3; go_simp; rfl)
  go_simp
  refine hK _ ?_
  clear hK K
  refine stepM1S rfl rfl (fun K hK => ?_)
  (go_wp2_with fail; refine Calls.mono (rused_any m N M st _ (H2.out.below (by repeat (first | (with_reducible exact Below.refl _ _) | (with_reducible refine Below.setCell ?_ ?_ _) | (with_reducible refine Below.alloc ?_ ?_ _) | (with_reducible refine Below.drewN ?_ _) | (with_reducible refine Below.drew ?_) | (with_reducible exact Nat.le_refl _) | (focus (simp only [World.size_alloc, World.size_setCell, World.size_drew, World.size_drewN]; omega)) | omega | exact Nat.le_refl _ | (focus (simp; done)) | (focus (simp; omega))))) HOK.out) ?_; rintro e w3 ⟨rfl, hb3⟩; have hm3 := (hb3.block m (by simp; omega)).trans hbm; have ha3 := (hb3.block w.heap.size (by simp; omega)).trans hba; have hx3 := (hb3.block (w.heap.size + 1) (by simp; omega)).trans hbx; have HB3 := Lib.hid (show Below w2.heap.size w2 w3 from Below.trans (by repeat (first | (with_reducible exact Below.refl _ _) | (with_reducible refine Below.setCell ?_ ?_ _) | (with_reducible refine Below.alloc ?_ ?_ _) | (with_reducible refine Below.drewN ?_ _) | (with_reducible refine Below.drew ?_) | (with_reducible exact Nat.le_refl _) | (focus (simp only [World.size_alloc, World.size_setCell, World.size_drew, World.size_drewN]; omega)) | omega | exact Nat.le_refl _ | (focus (simp; done)) | (focus (simp; omega)))) (hb3.mono (by simp))); have hz3 := hb3.size; simp only [World.size_drew] at hz3; clear hb3; go_wp2)
  refine ⟨by rw [HSD.out]; exact (⟨hm3, ha3⟩), ?_⟩
  refine stepM0 rfl rfl (fun K hK => ?_)
  go_simp
  refine hK _ ?_
  clear hK K
  refine stepM0 rfl rfl (fun K hK => ?_)
  go_simp
  refine hK _ ?_
  clear hK K
  try refine stepMnil0 ?_
  clear HSD SS
  clear hws
  have hcd : decide ((st.cap : Int) < (st.used : Int) + (b.length : Int)) = false := by simp; omega
  have HB03 := Lib.hid (HB2.out.trans (HB3.out.mono (by omega)))
  go_wp2_with fail
  clear hbm hba hbx
  obtain ⟨L, hL⟩ : ∃ L, L = ((st.fileAt f).b ++ b).length := ⟨_, rfl⟩
  have HL := Lib.hid hL
  clear hL
  obtain ⟨SS, HSD⟩ : ∃ SS : World → Prop, Hid (SS = fun w' => w'.heap[w.heap.size]? = some (.cells #[.int .i64 1, .string ⟨nm.toArray⟩, .string ⟨to.toArray⟩, .slice ab b.length cb, .int .i64 an, .int .i64 am, .int .i64 pn, .slice af lf cf] 53 (0, 0)) ∧ w'.heap[w.heap.size + 1]? = some (.cells #[.slice ax (st.fileAt f).b.length cx, .int .i64 (st.fileAt f).lasts] 70 (0, 0))) := ⟨_, Lib.hid rfl⟩
  refine wp_region_mask0 SS [2, 5] [0, 0, 2, 7, 0, 16, 63, 127, 255] (.op 1 0 (.op 2 2 (.op 4 0 (.op 5 2 (.op 0 1 (.op 3 1 (.op 6 1 (.op 7 0 (.op 8 1 .nil))))))))) (by kernel_rfl) (by kernel_rfl) rfl (by kernel_rfl) (by kernel_rfl) ?_ ?_
  focus (rw [HSD.out]; exact ⟨ha3, hx3⟩)
  refine stepM0 rfl rfl (fun K hK => ?_)
  go_simp
  refine hK _ ?_
  clear hK K
  refine stepM2 rfl rfl ?_ (fun w1 hS => ?_) (fun K hK => ?_)
  rotate_left
  focus (rw [HSD.out] at hS; have d3 := cell_of_row _ _ 3 _ _ _ hS.1; have d0 := cell_of_row _ _ 0 _ _ _ hS.2; simp at d3 d0; go_simp; rfl)
  go_simp
  refine hK _ ?_
  clear hK K
  refine stepM0 rfl rfl (fun K hK => ?_)
  go_simp
  refine hK _ ?_
  clear hK K
  refine stepM2 rfl rfl ?_ (fun w1 hS => ?_) (fun K hK => ?_)
  rotate_left
  focus (rw [HSD.out] at hS; have d3 := cell_of_row _ _ 3 _ _ _ hS.1; have d0 := cell_of_row _ _ 0 _ _ _ hS.2; simp at d3 d0; go_simp; rfl)
  go_simp
  refine hK _ ?_
  clear hK K
  refine stepM1S rfl rfl (fun K hK => ?_)
  go_wp2
  refine ⟨by rw [HSD.out]; exact (⟨blk_alloc ha3 _, blk_alloc hx3 _⟩), ?_⟩
  refine stepM1S rfl rfl (fun K hK => ?_)
  (refine wp_append_reads _ _ _ 22 rfl w3.heap.size 5 i0 (.int .u8 0) 1 1 Try.underlying22 HI.out HZ0.out HZ1.out HZ2.out rfl (by decide) (.slice (some ⟨w3.heap.size, 0, none⟩) 0 0) 0 [] rfl (lit_u8 rfl (Nat.le_refl _)) (.slice ax (st.fileAt f).b.length cx) (st.fileAt f).b.length ((st.fileAt f).b.map bv) rfl (reads_of_owns (ownsRow_below (ownsRow_below HXR.out HB03.out) (by repeat (first | (with_reducible exact Below.refl _ _) | (with_reducible refine Below.setCell ?_ ?_ _) | (with_reducible refine Below.alloc ?_ ?_ _) | (with_reducible refine Below.drewN ?_ _) | (with_reducible refine Below.drew ?_) | (with_reducible exact Nat.le_refl _) | (focus (simp only [World.size_alloc, World.size_setCell, World.size_drew, World.size_drewN]; omega)) | omega | exact Nat.le_refl _ | (focus (simp; done)) | (focus (simp; omega)))))) (bv_one _) (by unfold maxLen; omega) (by omega) (by first | omega | (simp; done) | (simp; omega)) ?_; intro v1 w1' hown1 hgrow1 hat1; have hzq1 := hgrow1.size; simp only [World.size_alloc, World.size_drew] at hzq1; have ha4 := (hgrow1.block w.heap.size (by first | omega | (simp; done) | (simp; omega)) (by simp [Value.ownBlock]; omega)).trans (by exact blk_alloc ha3 _); have hx4 := (hgrow1.block (w.heap.size + 1) (by first | omega | (simp; done) | (simp; omega)) (by simp [Value.ownBlock]; omega)).trans (by exact blk_alloc hx3 _); have HO1 := Lib.hid hown1; have HB4 := Lib.hid (show Below w3.heap.size w3 w1' from Below.grown (by repeat (first | (with_reducible exact Below.refl _ _) | (with_reducible refine Below.setCell ?_ ?_ _) | (with_reducible refine Below.alloc ?_ ?_ _) | (with_reducible refine Below.drewN ?_ _) | (with_reducible refine Below.drew ?_) | (with_reducible exact Nat.le_refl _) | (focus (simp only [World.size_alloc, World.size_setCell, World.size_drew, World.size_drewN]; omega)) | omega | exact Nat.le_refl _ | (focus (simp; done)) | (focus (simp; omega)))) hgrow1 (by first | omega | (simp; done) | (simp; omega)) (by simp [Value.ownBlock])); clear hown1 hgrow1 hat1; go_wp2)
  refine ⟨by rw [HSD.out]; exact (⟨ha4, hx4⟩), ?_⟩
  refine stepM1 rfl rfl (by kernel_rfl) (fun K hK => ?_)
  (refine wp_append_reads _ _ _ 22 rfl w3.heap.size 5 i0 (.int .u8 0) 1 1 Try.underlying22 HI.out HZ0.out HZ1.out HZ2.out rfl (by decide) v1 (0 + (st.fileAt f).b.length) ([] ++ (st.fileAt f).b.map bv) rfl HO1.out (.slice ab b.length cb) b.length (b.map bv) rfl ((HR.out.below HB03.out).below HB4.out) (bv_one _) (by unfold maxLen; omega) (by omega) (by first | omega | (simp; done) | (simp; omega)) ?_; intro v2 w2' hown2 hgrow2 hat2; have hzq2 := hgrow2.size; (try simp only [World.size_alloc, World.size_drew] at hzq2); have hx5 := (hgrow2.block (w.heap.size + 1) (by first | omega | (simp; done) | (simp; omega)) (fun e => by have := (HO1.out.lt _ e.symm).1; omega)).trans (by exact hx4); have hrb2 : RB w2' v2 ((st.fileAt f).b ++ b) := rb_of hown2 (by simp) (by simp); have HOB := Lib.hid (fun q e => (hown2.lt q e).1); obtain ⟨a2, c2, e2⟩ := hrb2.len; rw [← HL.out] at e2; subst e2; have HRB2 := Lib.hid hrb2; have HB5 := Lib.hid (show Below w3.heap.size w3 w2' from Below.grown HB4.out hgrow2 (by first | omega | (simp; done) | (simp; omega)) (fun q hq => (HO1.out.lt q hq).1)); clear hown2 hgrow2 hat2 hrb2; go_wp2)
  refine stepM0 rfl rfl (fun K hK => ?_)
  go_simp
  refine hK _ ?_
  clear hK K
  refine stepM1 rfl rfl (by kernel_rfl) (fun K hK => ?_)
  (obtain ⟨t0, t1, tf⟩ := blk2 hx5; have tf0 := tf 0; have hxl5 := blk_lt hx5; clear tf; go_wp2)
  try refine stepMnil0 ?_
  clear HSD SS
  obtain ⟨w5, hw5⟩ : ∃ w5, w5 = w2'.setCell ⟨w.heap.size + 1, 0, none⟩ (.slice a2 L c2) := ⟨_, rfl⟩
  have hk5 : Keeps (fun k => k = w.heap.size + 1) w2' w5 := by rw [hw5]; exact keeps_set 0 _
  have HRB5 := Lib.hid (show RB w5 (.slice a2 L c2) ((st.fileAt f).b ++ b) from keep_row hk5 (hits_one hx5) HRB2.out (by show (5 + 1 : Nat) ≠ 70 + 1; decide))
  have hx6 : w5.heap[w.heap.size + 1]? = some (.cells #[.slice a2 L c2, .int .i64 (st.fileAt f).lasts] 70 (0, 0)) := by
    rw [hw5]
    simpa using blk_put hx5 0 (.slice a2 L c2)
  have HB6 := Lib.hid (show Below w.heap.size w w5 by rw [hw5]; exact Below.setCell (HB03.out.trans (HB5.out.mono (by omega))) (by show w.heap.size ≤ w.heap.size + 1; omega) _)
  have hz6 := HB6.out.size
  have hm6 : w5.heap[m]? = _ := blk_below HBLK.out HB6.out
  rw [← hw5]
  clear hw5 hk5 hx5
  go_wp2_with fail
  have fz : ∀ i, w5.frozen? ⟨gf, i, none⟩ = false := fun i => (ownsRow_below HFI.out.1 HB6.out).frozenAt i
  have fz0 := fz (f * 2)
  have fz1 := fz (f * 2 + 1)
  clear fz
  have z0 := (HB6.out.cell (p := ⟨gf, f * 2, none⟩) hgf).trans y0
  have z1 := (HB6.out.cell (p := ⟨gf, f * 2 + 1, none⟩) hgf).trans y1
  have hgf2 : gf < w5.heap.size := by omega
  obtain ⟨SS, HSD⟩ : ∃ SS : World → Prop, Hid (SS = fun w' => w'.heap[m]? = some (.cells #[.int .i64 st.cap, vn, vl, vd, .slice (some ⟨gf, 0, none⟩) fs.length cg, .int .i64 st.armed] 64 (0, 0)) ∧ w'.heap[w.heap.size + 1]? = some (.cells #[.slice a2 L c2, .int .i64 (st.fileAt f).lasts] 70 (0, 0))) := ⟨_, Lib.hid rfl⟩
  refine wp_region_mask0 SS [3, 5] [0, 1, 3, 7, 0, 0, 63, 127] (.op 0 0 (.op 1 0 (.op 2 0 (.op 3 2 (.op 4 0 (.op 5 2 (.op 6 0 (.op 7 1 .nil)))))))) (by kernel_rfl) (by kernel_rfl) rfl (by kernel_rfl) (by kernel_rfl) ?_ ?_
  focus (rw [HSD.out]; exact ⟨hm6, hx6⟩)
  refine stepM0 rfl rfl (fun K hK => ?_)
  go_simp
  refine hK _ ?_
  clear hK K
  refine stepM0 rfl rfl (fun K hK => ?_)
  go_simp
  refine hK _ ?_
  clear hK K
  refine stepM0 rfl rfl (fun K hK => ?_)
  go_simp
  refine hK _ ?_
  clear hK K
  refine stepM2 rfl rfl ?_ (fun w1 hS => ?_) (fun K hK => ?_)
  rotate_left
  focus (rw [HSD.out] at hS; obtain ⟨s0, s1, s2, s3, s4, s5, _⟩ := cells6 hS.1; have d0 := cell_of_row _ _ 0 _ _ _ hS.2; have d1 := cell_of_row _ _ 1 _ _ _ hS.2; simp at d0 d1; go_simp; rfl)
  go_simp
  refine hK _ ?_
  clear hK K
  refine stepM0 rfl rfl (fun K hK => ?_)
  go_simp
  refine hK _ ?_
  clear hK K
  refine stepM2 rfl rfl ?_ (fun w1 hS => ?_) (fun K hK => ?_)
  rotate_left
  focus (rw [HSD.out] at hS; obtain ⟨s0, s1, s2, s3, s4, s5, _⟩ := cells6 hS.1; have d0 := cell_of_row _ _ 0 _ _ _ hS.2; have d1 := cell_of_row _ _ 1 _ _ _ hS.2; simp at d0 d1; go_simp; rfl)
  go_simp
  refine hK _ ?_
  clear hK K
  refine stepM0 rfl rfl (fun K hK => ?_)
  go_simp
  refine hK _ ?_
  clear hK K
  refine stepM1 rfl rfl (by kernel_rfl) (fun K hK => ?_)
  go_wp2
  try refine stepMnil0 ?_
  clear HSD SS
  go_wp2_with fail
  go_ret
  refine ⟨rfl, ?_⟩
  have hR := rset_fin (x := ⟨(st.fileAt f).b ++ b, (st.fileAt f).lasts⟩) HBLK.out HM.out HMR.out HEN.out HEL.out HDE.out HFI.out HFS.out hfl HB6.out HRB5.out (fun k e => .inr (Nat.le_trans (by omega) (HOB.out k (by cases a2 <;> first | exact e | cases e))))
  exact ⟨hR.1, hR.2.drew⟩
end Go.Proofs.Ytcicnjlkcbimgaa
