/- Package disk: how a disk lies in memory; laws on its blocks. -/
import Derived.Test.YtcicnjlkcbimgaaDiskPlain
import Derived.Test.YtcicnjlkcbimgaaBase2
import Derived.Test.YtcicnjlkcbimgaaFRow
import Derived.Test.YtcicnjlkcbimgaaErr
import Derived.Maps.OwnSet
import Derived.Maps.OwnOps
import Derived.Sort.KeysCollected
import Derived.StringKeys
namespace Go.Proofs.Ytcicnjlkcbimgaa
open Go.RowKit Go.Maps
theorem heap_new (w : World) (o : Obj) : (w.alloc o).heap[w.heap.size]? = some o := (MapKept.heap_alloc w o).1
theorem blk_new {w : World} {k : Nat} (o : Obj) (hk : w.heap.size = k) : (w.alloc o).heap[k]? = some o := by
  subst hk
  exact heap_new w o
theorem blk_alloc {w : World} {k : Nat} {x : Obj} (h : w.heap[k]? = some x) (o : Obj) : (w.alloc o).heap[k]? = some x :=
  (Below.heap_alloc w o k (Array.getElem?_eq_some_iff.1 h).1).trans h
theorem blk_lt {w : World} {k : Nat} {x : Obj} (h : w.heap[k]? = some x) : k < w.heap.size := (Array.getElem?_eq_some_iff.1 h).1
theorem blk_set {w : World} {k : Nat} {x : Obj} (h : w.heap[k]? = some x) (a : Addr) (v : Value) (hne : k ≠ a.block) : (w.setCell a v).heap[k]? = some x := (Below.heap_setCell w a v k hne).trans h
theorem blk_put {w : World} {b : Nat} {arr : Array Value} {t : TypeId} (h : w.heap[b]? = some (.cells arr t (0, 0))) (i : Nat) (v : Value) : (w.setCell ⟨b, i, none⟩ v).heap[b]? = some (.cells (arr.setIfInBounds i v) t (0, 0)) :=
  heap_setCell_same w b i _ t v h
theorem blk_below {w w' : World} {k : Nat} {x : Obj} (h : w.heap[k]? = some x) (hb : Below w.heap.size w w') : w'.heap[k]? = some x := (hb.block k (blk_lt h)).trans h
theorem cells1 {w : World} {b : Nat} {t : TypeId} {v0 : Value} (h : w.heap[b]? = some (.cells #[v0] t (0, 0))) : w.cell? ⟨b, 0, none⟩ = some v0 ∧ ∀ o, w.frozen? ⟨b, o, none⟩ = false :=
  ⟨cell_of_row w b 0 _ _ _ h, fun o => frozen_of_row w b o _ _ h⟩
theorem cells3 {w : World} {b : Nat} {t : TypeId} {v0 v1 v2 : Value} (h : w.heap[b]? = some (.cells #[v0, v1, v2] t (0, 0))) :
    w.cell? ⟨b, 0, none⟩ = some v0 ∧ w.cell? ⟨b, 1, none⟩ = some v1 ∧ w.cell? ⟨b, 2, none⟩ = some v2 ∧ ∀ o, w.frozen? ⟨b, o, none⟩ = false := by
  have e := fun j => cell_of_row w b j _ _ _ h
  exact ⟨e 0, e 1, e 2, fun o => frozen_of_row w b o _ _ h⟩
theorem cells6 {w : World} {b : Nat} {t : TypeId} {v0 v1 v2 v3 v4 v5 : Value} (h : w.heap[b]? = some (.cells #[v0, v1, v2, v3, v4, v5] t (0, 0))) :
    w.cell? ⟨b, 0, none⟩ = some v0 ∧ w.cell? ⟨b, 1, none⟩ = some v1 ∧ w.cell? ⟨b, 2, none⟩ = some v2 ∧ w.cell? ⟨b, 3, none⟩ = some v3 ∧ w.cell? ⟨b, 4, none⟩ = some v4 ∧ w.cell? ⟨b, 5, none⟩ = some v5 ∧ ∀ o, w.frozen? ⟨b, o, none⟩ = false := by
  have e := fun j => cell_of_row w b j _ _ _ h
  exact ⟨e 0, e 1, e 2, e 3, e 4, e 5, fun o => frozen_of_row w b o _ _ h⟩
theorem law_str : Keyed Try.prog 9 := string_keyed Try.underlying9
/-- How a pointer among a map's elements reads: as its block's number; nil as -1. -/
def ptrR (v : Value) : Option (DataW Unit × List MemPlace) :=
  match v with
  | .pointer none => some (.lit (.int .i64 (-1)), [])
  | .pointer (some ⟨b, 0, none⟩) => some (.lit (.int .i64 b), [])
  | _ => none
theorem ptrR_mk (b : Nat) : ptrR ((.pointer (some ⟨b, 0, none⟩))) = some (.lit (.int .i64 b), []) := rfl
theorem ptrR_at {v : Value} {b : Nat} {ps : List MemPlace} (h : ptrR v = some (.lit (.int .i64 b), ps)) : v = (.pointer (some ⟨b, 0, none⟩)) := by
  unfold ptrR at h
  split at h
  · simp at h
  · simp at h; obtain rfl := Int.ofNat.inj h.1; rfl
  · cases h
theorem ptrR_no {v : Value} {ps : List MemPlace} (h : ptrR v = some (.lit (.int .i64 (-1)), ps)) : v = .pointer none := by
  unfold ptrR at h
  split at h
  · rfl
  · simp at h
  · cases h
theorem key_str {s : Nm} (h : s.length ≤ maxLen) : keyOf Try.prog 9 (.string ⟨s.toArray⟩) = some (.string s) := by
  have := WideMaps.keyOf_string_mk (P := Try.prog) (k := 9) Try.underlying9 (s := ⟨s.toArray⟩) (by show s.toArray.size ≤ maxLen; simpa using h)
  simpa using this
/-- Block b is a map of names that reads as l; file i lies in block g i. -/
def DirAt (w : World) (b : Nat) (g : Nat → Nat) (l : Dir) : Prop := w.ownsMap Try.prog 9 ptrR b l.length (dirD g l)
theorem DirAt.of {w : World} {b n : Nat} {g : Nat → Nat} {l : Dir} (h : w.ownsMap Try.prog 9 ptrR b n (dirD g l)) : DirAt w b g l := by
  obtain ⟨es, clock, hb, F, _, hD⟩ := h
  refine ⟨es, clock, hb, F, ?_, hD⟩
  have := congrArg Maps.size hD
  rw [dirD_size] at this
  rw [this]
  simp [Maps.size, length_sorted]
theorem DirAt.lt {w : World} {b : Nat} {g : Nat → Nat} {l : Dir} (h : DirAt w b g l) : b < w.heap.size := World.ownsMap.lt h
theorem DirAt.at {w w' : World} {b : Nat} {g : Nat → Nat} {l : Dir} (h : DirAt w b g l) (hb : w'.heap[b]? = w.heap[b]?) : DirAt w' b g l := by
  obtain ⟨es, clock, h1, h2⟩ := h
  exact ⟨es, clock, hb.trans h1, h2⟩
theorem DirAt.congr {w : World} {b : Nat} {g g' : Nat → Nat} {l : Dir} (h : DirAt w b g l) (hg : ∀ p ∈ l, g p.2 = g' p.2) : DirAt w b g' l := by
  unfold DirAt at h ⊢
  rw [← dirD_congr hg]
  exact h
/-- A map's block is no row's. -/
theorem DirAt.ne {w : World} {b c : Nat} {g : Nat → Nat} {l : Dir} {arr : Array Value} {t : TypeId} (h : DirAt w b g l) (hc : w.heap[c]? = some (.cells arr t (0, 0))) : b ≠ c := by
  rintro rfl
  obtain ⟨es, clock, h1, _⟩ := h
  rw [hc] at h1
  cases h1
theorem dir_keys {w : World} {b : Nat} {g : Nat → Nat} {l : Dir} (h : DirAt w b g l) : ∀ p ∈ l, p.1.length ≤ maxLen := by
  intro p hp
  obtain ⟨es, clock, _, F, _, hD⟩ := h
  have hm : ((Lit.string p.1, DataW.lit (.int .i64 (g p.2))) : Lit × DataW Unit) ∈ (es.toList.map (WideElems.rg Try.prog 9 ptrR)).foldr DataW.insert [] := by
    unfold dirD at hD
    injection hD with hD
    rw [← hD]
    exact List.mem_map.2 ⟨p, hp, rfl⟩
  obtain ⟨v, hv⟩ := Maps.fit_keys F _ (mem_sorted.1 hm)
  obtain ⟨x, _, hx, hl⟩ := Maps.keyOf_str Try.underlying9 hv
  cases hx
  exact hl
/-- A box that a closure holds. -/
def BoxS (w : World) (b : Nat) (s : Nm) : Prop := w.heap[b]? = some (.cells #[.string ⟨s.toArray⟩] 9 (0, 0)) ∧ s.length ≤ maxLen
def BoxP (w : World) (b f : Nat) : Prop := w.heap[b]? = some (.cells #[(.pointer (some ⟨f, 0, none⟩))] 84 (0, 0))
/-- A deed of names as a closure. -/
def DeedAt (w : World) (F : Nat → Prop) (g : Nat → Nat) (v : Value) (x : Deed) : Prop :=
  (x.kind = 0 ∧ ∃ bf bt, v = .func (.func 33) #[] #[(.pointer (some ⟨bf, 0, none⟩)), (.pointer (some ⟨bt, 0, none⟩))] ∧ F bf ∧ F bt ∧ BoxP w bf (g x.file) ∧ BoxS w bt x.to) ∨
  (x.kind = 1 ∧ ∃ bs bf bt, v = .func (.func 38) #[] #[(.pointer (some ⟨bs, 0, none⟩)), (.pointer (some ⟨bf, 0, none⟩)), (.pointer (some ⟨bt, 0, none⟩))] ∧ F bs ∧ F bf ∧ F bt ∧ BoxS w bs x.frm ∧ BoxP w bf (g x.file) ∧ BoxS w bt x.to) ∨
  (x.kind = 2 ∧ ∃ bs, v = .func (.func 56) #[] #[(.pointer (some ⟨bs, 0, none⟩))] ∧ F bs ∧ BoxS w bs x.frm)
/-- What kind of block: a row by its element's type; else 0. -/
def kindO : Obj → Nat
  | .cells _ t _ => t + 1
  | _ => 0
/-- G's blocks are of kind n. -/
def Hits (w : World) (G : Nat → Prop) (n : Nat) : Prop := ∀ (k : Nat) (x : Obj), G k → w.heap[k]? = some x → kindO x = n
theorem hits_one {w : World} {k : Nat} {x : Obj} (h : w.heap[k]? = some x) : Hits w (fun i => i = k) (kindO x) := fun i y hi hy => by
  subst hi
  rw [h] at hy
  cases hy
  rfl
theorem hits_row {w : World} {base : Nat} {e : TypeId} {sz n : Nat} {v : Value} {xs : List Value} (h : w.ownsRow base e sz v n xs) : Hits w (fun i => v.ownBlock = some i) (e + 1) := fun i y hi hy => by
  rcases h.2 with ⟨rfl, _⟩ | ⟨g, cap, cur, rfl, _, hg, _⟩
  · cases hi
  · simp only [Value.ownBlock, Option.some.injEq] at hi
    subst hi
    rw [hg] at hy
    cases hy
    rfl
theorem hits_dir {w : World} {b : Nat} {g : Nat → Nat} {l : Dir} (h : DirAt w b g l) : Hits w (fun i => i = b) 0 := fun i y hi hy => by
  subst hi
  obtain ⟨es, clock, hb, _⟩ := h
  rw [hb] at hy
  cases hy
  rfl
theorem keep_blk {w w' : World} {G : Nat → Prop} {n k : Nat} {x : Obj} (hk : Keeps G w w') (hh : Hits w G n) (hb : w.heap[k]? = some x) (hne : kindO x ≠ n) : w'.heap[k]? = some x :=
  (hk.block k (blk_lt hb) (fun hg => hne (hh k x hg hb))).trans hb
theorem keep_row {w w' : World} {G : Nat → Prop} {n base : Nat} {e : TypeId} {sz m : Nat} {v : Value} {xs : List Value} (hk : Keeps G w w') (hh : Hits w G n) (h : w.ownsRow base e sz v m xs) (hne : e + 1 ≠ n) : w'.ownsRow base e sz v m xs :=
  ownsRow_keeps h hk fun k hv hg => by
    rcases h.2 with ⟨rfl, _⟩ | ⟨g, cap, cur, rfl, _, hb, _⟩
    · cases hv
    · simp only [Value.ownBlock, Option.some.injEq] at hv
      subst hv
      exact hne (hh _ _ hg hb)
theorem hits_frow {w : World} {v : Value} {b : List UInt8} (h : FRow w v b) : Hits w (fun i => v.ownBlock = some i) (5 + 1) := fun i y hi hy => by
  obtain ⟨cur, hc⟩ := h.blk hi
  rw [hc] at hy
  cases hy
  rfl
theorem keep_frow {w w' : World} {G : Nat → Prop} {n : Nat} {v : Value} {b : List UInt8} (hk : Keeps G w w') (hh : Hits w G n) (h : FRow w v b) (hne : 5 + 1 ≠ n) : FRow w' v b :=
  h.keeps hk fun k hv hg => by
    obtain ⟨cur, hc⟩ := h.blk hv
    exact hne (hh _ _ hg hc)
theorem DirAt.hits {w w' : World} {G : Nat → Prop} {n b : Nat} {g : Nat → Nat} {l : Dir} (h : DirAt w b g l) (hk : Keeps G w w') (hh : Hits w G n) (hne : n ≠ 0) : DirAt w' b g l :=
  h.at (hk.block _ h.lt fun hg => by
    obtain ⟨es, clock, hb, _⟩ := h
    exact hne (hh _ _ hg hb).symm)
theorem DeedAt.at {w w' : World} {F G : Nat → Prop} {g g' : Nat → Nat} {v : Value} {x : Deed} (h : DeedAt w F g v x) (hw : ∀ k, F k → (∃ a t, w.heap[k]? = some (.cells a t (0, 0)) ∧ (t = 9 ∨ t = 84)) → w'.heap[k]? = w.heap[k]?) (hF : ∀ k, F k → G k) (hg : x.kind ≤ 1 → g x.file = g' x.file) : DeedAt w' G g' v x := by
  have hs : ∀ {b : Nat} {s : Nm}, F b → BoxS w b s → BoxS w' b s := fun hb h => ⟨(hw _ hb ⟨_, _, h.1, .inl rfl⟩).trans h.1, h.2⟩
  have hp : ∀ {b f : Nat}, F b → BoxP w b f → BoxP w' b f := fun hb h => (hw _ hb ⟨_, _, h, .inr rfl⟩).trans h
  rcases h with ⟨hk, bf, bt, rfl, f1, f2, h1, h2⟩ | ⟨hk, bs, bf, bt, rfl, f1, f2, f3, h1, h2, h3⟩ | ⟨hk, bs, rfl, f1, h1⟩
  · exact .inl ⟨hk, bf, bt, rfl, hF _ f1, hF _ f2, by rw [← hg (by omega)]; exact hp f1 h1, hs f2 h2⟩
  · exact .inr (.inl ⟨hk, bs, bf, bt, rfl, hF _ f1, hF _ f2, hF _ f3, hs f1 h1, by rw [← hg (by omega)]; exact hp f2 h2, hs f3 h3⟩)
  · exact .inr (.inr ⟨hk, bs, rfl, hF _ f1, hs f1 h1⟩)
/-- The files. -/
structure FilesAt (w : World) (F : Nat → Prop) (fb : Nat → Nat) (fv : Nat → Value) (fs : List DFile) : Prop where
  fi : ∀ (i : Nat) (f : DFile), fs[i]? = some f → w.heap[fb i]? = some (.cells #[.int .i64 i, fv i, .int .i64 f.lasts] 86 (0, 0)) ∧ FRow w (fv i) f.b
  inj : ∀ i j : Nat, i < fs.length → j < fs.length → fb i = fb j → i = j
  apart : ∀ i j g : Nat, i < fs.length → j < fs.length → (fv i).ownBlock = some g → (fv j).ownBlock = some g → i = j
  ff : ∀ i, i < fs.length → F (fb i) ∧ ∀ g, (fv i).ownBlock = some g → F g
theorem FilesAt.keeps {w w' : World} {F G : Nat → Prop} {fb : Nat → Nat} {fv : Nat → Value} {fs : List DFile} (h : FilesAt w F fb fv fs) (hk : Keeps G w w') (hG : ∀ k, F k → ¬ G k) : FilesAt w' F fb fv fs :=
  ⟨fun i f hf => by
    obtain ⟨h1, h2⟩ := h.fi i f hf
    have hi : i < fs.length := (List.getElem?_eq_some_iff.1 hf).1
    exact ⟨(hk.block _ (blk_lt h1) (hG _ (h.ff i hi).1)).trans h1, h2.keeps hk fun k hv => hG _ ((h.ff i hi).2 k hv)⟩, h.inj, h.apart, h.ff⟩
theorem FilesAt.hits {w w' : World} {F G : Nat → Prop} {n : Nat} {fb : Nat → Nat} {fv : Nat → Value} {fs : List DFile} (h : FilesAt w F fb fv fs) (hk : Keeps G w w') (hh : Hits w G n) (h1 : 86 + 1 ≠ n) (h2 : 5 + 1 ≠ n) : FilesAt w' F fb fv fs :=
  ⟨fun i f hf => ⟨keep_blk hk hh (h.fi i f hf).1 h1, keep_frow hk hh (h.fi i f hf).2 h2⟩, h.inj, h.apart, h.ff⟩
theorem FilesAt.mono {w : World} {F G : Nat → Prop} {fb : Nat → Nat} {fv : Nat → Value} {fs : List DFile} (h : FilesAt w F fb fv fs) (hF : ∀ k, F k → G k) : FilesAt w G fb fv fs :=
  ⟨h.fi, h.inj, h.apart, fun i hi => ⟨hF _ (h.ff i hi).1, fun g hg => hF _ ((h.ff i hi).2 g hg)⟩⟩
/-- The deeds that don't last. -/
structure DeedsAt (w : World) (F : Nat → Prop) (fb : Nat → Nat) (vd : Value) (ds : List Value) (xs : List Deed) : Prop where
  row : w.ownsRow 0 88 1 vd xs.length ds
  dd : ∀ (i : Nat) (x : Deed), xs[i]? = some x → ∃ v, ds[i]? = some v ∧ DeedAt w F fb v x
  fvd : ∀ g, vd.ownBlock = some g → F g
theorem DeedsAt.keeps {w w' : World} {F G : Nat → Prop} {fb : Nat → Nat} {vd : Value} {ds : List Value} {xs : List Deed} (h : DeedsAt w F fb vd ds xs) (hk : Keeps G w w') (hG : ∀ k, F k → ¬ G k) : DeedsAt w' F fb vd ds xs :=
  ⟨ownsRow_keeps h.row hk fun k hv => hG _ (h.fvd k hv), fun i x hx => by
    obtain ⟨v, hv, hd⟩ := h.dd i x hx
    exact ⟨v, hv, hd.at (fun k hF ⟨a, t, hb, _⟩ => hk.block _ (blk_lt hb) (hG _ hF)) (fun _ h => h) (fun _ => rfl)⟩, h.fvd⟩
theorem DeedsAt.hits {w w' : World} {F G : Nat → Prop} {n : Nat} {fb : Nat → Nat} {vd : Value} {ds : List Value} {xs : List Deed} (h : DeedsAt w F fb vd ds xs) (hk : Keeps G w w') (hh : Hits w G n)
    (h1 : 88 + 1 ≠ n) (h2 : 9 + 1 ≠ n) (h3 : 84 + 1 ≠ n) : DeedsAt w' F fb vd ds xs :=
  ⟨keep_row hk hh h.row h1, fun i x hx => by
    obtain ⟨v, hv, hd⟩ := h.dd i x hx
    refine ⟨v, hv, hd.at (fun k hF ⟨a, t, hb, ht⟩ => hk.block _ (blk_lt hb) fun hg => ?_) (fun _ h => h) (fun _ => rfl)⟩
    have := hh _ _ hg hb
    rcases ht with rfl | rfl
    · exact h2 this
    · exact h3 this, h.fvd⟩
theorem DeedsAt.mono {w : World} {F G : Nat → Prop} {fb fb' : Nat → Nat} {vd : Value} {ds : List Value} {xs : List Deed} (h : DeedsAt w F fb vd ds xs) (hF : ∀ k, F k → G k) (hg : ∀ x ∈ xs, x.kind ≤ 1 → fb x.file = fb' x.file) : DeedsAt w G fb' vd ds xs :=
  ⟨h.row, fun i x hx => by
    obtain ⟨v, hv, hd⟩ := h.dd i x hx
    exact ⟨v, hv, hd.at (fun _ _ _ => rfl) hF (hg x (List.mem_of_getElem? hx))⟩, fun g hg => hF _ (h.fvd g hg)⟩
/-- Where a disk lies. -/
structure DW where
  bn : Nat
  bl : Nat
  vd : Value
  ds : List Value
  fb : Nat → Nat
  fv : Nat → Value
structure DiskAt (w : World) (d : Nat) (F : Nat → Prop) (q : DW) (st : Dk) : Prop where
  blk : w.heap[d]? = some (.cells #[.int .i64 st.cap, .int .i64 st.files.length, .map (some q.bn), .map (some q.bl), q.vd, .int .i64 st.armed] 82 (0, 0))
  now : DirAt w q.bn q.fb st.now
  last : DirAt w q.bl q.fb st.lasting
  ne : q.bn ≠ q.bl
  deeds : DeedsAt w F q.fb q.vd q.ds st.deeds
  files : FilesAt w F q.fb q.fv st.files
  fd : F d
  fn : F q.bn
  fl : F q.bl
/-- Nothing of the disk's has turned. -/
theorem DiskAt.keeps {w w' : World} {d : Nat} {F G : Nat → Prop} {q : DW} {st : Dk} (h : DiskAt w d F q st) (hk : Keeps G w w') (hG : ∀ k, F k → ¬ G k) : DiskAt w' d F q st :=
  ⟨(hk.block _ (blk_lt h.blk) (hG _ h.fd)).trans h.blk, h.now.at (hk.block _ h.now.lt (hG _ h.fn)), h.last.at (hk.block _ h.last.lt (hG _ h.fl)), h.ne, h.deeds.keeps hk hG, h.files.keeps hk hG, h.fd, h.fn, h.fl⟩
theorem DiskAt.below {w w' : World} {d : Nat} {F : Nat → Prop} {q : DW} {st : Dk} (h : DiskAt w d F q st) (hb : Below w.heap.size w w') : DiskAt w' d F q st :=
  h.keeps (G := fun _ => False) ⟨hb.os, hb.tape, hb.output, hb.size, fun k hk _ => hb.block k hk⟩ (fun _ _ hf => hf)
theorem DiskAt.mono {w : World} {d : Nat} {F G : Nat → Prop} {q : DW} {st : Dk} (h : DiskAt w d F q st) (hF : ∀ k, F k → G k) : DiskAt w d G q st :=
  ⟨h.blk, h.now, h.last, h.ne, h.deeds.mono hF (fun _ _ _ => rfl), h.files.mono hF, hF _ h.fd, hF _ h.fn, hF _ h.fl⟩
/-- The file that a name stands for. -/
theorem DiskAt.file {w : World} {d : Nat} {F : Nat → Prop} {q : DW} {st : Dk} (h : DiskAt w d F q st) {i : Nat} (hi : i < st.files.length) :
    w.heap[q.fb i]? = some (.cells #[.int .i64 i, q.fv i, .int .i64 (st.fileAt i).lasts] 86 (0, 0)) ∧ FRow w (q.fv i) (st.fileAt i).b := by
  have e := List.getElem?_eq_getElem hi
  have hf : st.fileAt i = st.files[i] := by unfold Dk.fileAt; rw [e]; rfl
  rw [hf]
  exact h.files.fi i _ e
/-- A disk somewhere in blocks F; and what has become of it. -/
def DiskIs (w : World) (d : Nat) (F : Nat → Prop) (st : Dk) : Prop := ∃ q, DiskAt w d F q st
theorem DeedAt.lt {w : World} {F : Nat → Prop} {g : Nat → Nat} {v : Value} {x : Deed} (h : DeedAt w F g v x) : DeedAt w (fun k => F k ∧ k < w.heap.size) g v x := by
  rcases h with ⟨hk, bf, bt, rfl, f1, f2, h1, h2⟩ | ⟨hk, bs, bf, bt, rfl, f1, f2, f3, h1, h2, h3⟩ | ⟨hk, bs, rfl, f1, h1⟩
  · exact .inl ⟨hk, bf, bt, rfl, ⟨f1, blk_lt h1⟩, ⟨f2, blk_lt h2.1⟩, h1, h2⟩
  · exact .inr (.inl ⟨hk, bs, bf, bt, rfl, ⟨f1, blk_lt h1.1⟩, ⟨f2, blk_lt h2⟩, ⟨f3, blk_lt h3.1⟩, h1, h2, h3⟩)
  · exact .inr (.inr ⟨hk, bs, rfl, ⟨f1, blk_lt h1.1⟩, h1⟩)
/-- Only blocks that are there count. -/
theorem DiskAt.trim {w : World} {d : Nat} {F : Nat → Prop} {q : DW} {st : Dk} (h : DiskAt w d F q st) : DiskAt w d (fun k => F k ∧ k < w.heap.size) q st :=
  ⟨h.blk, h.now, h.last, h.ne, ⟨h.deeds.row, fun i x hx => by
      obtain ⟨v, hv, hd⟩ := h.deeds.dd i x hx
      exact ⟨v, hv, hd.lt⟩, fun g hg => ⟨h.deeds.fvd g hg, (h.deeds.row.lt g hg).2⟩⟩,
    ⟨h.files.fi, h.files.inj, h.files.apart, fun i hi => by
      obtain ⟨h1, h2⟩ := h.files.fi i _ (List.getElem?_eq_getElem hi)
      exact ⟨⟨(h.files.ff i hi).1, blk_lt h1⟩, fun g hg => ⟨(h.files.ff i hi).2 g hg, h2.lt hg⟩⟩⟩, ⟨h.fd, blk_lt h.blk⟩, ⟨h.fn, h.now.lt⟩, ⟨h.fl, h.last.lt⟩⟩
def DiskTo (w w' : World) (d : Nat) (F : Nat → Prop) (st : Dk) : Prop := DiskIs w' d (fun k => (F k ∨ w.heap.size ≤ k) ∧ k < w'.heap.size) st ∧ Keeps F w w'
theorem DiskAt.to {w w' : World} {d : Nat} {F G : Nat → Prop} {q : DW} {st : Dk} (h : DiskAt w' d G q st) (hk : Keeps F w w') (hG : ∀ k, G k → F k ∨ w.heap.size ≤ k) : DiskTo w w' d F st := ⟨⟨q, (h.mono hG).trim⟩, hk⟩
theorem DiskAt.same {w : World} {d : Nat} {F : Nat → Prop} {q : DW} {st : Dk} (h : DiskAt w d F q st) : DiskTo w w d F st := h.to (Keeps.refl _ _) fun _ h => .inl h
theorem keeps_below {w w' : World} (F : Nat → Prop) (hb : Below w.heap.size w w') : Keeps F w w' := ⟨hb.os, hb.tape, hb.output, hb.size, fun k hk _ => hb.block k hk⟩
theorem DiskAt.later {w w' : World} {d : Nat} {F : Nat → Prop} {q : DW} {st : Dk} (h : DiskAt w d F q st) (hb : Below w.heap.size w w') : DiskTo w w' d F st :=
  (h.below hb).to (keeps_below F hb) fun _ h => .inl h
/-- A field of the disk's is set. -/
theorem DiskAt.blkTo {w w' : World} {d : Nat} {F : Nat → Prop} {q : DW} {st : Dk} (h : DiskAt w d F q st) (hk : Keeps (fun k => k = d) w w') (c : Nat) (a : Int)
    (hb : w'.heap[d]? = some (.cells #[.int .i64 c, .int .i64 st.files.length, .map (some q.bn), .map (some q.bl), q.vd, .int .i64 a] 82 (0, 0))) : DiskAt w' d F q ⟨c, st.now, st.lasting, st.deeds, st.files, a⟩ :=
  have hh := hits_one h.blk
  ⟨hb, h.now.hits hk hh (by simp [kindO]), h.last.hits hk hh (by simp [kindO]), h.ne, h.deeds.hits hk hh (by simp [kindO]) (by simp [kindO]) (by simp [kindO]), h.files.hits hk hh (by simp [kindO]) (by simp [kindO]), h.fd, h.fn, h.fl⟩
theorem keeps_set {w : World} {b : Nat} (o : Nat) (v : Value) : Keeps (fun k => k = b) w (w.setCell ⟨b, o, none⟩ v) := (Keeps.refl _ _).setCell _ _ fun _ => rfl
theorem DiskAt.armTo {w : World} {d : Nat} {F : Nat → Prop} {q : DW} {st : Dk} (h : DiskAt w d F q st) (n : Int) : DiskAt (w.setCell ⟨d, 5, none⟩ (.int .i64 n)) d F q { st with armed := n } :=
  h.blkTo (keeps_set _ _) st.cap n (by simpa using blk_put h.blk 5 (.int .i64 n))
end Go.Proofs.Ytcicnjlkcbimgaa
