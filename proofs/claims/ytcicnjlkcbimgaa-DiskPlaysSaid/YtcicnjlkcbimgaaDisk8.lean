/- Package disk: what becomes of one file; Sync, Append. -/
import Derived.Test.YtcicnjlkcbimgaaDisk7
namespace Go.Proofs.Ytcicnjlkcbimgaa
open Go.RowKit Go.Maps
theorem DeedsAt.kept {w w' : World} {F : Nat → Prop} {fb : Nat → Nat} {vd : Value} {ds : List Value} {xs : List Deed} (h : DeedsAt w F fb vd ds xs)
    (hne : ∀ (k : Nat) (x : Obj), w.heap[k]? = some x → (kindO x = 88 + 1 ∨ kindO x = 9 + 1 ∨ kindO x = 84 + 1) → w'.heap[k]? = some x) : DeedsAt w' F fb vd ds xs := by
  refine ⟨ownsRow_at h.row fun k hv => ?_, fun i x hx => ?_, h.fvd⟩
  · rcases h.row.2 with ⟨e, _⟩ | ⟨g, cap, cur, e, _, hb, _⟩
    · rw [e] at hv; cases hv
    · rw [e] at hv
      simp only [Value.ownBlock, Option.some.injEq] at hv
      subst hv
      exact (hne _ _ hb (.inl rfl)).trans hb.symm
  · obtain ⟨v, hv, hd⟩ := h.dd i x hx
    exact ⟨v, hv, hd.at (fun k _ ⟨a, t, hb, ht⟩ => (hne _ _ hb (by rcases ht with rfl | rfl <;> simp [kindO])).trans hb.symm) (fun _ h => h) (fun _ => rfl)⟩
/-- One file has turned: its struct, its row, or its row is a new one. -/
theorem FilesAt.one {w w' : World} {F G : Nat → Prop} {fb : Nat → Nat} {fv : Nat → Value} {fs : List DFile} (h : FilesAt w F fb fv fs) {i : Nat} (hi : i < fs.length) (hk : Keeps G w w')
    (hG : ∀ k, k < w.heap.size → G k → k = fb i ∨ (fv i).ownBlock = some k) (f' : DFile) (v' : Value) (hb : w'.heap[fb i]? = some (.cells #[.int .i64 i, v', .int .i64 f'.lasts] 86 (0, 0)))
    (hr : FRow w' v' f'.b) (hv : ∀ g, v'.ownBlock = some g → (fv i).ownBlock = some g ∨ w.heap.size ≤ g) :
    FilesAt w' (fun k => F k ∨ w.heap.size ≤ k) fb (upd fv i v') (fs.set i f') := by
  have hfi := h.fi i _ (List.getElem?_eq_getElem hi)
  have hrl : ∀ j g, j < fs.length → (fv j).ownBlock = some g → g < w.heap.size := fun j g hj e => (h.fi j _ (List.getElem?_eq_getElem hj)).2.lt e
  refine ⟨fun j f hj => ?_, fun a b ha hb => ?_, fun a b g ha hb e1 e2 => ?_, fun j hj => ?_⟩
  · have hjl : j < fs.length := by
      have := (List.getElem?_eq_some_iff.1 hj).1
      simpa using this
    by_cases e : j = i
    · subst e
      rw [List.getElem?_set_self hjl] at hj
      simp only [Option.some.injEq] at hj
      subst hj
      rw [upd_same]
      exact ⟨hb, hr⟩
    · rw [List.getElem?_set_ne (Ne.symm e)] at hj
      have hv1 : upd fv i v' j = fv j := if_neg e
      rw [hv1]
      obtain ⟨h1, h2⟩ := h.fi j f hj
      have hn1 : ¬ G (fb j) := fun hg => by
        rcases hG _ (blk_lt h1) hg with e1 | e1
        · exact e (h.inj j i hjl hi e1)
        · have := hits_frow hfi.2 _ _ e1 h1
          simp [kindO] at this
      have hn2 : ∀ g, (fv j).ownBlock = some g → ¬ G g := fun g hg hg2 => by
        rcases hG _ (hrl j g hjl hg) hg2 with e1 | e1
        · have := hits_frow h2 _ _ hg (e1 ▸ hfi.1)
          simp [kindO] at this
        · exact e (h.apart j i g hjl hi hg e1)
      exact ⟨(hk.block _ (blk_lt h1) hn1).trans h1, h2.keeps hk hn2⟩
  · simp only [List.length_set] at ha hb
    exact h.inj a b ha hb
  · simp only [List.length_set] at ha hb
    unfold upd at e1 e2
    split at e1 <;> split at e2
    · omega
    · rename_i ea eb
      rcases hv g e1 with e3 | e3
      · exact absurd (h.apart b i g hb hi e2 e3) eb
      · have := hrl b g hb e2
        omega
    · rename_i ea eb
      rcases hv g e2 with e3 | e3
      · exact absurd (h.apart a i g ha hi e1 e3) ea
      · have := hrl a g ha e1
        omega
    · exact h.apart a b g ha hb e1 e2
  · simp only [List.length_set] at hj
    refine ⟨.inl (h.ff j hj).1, fun g hg => ?_⟩
    unfold upd at hg
    split at hg
    · exact (hv g hg).imp (fun e => (h.ff i hi).2 g e) id
    · exact .inl ((h.ff j hj).2 g hg)
theorem DiskAt.one {w w' : World} {d : Nat} {F G : Nat → Prop} {q : DW} {st : Dk} (h : DiskAt w d F q st) {i : Nat} (hi : i < st.files.length) (hk : Keeps G w w')
    (hG : ∀ k, k < w.heap.size → G k → k = q.fb i ∨ (q.fv i).ownBlock = some k) (f' : DFile) (v' : Value) (hb : w'.heap[q.fb i]? = some (.cells #[.int .i64 i, v', .int .i64 f'.lasts] 86 (0, 0)))
    (hr : FRow w' v' f'.b) (hv : ∀ g, v'.ownBlock = some g → (q.fv i).ownBlock = some g ∨ w.heap.size ≤ g) :
    DiskAt w' d (fun k => F k ∨ w.heap.size ≤ k) { q with fv := upd q.fv i v' } (st.setF i f') := by
  obtain ⟨h1, h2⟩ := h.file hi
  have hne : ∀ (k : Nat) (x : Obj), w.heap[k]? = some x → kindO x ≠ 86 + 1 → kindO x ≠ 5 + 1 → w'.heap[k]? = some x := fun k x hx n1 n2 =>
    (hk.block _ (blk_lt hx) fun hg => by
      rcases hG _ (blk_lt hx) hg with e | e
      · subst e
        rw [h1] at hx
        cases hx
        exact n1 rfl
      · exact n2 (hits_frow h2 _ _ e hx)).trans hx
  have hd : ∀ {b : Nat} {l : Dir}, DirAt w b q.fb l → DirAt w' b q.fb l := fun hD => hD.at (by
    obtain ⟨es, clock, hx, _⟩ := hD
    exact (hne _ _ hx (by simp [kindO]) (by simp [kindO])).trans hx.symm)
  refine ⟨?_, hd h.now, hd h.last, h.ne, (h.deeds.kept fun k x hx ht => hne k x hx (by rcases ht with e | e | e <;> rw [e] <;> simp) (by rcases ht with e | e | e <;> rw [e] <;> simp)).mono (fun _ h => .inl h) (fun _ _ _ => rfl), h.files.one hi hk hG f' v' hb hr hv, .inl h.fd, .inl h.fn, .inl h.fl⟩
  rw [show (st.setF i f').files.length = st.files.length by simp [Dk.setF]]
  exact hne _ _ h.blk (by simp [kindO]) (by simp [kindO])
set_option maxRecDepth 100000 in
set_option maxHeartbeats 1000000 in
theorem sync_any (d : Nat) (F : Nat → Prop) (q : DW) (st : Dk) (s : Nm) (K : Nat) (w : World) (h : DiskAt w d F q st) (hok : DkOk K st) (hs : s.length ≤ maxLen) :
    Calls Try.prog 12 #[(.pointer (some ⟨d, 0, none⟩)), .string ⟨s.toArray⟩] w fun e w' => e = .returned (errV (st.sync s).1) ∧ DiskTo w w' d F (st.sync s).2 := by
  have H := Lib.hid h
  have HOK := Lib.hid hok
  by_cases hf : (st.fnd s).1 = 0
  · obtain ⟨i, hi⟩ : ∃ i, i = (st.fnd s).2 := ⟨_, rfl⟩
    have e : st.sync s = (0, (st.setF i ⟨(st.fileAt i).b, (st.fileAt i).b.length⟩).did) := by unfold Dk.sync; rw [if_neg (by rw [hf]; simp), hi]
    rw [e]
    have hil : i < st.files.length := by rw [hi]; exact hok.fnd (by rw [hf]; simp)
    have HF := Lib.hid hf
    have HI := Lib.hid hi
    obtain ⟨h1, h2⟩ := h.file hil
    have H1 := Lib.hid h1
    have H2 := Lib.hid h2
    obtain ⟨a, c, hv, -⟩ := h2.len
    have HV := Lib.hid hv
    obtain ⟨c0, c1, c2, cf⟩ := cells3 h1
    rw [hv] at c1
    have hff := (h.files.ff i hil).1
    clear e hf h hok h1 h2 c0 hv hi
    go_enter Try.func12, Try.ntmps12
    go_wp2_with fail
    refine (find_any d F q st s _ H.out hs).mono ?_
    rintro e w' ⟨rfl, rfl⟩
    rw [if_pos HF.out, HF.out, Int.natCast_zero, errV_zero, ← HI.out]
    go_wp2_with fail
    have h6 := H.out.one hil (keeps_set (w := w) (b := q.fb i) 2 (.int .i64 (st.fileAt i).b.length)) (fun k _ e => .inl e) ⟨(st.fileAt i).b, (st.fileAt i).b.length⟩ (q.fv i) (by simpa using blk_put H1.out 2 (.int .i64 (st.fileAt i).b.length)) (keep_frow (keeps_set _ _) (hits_one H1.out) H2.out (by simp [kindO])) (fun g hg => .inl hg)
    refine (did_any d _ _ _ _ h6 HOK.out.armed.1 HOK.out.armed.2).mono ?_
    rintro e w5 ⟨rfl, h5, hk5⟩
    have H5 := Lib.hid (h5.to (((keeps_set (w := w) (b := q.fb i) 2 _).mono (G := F) fun _ _ e => e ▸ hff).trans (hk5.mono (G := F) fun _ _ e => e ▸ H.out.fd) fun _ _ h => h) (fun _ h => h))
    clear h5 hk5 h6
    go_wp2_with fail
    go_ret
    exact ⟨rfl, H5.out⟩
  · have e : st.sync s = ((st.fnd s).1, st) := by unfold Dk.sync; rw [if_pos hf]
    rw [e]
    have HF := Lib.hid hf
    have HE := Lib.hid (errV_ne (k := ((st.fnd s).1 : Int)) (by omega))
    clear e hf h hok
    go_enter Try.func12, Try.ntmps12
    go_wp2_with fail
    refine (find_any d F q st s _ H.out hs).mono ?_
    rintro e w' ⟨rfl, rfl⟩
    rw [if_neg HF.out, HE.out]
    go_wp2_with fail
    go_ret
    exact ⟨by rw [HE.out]; rfl, H.out.same⟩
end Go.Proofs.Ytcicnjlkcbimgaa
