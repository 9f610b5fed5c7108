/- Joined texts: Disk6, Disk7, Disk8, BytesClone, Disk9, Disk10, Disk11, Disk12, Disk13, Disk14, Disk15, DiskPicks, Iter, DiskNames, DiskS, Ref07. -/
import Derived.Test.YtcicnjlkcbimgaaDp1
import Derived.Maps.RangeWalk
import Derived.LoopTactic
import Derived.Test.YtcicnjlkcbimgaaRows
import Derived.OwnWalk
import Derived.IntWalk
import Derived.Laws.BitsAllLaws
import Derived.Shelf.SlMaps.Clone
import Derived.Deep.AppendLies
import Derived.Shelf.SlIter.Nil
import Derived.Shelf.SortM.Plain
import Derived.Shelf.SortM.SortNone
import Derived.Ground.GgzProg
import Derived.Ground.SlgmProg
import Derived.Test.YtcicnjlkcbimgaaProg
/- Package disk: Remove, Rename, Arm, Down, Size. -/
namespace Go.Proofs.Ytcicnjlkcbimgaa
open Go.RowKit Go.Maps
set_option maxRecDepth 100000 in
set_option maxHeartbeats 1000000 in
theorem remove_any (d : Nat) (F : Nat → Prop) (q : DW) (st : Dk) (s : Nm) (K : Nat) (w : World) (h : DiskAt w d F q st) (hok : DkOk K st) (hK : K ≤ 1099511627776) (hs : s.length ≤ maxLen) :
    Calls Try.prog 43 #[(.pointer (some ⟨d, 0, none⟩)), .string ⟨s.toArray⟩] w fun e w' => e = .returned (errV (st.remove s).1) ∧ DiskTo w w' d F (st.remove s).2 := by
  have hb0 : Below w.heap.size w (w.alloc (.cells #[.string ⟨s.toArray⟩] 9)) := (by repeat (first | (with_reducible exact Below.refl _ _) | (with_reducible refine Below.setCell ?_ ?_ _) | (with_reducible refine Below.alloc ?_ ?_ _) | (with_reducible refine Below.drewN ?_ _) | (with_reducible refine Below.drew ?_) | (with_reducible exact Nat.le_refl _) | (focus (simp only [World.size_alloc, World.size_setCell, World.size_drew, World.size_drewN]; omega)) | omega | exact Nat.le_refl _ | (focus (simp; done)) | (focus (simp; omega))))
  have H0 := Lib.hid (h.below hb0)
  have HT := Lib.hid (h.later hb0)
  have HOK := Lib.hid hok
  clear hok h hb0
  by_cases hf : (st.fnd s).1 = 0
  · have e : st.remove s = (0, st.turn ⟨2, s, [], 0⟩) := by unfold Dk.remove; rw [if_neg (by rw [hf]; simp)]
    rw [e]
    have HF := Lib.hid hf
    clear e hf
    go_enter Try.func43, Try.ntmps43
    go_wp2_with fail
    refine (find_any d F q st s _ H0.out hs).mono ?_
    rintro e w' ⟨rfl, rfl⟩
    rw [if_pos HF.out, HF.out, Int.natCast_zero, errV_zero]
    go_wp2_with fail
    refine (turn_any d (fun k => F k ∨ w.heap.size ≤ k) q st _ ⟨2, s, [], 0⟩ K _ (H0.out.mono fun _ h => .inl h) HOK.out hK (.inr (.inr ⟨rfl, _, rfl, .inr (Nat.le_refl _), blk_new _ rfl, hs⟩))).mono ?_
    rintro e w5 ⟨rfl, h5⟩
    have H5 := Lib.hid (h5.from ((Keeps.refl F w).alloc _))
    clear h5
    go_wp2_with fail
    go_ret
    exact ⟨rfl, H5.out⟩
  · have e : st.remove s = ((st.fnd s).1, st) := by unfold Dk.remove; rw [if_pos hf]
    rw [e]
    have HF := Lib.hid hf
    have HE := Lib.hid (errV_ne (k := ((st.fnd s).1 : Int)) (by omega))
    clear e hf
    go_enter Try.func43, Try.ntmps43
    go_wp2_with fail
    refine (find_any d F q st s _ H0.out hs).mono ?_
    rintro e w' ⟨rfl, rfl⟩
    rw [if_neg HF.out, HE.out]
    go_wp2_with fail
    go_ret
    exact ⟨by rw [HE.out]; rfl, HT.out⟩
set_option maxRecDepth 100000 in
set_option maxHeartbeats 1000000 in
theorem rename_any (d : Nat) (F : Nat → Prop) (q : DW) (st : Dk) (s t : Nm) (K : Nat) (w : World) (h : DiskAt w d F q st) (hok : DkOk K st) (hK : K ≤ 1099511627776) (hs : s.length ≤ maxLen) (ht : t.length ≤ maxLen) :
    Calls Try.prog 16 #[(.pointer (some ⟨d, 0, none⟩)), .string ⟨s.toArray⟩, .string ⟨t.toArray⟩] w fun e w' => e = .returned (errV (st.rename s t).1) ∧ DiskTo w w' d F (st.rename s t).2 := by
  have hb0 : Below w.heap.size w ((w.alloc (.cells #[.string ⟨s.toArray⟩] 9)).alloc (.cells #[.string ⟨t.toArray⟩] 9)) := (by repeat (first | (with_reducible exact Below.refl _ _) | (with_reducible refine Below.setCell ?_ ?_ _) | (with_reducible refine Below.alloc ?_ ?_ _) | (with_reducible refine Below.drewN ?_ _) | (with_reducible refine Below.drew ?_) | (with_reducible exact Nat.le_refl _) | (focus (simp only [World.size_alloc, World.size_setCell, World.size_drew, World.size_drewN]; omega)) | omega | exact Nat.le_refl _ | (focus (simp; done)) | (focus (simp; omega))))
  have H0 := Lib.hid (h.below hb0)
  have HL := Lib.hid (fun W (hb : Below w.heap.size w W) => h.later hb)
  have HB := Lib.hid (fun W (hb : Below w.heap.size w W) => h.below hb)
  have HOK := Lib.hid hok
  clear hok h hb0
  by_cases hf : (st.fnd s).1 = 0
  · have HF := Lib.hid hf
    cases hn : namedB t with
    | false =>
      have e : st.rename s t = (1, st) := by unfold Dk.rename; rw [if_neg (by rw [hf]; simp), if_pos hn]
      rw [e]
      have HN := Lib.hid hn
      clear e hf hn
      go_enter Try.func16, Try.ntmps16
      go_wp2_with fail
      refine (find_any d F q st s _ H0.out hs).mono ?_
      rintro e w' ⟨rfl, rfl⟩
      rw [if_pos HF.out, HF.out, Int.natCast_zero, errV_zero]
      go_wp2_with fail
      refine (named_any t _ ht).mono ?_
      rintro e w' ⟨rfl, rfl⟩
      rw [HN.out]
      go_wp2_with fail
      go_ret
      exact ⟨rfl, HL.out _ (by repeat (first | (with_reducible exact Below.refl _ _) | (with_reducible refine Below.setCell ?_ ?_ _) | (with_reducible refine Below.alloc ?_ ?_ _) | (with_reducible refine Below.drewN ?_ _) | (with_reducible refine Below.drew ?_) | (with_reducible exact Nat.le_refl _) | (focus (simp only [World.size_alloc, World.size_setCell, World.size_drew, World.size_drewN]; omega)) | omega | exact Nat.le_refl _ | (focus (simp; done)) | (focus (simp; omega))))⟩
    | true =>
      have e : st.rename s t = (0, st.turn ⟨1, s, t, (st.fnd s).2⟩) := by unfold Dk.rename; rw [if_neg (by rw [hf]; simp), if_neg (by rw [hn]; simp)]
      rw [e]
      have HN := Lib.hid hn
      clear e hf hn
      go_enter Try.func16, Try.ntmps16
      go_wp2_with fail
      refine (find_any d F q st s _ H0.out hs).mono ?_
      rintro e w' ⟨rfl, rfl⟩
      rw [if_pos HF.out, HF.out, Int.natCast_zero, errV_zero]
      go_wp2_with fail
      refine (named_any t _ ht).mono ?_
      rintro e w' ⟨rfl, rfl⟩
      rw [HN.out]
      go_wp2_with fail
      refine (turn_any d (fun k => F k ∨ w.heap.size ≤ k) q st _ ⟨1, s, t, (st.fnd s).2⟩ K _ ((HB.out _ (by repeat (first | (with_reducible exact Below.refl _ _) | (with_reducible refine Below.setCell ?_ ?_ _) | (with_reducible refine Below.alloc ?_ ?_ _) | (with_reducible refine Below.drewN ?_ _) | (with_reducible refine Below.drew ?_) | (with_reducible exact Nat.le_refl _) | (focus (simp only [World.size_alloc, World.size_setCell, World.size_drew, World.size_drewN]; omega)) | omega | exact Nat.le_refl _ | (focus (simp; done)) | (focus (simp; omega))))).mono fun _ h => .inl h) HOK.out hK (.inr (.inl ⟨rfl, _, _, _, rfl, .inr (Nat.le_refl _), .inr (by omega), .inr (by omega), ⟨blk_alloc (blk_alloc (blk_new _ rfl) _) _, hs⟩, blk_new _ (by simp), blk_alloc (blk_new _ (by simp)) _, ht⟩))).mono ?_
      rintro e w5 ⟨rfl, h5⟩
      have H5 := Lib.hid (h5.from ((((Keeps.refl F w).alloc _).alloc _).alloc _))
      clear h5
      go_wp2_with fail
      go_ret
      exact ⟨rfl, H5.out⟩
  · have e : st.rename s t = ((st.fnd s).1, st) := by unfold Dk.rename; rw [if_pos hf]
    rw [e]
    have HF := Lib.hid hf
    have HE := Lib.hid (errV_ne (k := ((st.fnd s).1 : Int)) (by omega))
    clear e hf
    go_enter Try.func16, Try.ntmps16
    go_wp2_with fail
    refine (find_any d F q st s _ H0.out hs).mono ?_
    rintro e w' ⟨rfl, rfl⟩
    rw [if_neg HF.out, HE.out]
    go_wp2_with fail
    go_ret
    exact ⟨by rw [HE.out]; rfl, HL.out _ (by repeat (first | (with_reducible exact Below.refl _ _) | (with_reducible refine Below.setCell ?_ ?_ _) | (with_reducible refine Below.alloc ?_ ?_ _) | (with_reducible refine Below.drewN ?_ _) | (with_reducible refine Below.drew ?_) | (with_reducible exact Nat.le_refl _) | (focus (simp only [World.size_alloc, World.size_setCell, World.size_drew, World.size_drewN]; omega)) | omega | exact Nat.le_refl _ | (focus (simp; done)) | (focus (simp; omega))))⟩
set_option maxRecDepth 100000 in
theorem arm_any (d : Nat) (F : Nat → Prop) (q : DW) (st : Dk) (n : Int) (w : World) (h : DiskAt w d F q st) :
    Calls Try.prog 15 #[(.pointer (some ⟨d, 0, none⟩)), .int .i64 n] w fun e w' => e = .returned (errV (st.arm n).1) ∧ DiskTo w w' d F (st.arm n).2 := by
  have H := Lib.hid h
  obtain ⟨c0, c1, c2, c3, c4, c5, cf⟩ := cells6 h.blk
  clear h c0 c1 c2 c3 c4
  by_cases ha : st.armed = 0
  · have e : st.arm n = (12, st) := by unfold Dk.arm; rw [if_pos ha]
    rw [e]
    have HA := Lib.hid ha
    clear e ha
    go_enter Try.func15, Try.ntmps15
    go_wp2_with fail
    refine (up_any d F q st _ H.out).mono ?_
    rintro e w' ⟨rfl, rfl⟩
    rw [if_pos HA.out, errV_ne (by omega)]
    go_wp2
    go_ret
    exact ⟨rfl, H.out.same⟩
  · have HA := Lib.hid ha
    by_cases hn : n < 0
    · have e : st.arm n = (1, st) := by unfold Dk.arm; rw [if_neg ha, if_pos hn]
      rw [e]
      clear e ha
      go_enter Try.func15, Try.ntmps15
      go_wp2_with fail
      refine (up_any d F q st _ H.out).mono ?_
      rintro e w' ⟨rfl, rfl⟩
      rw [if_neg HA.out, errV_zero]
      go_wp2
      go_ret
      exact ⟨rfl, H.out.same⟩
    · have e : st.arm n = (0, { st with armed := n }) := by unfold Dk.arm; rw [if_neg ha, if_neg hn]
      rw [e]
      have hn' : decide (n < 0) = false := by simp; omega
      clear e ha hn
      go_enter Try.func15, Try.ntmps15
      go_wp2_with fail
      refine (up_any d F q st _ H.out).mono ?_
      rintro e w' ⟨rfl, rfl⟩
      rw [if_neg HA.out, errV_zero]
      go_wp2
      go_ret
      exact ⟨rfl, (H.out.armTo n).to ((keeps_set 5 _).mono fun _ _ e => e ▸ H.out.fd) fun _ h => .inl h⟩
set_option maxRecDepth 100000 in
theorem down_any (d : Nat) (F : Nat → Prop) (q : DW) (st : Dk) (w : World) (h : DiskAt w d F q st) :
    Calls Try.prog 17 #[(.pointer (some ⟨d, 0, none⟩))] w fun e w' => e = .returned (.bool (st.armed == 0)) ∧ w = w' := by
  obtain ⟨c0, c1, c2, c3, c4, c5, cf⟩ := cells6 h.blk
  clear h c0 c1 c2 c3 c4
  go_enter Try.func17, Try.ntmps17
  go_wp2
  go_ret
  exact ⟨rfl, rfl⟩
set_option maxRecDepth 100000 in
theorem size_any (d : Nat) (F : Nat → Prop) (q : DW) (st : Dk) (s : Nm) (K : Nat) (w : World) (h : DiskAt w d F q st) (hok : DkOk K st) (hs : s.length ≤ maxLen) :
    Calls Try.prog 20 #[(.pointer (some ⟨d, 0, none⟩)), .string ⟨s.toArray⟩] w fun e w' => e = .returned (.tuple #[.int .i64 (st.size s).2, errV (st.size s).1]) ∧ w = w' := by
  have H := Lib.hid h
  by_cases hf : (st.fnd s).1 = 0
  · have e : st.size s = (0, (st.fileAt (st.fnd s).2).b.length) := by unfold Dk.size; rw [if_neg (by rw [hf]; simp)]
    rw [e]
    have HF := Lib.hid hf
    obtain ⟨h1, h2⟩ := h.file (hok.fnd (by rw [hf]; simp))
    obtain ⟨a, c, hv, -⟩ := h2.len
    obtain ⟨c0, c1, c2, cf⟩ := cells3 h1
    rw [hv] at c1
    clear e hf h hok h1 h2 c0 c2 cf hv
    go_enter Try.func20, Try.ntmps20
    go_wp2_with fail
    refine (find_any d F q st s _ H.out hs).mono ?_
    rintro e w' ⟨rfl, rfl⟩
    rw [if_pos HF.out, HF.out, Int.natCast_zero, errV_zero]
    go_wp2_with fail
    go_ret2
    exact ⟨rfl, rfl⟩
  · have e : st.size s = ((st.fnd s).1, 0) := by unfold Dk.size; rw [if_pos hf]
    rw [e]
    have HF := Lib.hid hf
    have HE := Lib.hid (errV_ne (k := ((st.fnd s).1 : Int)) (by omega))
    clear e hf h hok
    go_enter Try.func20, Try.ntmps20
    go_wp2_with fail
    refine (find_any d F q st s _ H.out hs).mono ?_
    rintro e w' ⟨rfl, rfl⟩
    rw [if_neg HF.out, HE.out]
    go_wp2_with fail
    go_ret2
    exact ⟨by rw [HE.out]; rfl, rfl⟩
end Go.Proofs.Ytcicnjlkcbimgaa

/- Package disk: a range over names; Used; what becomes of one file. -/
namespace Go.Proofs.Ytcicnjlkcbimgaa
open Go.RowKit Go.Maps
/-- The bytes of the files whose names have come. -/
def seenSum (f : Nat → Nat) (left : Lit → Bool) : Dir → Nat
  | [] => 0
  | p :: r => (if left (.string p.1) = true then 0 else f p.2) + seenSum f left r
theorem seenSum_congr (f : Nat → Nat) {left left' : Lit → Bool} : ∀ (l : Dir), (∀ p ∈ l, left (.string p.1) = left' (.string p.1)) → seenSum f left l = seenSum f left' l
  | [], _ => rfl
  | p :: r, h => by
    unfold seenSum
    rw [h p List.mem_cons_self, seenSum_congr f r fun q hq => h q (List.mem_cons_of_mem _ hq)]
theorem seenSum_none (f : Nat → Nat) : ∀ (l : Dir), seenSum f (fun _ => true) l = 0
  | [] => rfl
  | p :: r => by simp [seenSum, seenSum_none f r]
theorem seenSum_all (f : Nat → Nat) : ∀ (l : Dir), seenSum f (fun _ => false) l = (l.map fun p => f p.2).sum
  | [] => rfl
  | p :: r => by simp [seenSum, seenSum_all f r]
theorem get_has {l : Dir} {p : Nm × Nat} (hp : p ∈ l) : (dirGet l p.1).isSome = true := by
  unfold dirGet
  rw [Option.isSome_map, List.find?_isSome]
  exact ⟨p, hp, by simp⟩
theorem seenSum_start (f : Nat → Nat) (g : Nat → Nat) (l : Dir) : seenSum f (Maps.has (dirD g l)) l = 0 := by
  rw [← seenSum_none f l]
  exact seenSum_congr f l fun p hp => by rw [dirD_has, get_has hp]
theorem seenSum_end (f : Nat → Nat) (l : Dir) (left : Lit → Bool) (h : ∀ kl, left kl = false) : seenSum f left l = (l.map fun p => f p.2).sum := by
  rw [← seenSum_all f l]
  exact seenSum_congr f l fun p _ => h _
theorem seenSum_step (f : Nat → Nat) (x : Nm) (i : Nat) (left : Lit → Bool) (hl : left (.string x) = true) : ∀ (l : Dir), l.Pairwise (fun p q => p.1 ≠ q.1) → dirGet l x = some i →
    seenSum f (fun z => left z && !z.sameKey (.string x)) l = seenSum f left l + f i
  | [], _, h => by simp [dirGet] at h
  | p :: r, hp, hg => by
    obtain ⟨h1, h2⟩ := List.pairwise_cons.1 hp
    unfold dirGet at hg
    rw [List.find?_cons] at hg
    unfold seenSum
    by_cases hx : p.1 = x
    · simp only [hx, beq_self_eq_true, Option.map_some, Option.some.injEq] at hg
      subst hg
      have e : seenSum f (fun z => left z && !z.sameKey (.string x)) r = seenSum f left r := seenSum_congr f r fun q hq => by
        have h0 : (Lit.string q.1).sameKey (.string x) = false := beq_eq_false_iff_ne.2 (by rw [← hx]; exact (h1 q hq).symm)
        simp [h0]
      have h0 : (Lit.string x).sameKey (.string x) = true := beq_self_eq_true _
      rw [e]
      simp [hx, hl, h0]
      omega
    · have hb : (p.1 == x) = false := beq_eq_false_iff_ne.2 hx
      have h0 : (Lit.string p.1).sameKey (.string x) = false := hb
      rw [hb] at hg
      rw [seenSum_step f x i left hl r h2 hg]
      simp [h0]
      omega
theorem seenSum_le (f : Nat → Nat) (B : Nat) (hf : ∀ i, f i ≤ B) (left : Lit → Bool) : ∀ l : Dir, seenSum f left l ≤ l.length * B
  | [] => by simp [seenSum]
  | p :: r => by
    have := hf p.2
    have := seenSum_le f B hf left r
    unfold seenSum
    rw [List.length_cons, Nat.succ_mul]
    split <;> omega
theorem dir_apart {w : World} {b : Nat} {g : Nat → Nat} {l : Dir} (h : DirAt w b g l) : l.Pairwise (fun p q => p.1 ≠ q.1) := by
  obtain ⟨es, hD, hp, _⟩ := World.ownsMap.entries h law_str
  unfold dirD at hD
  injection hD with hD
  subst hD
  rw [List.pairwise_map] at hp
  exact hp.imp fun h e => h (by rw [e])
/-- The step of a range over names. -/
theorem wpList_next_dir (w : World) {ops : Array Oper} {rest : List Oper} {o : Oper} {a : Act} {Q : Exit → Act → World → Prop} (hg : o.guard = none) (it : Operand) (hop : o.op = Op.next it false)
    (b r n : Nat) (g : Nat → Nat) (l : Dir) (left : Lit → Bool) (cnt : Nat) (hit : a.eval it = .pointer (some ⟨r, 0, none⟩)) (h : w.ranges Try.prog 9 ptrR b r n (dirD g l) left cnt)
    (hDone : (∀ kl, left kl = false) → wpList Try.prog ops Q rest (a.put o.dst (.tuple #[.bool false])) w)
    (hMore : ∀ (x : Nm) (i : Nat) (w' : World) (cnt' : Nat), left (.string x) = true → dirGet l x = some i → w'.ranges Try.prog 9 ptrR b r n (dirD g l) (fun z => left z && !z.sameKey (.string x)) cnt' → cnt' < cnt → w.grownBy w' (some r) → w'.heap.size = w.heap.size →
      (Instr.entry (.pointer (some ⟨r, 0, none⟩))).run Try.prog w' = .ok (.tuple #[.string ⟨x.toArray⟩, .pointer (some ⟨g i, 0, none⟩)]) w' → wpList Try.prog ops Q rest (a.put o.dst (.tuple #[.bool true, .string ⟨x.toArray⟩, .pointer (some ⟨g i, 0, none⟩)])) w') :
    wpList Try.prog ops Q (o :: rest) a w := by
  refine wpList_next_ranges w hg it hop 9 law_str ptrR encStr (fun v : Value => v) (fun key kl hk => by obtain ⟨x, hx, _⟩ := Maps.keyOf_str Try.underlying9 hk; exact ⟨x, hx⟩) (fun v y _ => ⟨v, rfl⟩) b r n (dirD g l) left cnt hit h (fun _ => hDone) ?_
  intro x c kl y w' cnt' hk hlk hv hat hrg hlt hgr hsz hen
  obtain ⟨x', ex, rfl, _⟩ := Maps.keyOf_str Try.underlying9 hk
  obtain rfl : x = x' := encStr_inj ex
  cases hd : dirGet l x with
  | none =>
    have h0 := hat (.lit (.int .i64 0))
    have h1 := hat (.lit (.int .i64 1))
    rw [dirD_get, hd] at h0 h1
    rw [← h1] at h0
    simp at h0
  | some i =>
    have h0 := hat (.lit (.int .i64 0))
    rw [dirD_get, hd] at h0
    obtain ⟨y1, y2⟩ := y
    simp only at h0
    subst h0
    obtain rfl := ptrR_at hv
    exact hMore x i w' cnt' hlk hd hrg hlt hgr hsz hen
set_option maxRecDepth 100000 in
set_option maxHeartbeats 1000000 in
theorem used_any (d : Nat) (F : Nat → Prop) (q : DW) (st : Dk) (K : Nat) (w : World) (h : DiskAt w d F q st) (hok : DkOk K st) :
    Calls Try.prog 24 #[(.pointer (some ⟨d, 0, none⟩))] w fun e w' => e = .returned (.int .i64 st.used) ∧ Below w.heap.size w w' := by
  have H := Lib.hid h
  have HOK := Lib.hid hok
  have HN := Lib.hid h.now
  obtain ⟨c0, c1, c2, c3, c4, c5, cf⟩ := cells6 h.blk
  clear h hok c0 c1 c3 c4 c5 cf
  go_enter Try.func24, Try.ntmps24
  go_wp2_with (at_range; refine wpList_range_own _ rfl _ 79 rfl 9 84 law_str Try.underlying79 ptrR q.bn st.now.length (dirD q.fb st.now) rfl HN.out ?_; intro w0 hrg0 hg0 hs0; have HR0 := Lib.hid hrg0; have HG0 := Lib.hid hg0; have HS0 := Lib.hid hs0; clear hrg0 hg0 hs0)
  go_frame
  obtain ⟨f, hf⟩ : ∃ f : Nat → Nat, f = fun i => (st.fileAt i).b.length := ⟨_, rfl⟩
  have hfb : ∀ i, f i ≤ 16777216 := fun i => by rw [hf]; exact (HOK.out.at i).2
  have HSL := Lib.hid (fun left => Nat.le_trans (seenSum_le f 16777216 hfb left st.now) (Nat.mul_le_mul_right 16777216 HOK.out.lnow))
  have HF := Lib.hid hf
  have HAP := Lib.hid (dir_apart HN.out)
  have HFB := Lib.hid hfb
  have HST := Lib.hid (show seenSum f (Maps.has (dirD q.fb st.now)) st.now = 0 from seenSum_start f q.fb st.now)
  clear hf hfb
  go_loopw [3] (fun n wr => ∃ (left : Lit → Bool) (cnt : Nat), wr.ranges Try.prog 9 ptrR q.bn w.heap.size st.now.length (dirD q.fb st.now) left cnt ∧ n = .int .i64 (seenSum f left st.now : Nat) ∧ Below w.heap.size w wr) (fun _ wr => wr.rangeLeft q.bn w.heap.size)
  case atStart => exact ⟨_, _, HR0.out, by rw [HST.out]; rfl, ⟨HG0.out.os, HG0.out.tape, HG0.out.output, HG0.out.size, fun k hk => HG0.out.block k hk (by simp)⟩⟩
  case round =>
    obtain ⟨left, cnt, hrg, rfl, hbw⟩ := hrel
    have HRG := Lib.hid hrg
    have HBW := Lib.hid hbw
    have hsl := HSL.out left
    clear hrg hbw
    go_wp2_with (at_next; refine wpList_next_dir _ rfl _ rfl q.bn w.heap.size st.now.length q.fb st.now left cnt rfl HRG.out ?_ ?_)
    · intro hl0
      have HL0 := Lib.hid hl0
      clear hl0
      go_wp2
      go_ret
      exact ⟨ret_int (by rw [seenSum_end _ _ _ HL0.out, HF.out]; rfl), HBW.out⟩
    · intro x i w1 cnt1 hlx hgx hrg1 hlt hg1 hs1 hen
      have HB1 := Lib.hid (HBW.out.grown hg1 HBW.out.size (fun k e => by cases e; exact Nat.le_refl _))
      obtain ⟨h1, h2⟩ := (H.out.below HB1.out).file (HOK.out.fnow _ (get_mem hgx))
      obtain ⟨a, c, hv, -⟩ := h2.len
      obtain ⟨d0, d1, d2, df⟩ := cells3 h1
      rw [hv] at d1
      have hfi : (st.fileAt i).b.length = f i := by rw [HF.out]
      rw [hfi] at d1
      have hfb := HFB.out i
      have HR1 := Lib.hid hrg1
      have HLT := Lib.hid hlt
      have HSS := Lib.hid (seenSum_step f x i left hlx st.now HAP.out hgx)
      clear hlx hgx hrg1 hlt hg1 hs1 h1 h2 hv d0 d2 df hfi
      go_wp2
      go_roundw
      case rel => exact ⟨_, cnt1, HR1.out, by rw [HSS.out]; go_num, HB1.out⟩
      case measure => rw [HR1.out.left_eq, HRG.out.left_eq]; exact HLT.out
end Go.Proofs.Ytcicnjlkcbimgaa

/- Package disk: what becomes of one file; Sync, Append. -/
namespace Go.Proofs.Ytcicnjlkcbimgaa
open Go.RowKit Go.Maps
theorem DeedsAt.kept {w w' : World} {F : Nat → Prop} {fb : Nat → Nat} {vd : Value} {ds : List Value} {xs : List Deed} (h : DeedsAt w F fb vd ds xs)
    (hne : ∀ (k : Nat) (x : Obj), w.heap[k]? = some x → (kindO x = 88 + 1 ∨ kindO x = 9 + 1 ∨ kindO x = 84 + 1) → w'.heap[k]? = some x) : DeedsAt w' F fb vd ds xs := by
  refine ⟨ownsRow_at h.row fun k hv => ?_, fun i x hx => ?_, h.fvd⟩
  · rcases h.row.2 with ⟨e, _⟩ | ⟨g, cap, cur, e, _, hb, _⟩
    · rw [e] at hv; cases hv
    · rw [e] at hv
      simp only [Value.ownBlock, Option.some.injEq] at hv
      subst hv
      exact (hne _ _ hb (.inl rfl)).trans hb.symm
  · obtain ⟨v, hv, hd⟩ := h.dd i x hx
    exact ⟨v, hv, hd.at (fun k _ ⟨a, t, hb, ht⟩ => (hne _ _ hb (by rcases ht with rfl | rfl <;> simp [kindO])).trans hb.symm) (fun _ h => h) (fun _ => rfl)⟩
/-- One file has turned: its struct, its row, or its row is a new one. -/
theorem FilesAt.one {w w' : World} {F G : Nat → Prop} {fb : Nat → Nat} {fv : Nat → Value} {fs : List DFile} (h : FilesAt w F fb fv fs) {i : Nat} (hi : i < fs.length) (hk : Keeps G w w')
    (hG : ∀ k, k < w.heap.size → G k → k = fb i ∨ (fv i).ownBlock = some k) (f' : DFile) (v' : Value) (hb : w'.heap[fb i]? = some (.cells #[.int .i64 i, v', .int .i64 f'.lasts] 86 (0, 0)))
    (hr : FRow w' v' f'.b) (hv : ∀ g, v'.ownBlock = some g → (fv i).ownBlock = some g ∨ w.heap.size ≤ g) :
    FilesAt w' (fun k => F k ∨ w.heap.size ≤ k) fb (upd fv i v') (fs.set i f') := by
  have hfi := h.fi i _ (List.getElem?_eq_getElem hi)
  have hrl : ∀ j g, j < fs.length → (fv j).ownBlock = some g → g < w.heap.size := fun j g hj e => (h.fi j _ (List.getElem?_eq_getElem hj)).2.lt e
  refine ⟨fun j f hj => ?_, fun a b ha hb => ?_, fun a b g ha hb e1 e2 => ?_, fun j hj => ?_⟩
  · have hjl : j < fs.length := by
      have := (List.getElem?_eq_some_iff.1 hj).1
      simpa using this
    by_cases e : j = i
    · subst e
      rw [List.getElem?_set_self hjl] at hj
      simp only [Option.some.injEq] at hj
      subst hj
      rw [upd_same]
      exact ⟨hb, hr⟩
    · rw [List.getElem?_set_ne (Ne.symm e)] at hj
      have hv1 : upd fv i v' j = fv j := if_neg e
      rw [hv1]
      obtain ⟨h1, h2⟩ := h.fi j f hj
      have hn1 : ¬ G (fb j) := fun hg => by
        rcases hG _ (blk_lt h1) hg with e1 | e1
        · exact e (h.inj j i hjl hi e1)
        · have := hits_frow hfi.2 _ _ e1 h1
          simp [kindO] at this
      have hn2 : ∀ g, (fv j).ownBlock = some g → ¬ G g := fun g hg hg2 => by
        rcases hG _ (hrl j g hjl hg) hg2 with e1 | e1
        · have := hits_frow h2 _ _ hg (e1 ▸ hfi.1)
          simp [kindO] at this
        · exact e (h.apart j i g hjl hi hg e1)
      exact ⟨(hk.block _ (blk_lt h1) hn1).trans h1, h2.keeps hk hn2⟩
  · simp only [List.length_set] at ha hb
    exact h.inj a b ha hb
  · simp only [List.length_set] at ha hb
    unfold upd at e1 e2
    split at e1 <;> split at e2
    · omega
    · rename_i ea eb
      rcases hv g e1 with e3 | e3
      · exact absurd (h.apart b i g hb hi e2 e3) eb
      · have := hrl b g hb e2
        omega
    · rename_i ea eb
      rcases hv g e2 with e3 | e3
      · exact absurd (h.apart a i g ha hi e1 e3) ea
      · have := hrl a g ha e1
        omega
    · exact h.apart a b g ha hb e1 e2
  · simp only [List.length_set] at hj
    refine ⟨.inl (h.ff j hj).1, fun g hg => ?_⟩
    unfold upd at hg
    split at hg
    · exact (hv g hg).imp (fun e => (h.ff i hi).2 g e) id
    · exact .inl ((h.ff j hj).2 g hg)
theorem DiskAt.one {w w' : World} {d : Nat} {F G : Nat → Prop} {q : DW} {st : Dk} (h : DiskAt w d F q st) {i : Nat} (hi : i < st.files.length) (hk : Keeps G w w')
    (hG : ∀ k, k < w.heap.size → G k → k = q.fb i ∨ (q.fv i).ownBlock = some k) (f' : DFile) (v' : Value) (hb : w'.heap[q.fb i]? = some (.cells #[.int .i64 i, v', .int .i64 f'.lasts] 86 (0, 0)))
    (hr : FRow w' v' f'.b) (hv : ∀ g, v'.ownBlock = some g → (q.fv i).ownBlock = some g ∨ w.heap.size ≤ g) :
    DiskAt w' d (fun k => F k ∨ w.heap.size ≤ k) { q with fv := upd q.fv i v' } (st.setF i f') := by
  obtain ⟨h1, h2⟩ := h.file hi
  have hne : ∀ (k : Nat) (x : Obj), w.heap[k]? = some x → kindO x ≠ 86 + 1 → kindO x ≠ 5 + 1 → w'.heap[k]? = some x := fun k x hx n1 n2 =>
    (hk.block _ (blk_lt hx) fun hg => by
      rcases hG _ (blk_lt hx) hg with e | e
      · subst e
        rw [h1] at hx
        cases hx
        exact n1 rfl
      · exact n2 (hits_frow h2 _ _ e hx)).trans hx
  have hd : ∀ {b : Nat} {l : Dir}, DirAt w b q.fb l → DirAt w' b q.fb l := fun hD => hD.at (by
    obtain ⟨es, clock, hx, _⟩ := hD
    exact (hne _ _ hx (by simp [kindO]) (by simp [kindO])).trans hx.symm)
  refine ⟨?_, hd h.now, hd h.last, h.ne, (h.deeds.kept fun k x hx ht => hne k x hx (by rcases ht with e | e | e <;> rw [e] <;> simp) (by rcases ht with e | e | e <;> rw [e] <;> simp)).mono (fun _ h => .inl h) (fun _ _ _ => rfl), h.files.one hi hk hG f' v' hb hr hv, .inl h.fd, .inl h.fn, .inl h.fl⟩
  rw [show (st.setF i f').files.length = st.files.length by simp [Dk.setF]]
  exact hne _ _ h.blk (by simp [kindO]) (by simp [kindO])
set_option maxRecDepth 100000 in
set_option maxHeartbeats 1000000 in
theorem sync_any (d : Nat) (F : Nat → Prop) (q : DW) (st : Dk) (s : Nm) (K : Nat) (w : World) (h : DiskAt w d F q st) (hok : DkOk K st) (hs : s.length ≤ maxLen) :
    Calls Try.prog 12 #[(.pointer (some ⟨d, 0, none⟩)), .string ⟨s.toArray⟩] w fun e w' => e = .returned (errV (st.sync s).1) ∧ DiskTo w w' d F (st.sync s).2 := by
  have H := Lib.hid h
  have HOK := Lib.hid hok
  by_cases hf : (st.fnd s).1 = 0
  · obtain ⟨i, hi⟩ : ∃ i, i = (st.fnd s).2 := ⟨_, rfl⟩
    have e : st.sync s = (0, (st.setF i ⟨(st.fileAt i).b, (st.fileAt i).b.length⟩).did) := by unfold Dk.sync; rw [if_neg (by rw [hf]; simp), hi]
    rw [e]
    have hil : i < st.files.length := by rw [hi]; exact hok.fnd (by rw [hf]; simp)
    have HF := Lib.hid hf
    have HI := Lib.hid hi
    obtain ⟨h1, h2⟩ := h.file hil
    have H1 := Lib.hid h1
    have H2 := Lib.hid h2
    obtain ⟨a, c, hv, -⟩ := h2.len
    have HV := Lib.hid hv
    obtain ⟨c0, c1, c2, cf⟩ := cells3 h1
    rw [hv] at c1
    have hff := (h.files.ff i hil).1
    clear e hf h hok h1 h2 c0 hv hi
    go_enter Try.func12, Try.ntmps12
    go_wp2_with fail
    refine (find_any d F q st s _ H.out hs).mono ?_
    rintro e w' ⟨rfl, rfl⟩
    rw [if_pos HF.out, HF.out, Int.natCast_zero, errV_zero, ← HI.out]
    go_wp2_with fail
    have h6 := H.out.one hil (keeps_set (w := w) (b := q.fb i) 2 (.int .i64 (st.fileAt i).b.length)) (fun k _ e => .inl e) ⟨(st.fileAt i).b, (st.fileAt i).b.length⟩ (q.fv i) (by simpa using blk_put H1.out 2 (.int .i64 (st.fileAt i).b.length)) (keep_frow (keeps_set _ _) (hits_one H1.out) H2.out (by simp [kindO])) (fun g hg => .inl hg)
    refine (did_any d _ _ _ _ h6 HOK.out.armed.1 HOK.out.armed.2).mono ?_
    rintro e w5 ⟨rfl, h5, hk5⟩
    have H5 := Lib.hid (h5.to (((keeps_set (w := w) (b := q.fb i) 2 _).mono (G := F) fun _ _ e => e ▸ hff).trans (hk5.mono (G := F) fun _ _ e => e ▸ H.out.fd) fun _ _ h => h) (fun _ h => h))
    clear h5 hk5 h6
    go_wp2_with fail
    go_ret
    exact ⟨rfl, H5.out⟩
  · have e : st.sync s = ((st.fnd s).1, st) := by unfold Dk.sync; rw [if_pos hf]
    rw [e]
    have HF := Lib.hid hf
    have HE := Lib.hid (errV_ne (k := ((st.fnd s).1 : Int)) (by omega))
    clear e hf h hok
    go_enter Try.func12, Try.ntmps12
    go_wp2_with fail
    refine (find_any d F q st s _ H.out hs).mono ?_
    rintro e w' ⟨rfl, rfl⟩
    rw [if_neg HF.out, HE.out]
    go_wp2_with fail
    go_ret
    exact ⟨by rw [HE.out]; rfl, H.out.same⟩
end Go.Proofs.Ytcicnjlkcbimgaa

/- bytes.Clone. -/
namespace Go.Proofs.Ytcicnjlkcbimgaa
open Go.RowKit
theorem byteT_info : (Try.prog.info? 5).map (fun i => (i.zero, i.size, i.bytes)) = some (some (.int .u8 0), 1, 1) := by kernel_rfl
/-- What a clone of bytes leaves: a row of its own; nil just of nil. -/
def ByteCl (w : World) (v : Value) (xs : List UInt8) (e : Ending) (w' : World) : Prop :=
  ∃ v', e = .returned v' ∧ w'.ownsRow w.heap.size 5 1 v' xs.length (xs.map bv) ∧ (v = .slice none 0 0 → v' = .slice none 0 0) ∧ Below w.heap.size w w'
set_option maxRecDepth 100000 in
set_option maxHeartbeats 1000000 in
theorem bclone_any (v : Value) (xs : List UInt8) (w : World) (h : Reads w 1 v xs.length (xs.map bv)) (hb : xs.length ≤ 140737488355328) :
    Calls Try.prog 40 #[v] w (ByteCl w v xs) := by
  obtain ⟨i0, hi, hz0, hz1, hz2⟩ := info_parts byteT_info
  obtain ⟨_, ⟨rfl, h0⟩ | ⟨a, c, rfl, hm, hc⟩⟩ := id h
  · have hx : xs = [] := List.eq_nil_of_length_eq_zero h0
    subst hx
    clear hi hz0 hz1 hz2 h hb
    have hne := fun (wx : World) => Lib.run_eql_slice_nil (P := Try.prog) wx 22 5 none 0 0 0 0 Try.underlying22
    go_enter Try.func40, Try.ntmps40
    go_wp2
    go_ret
    exact ⟨_, rfl, World.ownsRow_nil _ _ _ _, fun _ => rfl, Below.refl _ _⟩
  · have hne := fun (wx : World) => Lib.run_eql_slice_nil (P := Try.prog) wx 22 5 (some a) xs.length c 0 0 Try.underlying22
    have HI := Lib.hid hi
    have HZ0 := Lib.hid hz0
    have HZ1 := Lib.hid hz1
    have HZ2 := Lib.hid hz2
    have HR := Lib.hid h
    clear hi hz0 hz1 hz2 h hc hm
    go_enter Try.func40, Try.ntmps40
    go_wp2_with (at_builtin; refine wpList_append_reads _ rfl _ _ 22 rfl w.heap.size 5 i0 (.int .u8 0) 1 1 Try.underlying22 HI.out HZ0.out HZ1.out HZ2.out rfl (by decide) (.slice (some ⟨w.heap.size, 0, none⟩) 0 0) 0 [] rfl (World.ownsRow_lit w #[] 0 (Nat.le_refl _) (by unfold maxLen; omega) rfl) (.slice (some a) xs.length c) xs.length (xs.map bv) rfl (HR.out.below (by repeat (first | (with_reducible exact Below.refl _ _) | (with_reducible refine Below.setCell ?_ ?_ _) | (with_reducible refine Below.alloc ?_ ?_ _) | (with_reducible refine Below.drewN ?_ _) | (with_reducible refine Below.drew ?_) | (with_reducible exact Nat.le_refl _) | (focus (simp only [World.size_alloc, World.size_setCell, World.size_drew, World.size_drewN]; omega)) | omega | exact Nat.le_refl _ | (focus (simp; done)) | (focus (simp; omega))))) (bv_one xs) (by have := HR.out.le; omega) (by omega) (by simp) ?_; intro v' w1 hown' hgrow hnil)
    go_ret
    exact ⟨_, rfl, by simpa using hown', (fun e => by cases e), (((Below.refl _ _).alloc (Nat.le_refl _) _).grown hgrow (by simp) (by simp [Value.ownBlock]))⟩
end Go.Proofs.Ytcicnjlkcbimgaa

/- Package disk: Append, Read. -/
namespace Go.Proofs.Ytcicnjlkcbimgaa
open Go.RowKit Go.Maps
set_option maxRecDepth 100000 in
set_option maxHeartbeats 2000000 in
theorem append_any (d : Nat) (F : Nat → Prop) (q : DW) (st : Dk) (s : Nm) (vb : Value) (b : List UInt8) (K : Nat) (w : World) (h : DiskAt w d F q st) (hok : DkOk K st) (hs : s.length ≤ maxLen) (hr : Reads w 1 vb b.length (b.map bv)) :
    Calls Try.prog 11 #[(.pointer (some ⟨d, 0, none⟩)), .string ⟨s.toArray⟩, vb] w fun e w' => e = .returned (errV (st.append s b).1) ∧ DiskTo w w' d F (st.append s b).2 := by
  have H := Lib.hid h
  have HOK := Lib.hid hok
  have HR := Lib.hid hr
  have hbl := hr.le
  unfold maxLen at hbl
  obtain ⟨ab, cb, rfl⟩ := reads_len hr
  clear hr
  by_cases hf : (st.fnd s).1 = 0
  · obtain ⟨i, hi⟩ : ∃ i, i = (st.fnd s).2 := ⟨_, rfl⟩
    have hil : i < st.files.length := by rw [hi]; exact hok.fnd (by rw [hf]; simp)
    have HF := Lib.hid hf
    have HI := Lib.hid hi
    obtain ⟨h1, h2⟩ := h.file hil
    have H1 := Lib.hid h1
    have H2 := Lib.hid h2
    obtain ⟨a, c, hv, -⟩ := h2.len
    have HV := Lib.hid hv
    obtain ⟨c0, c1, c2, cf⟩ := cells3 h1
    rw [hv] at c1
    obtain ⟨e0, e1, e2, e3, e4, e5, ef⟩ := cells6 h.blk
    have hff := (h.files.ff i hil).1
    have hle := (hok.at i).2
    obtain ⟨n, hn⟩ : ∃ n, n = (st.fileAt i).b.length := ⟨_, rfl⟩
    have HN := Lib.hid hn
    rw [← hn] at c1 hle
    have hdl := blk_lt h.blk
    have hfl := blk_lt h1
    by_cases hlong : 16777216 < n + b.length
    · have e : st.append s b = (2, st) := by
        unfold Dk.append
        rw [if_neg (by rw [hf]; simp), ← hi, ← hn, if_pos hlong]
      rw [e]
      have ht : decide ((16777216 : Int) - (n : Int) < (b.length : Int)) = true := by simp; omega
      clear e hf h hok h1 h2 c0 hv hi hn e0 e1 e2 e3 e4 e5 ef c2 hlong
      go_enter Try.func11, Try.ntmps11
      go_wp2_with fail
      refine (find_any d F q st s _ H.out hs).mono ?_
      rintro e w' ⟨rfl, rfl⟩
      rw [if_pos HF.out, HF.out, Int.natCast_zero, errV_zero, ← HI.out]
      go_wp2_with fail
      go_ret
      exact ⟨rfl, H.out.same⟩
    have ht : decide ((16777216 : Int) - (n : Int) < (b.length : Int)) = false := by simp; omega
    by_cases hfull : st.cap < st.used + b.length
    · have e : st.append s b = (11, st) := by
        unfold Dk.append
        rw [if_neg (by rw [hf]; simp), ← hi, ← hn, if_neg hlong, if_pos hfull]
      rw [e]
      have hcap := hok.cap
      have hu : st.used ≤ 64 * 16777216 := Nat.le_trans (by
        have := seenSum_le (fun i => (st.fileAt i).b.length) 16777216 (fun i => (hok.at i).2) (fun _ => false) st.now
        rw [seenSum_all] at this
        exact this) (Nat.mul_le_mul_right 16777216 hok.lnow)
      have hwr : IntKind.i64.wrap ((st.cap : Int) - (st.used : Int)) = (st.cap : Int) - (st.used : Int) := IntWalk.i64_in _ (by omega)
      have ht2 : decide ((st.cap : Int) - (st.used : Int) < (b.length : Int)) = true := by simp; omega
      clear e hf h hok h1 h2 c0 hv hi hn e1 e2 e3 e4 e5 ef c2 hlong hfull
      go_enter Try.func11, Try.ntmps11
      go_wp2_with fail
      refine (find_any d F q st s _ H.out hs).mono ?_
      rintro e w' ⟨rfl, rfl⟩
      rw [if_pos HF.out, HF.out, Int.natCast_zero, errV_zero, ← HI.out]
      go_wp2_with fail
      obtain ⟨SS, HSD⟩ : ∃ SS : World → Prop, Hid (SS = fun w' => w'.cell? ⟨d, 0, none⟩ = some (.int .i64 st.cap)) := ⟨_, Lib.hid rfl⟩
      refine wp_region_order0 SS [5] [(0, 0), (1, 0), (2, 0), (3, 0), (4, 0), (5, 2), (6, 0), (7, 1), (8, 0), (9, 0), (10, 0)] (by kernel_rfl) (by kernel_rfl) rfl (by kernel_rfl) ?_ ?_
      focus (rw [HSD.out]; exact e0)
      refine stepE0 rfl rfl (fun K hK => ?_)
      go_simp
      refine hK _ ?_
      clear hK K
      refine stepE0 rfl rfl (fun K hK => ?_)
      go_simp
      refine hK _ ?_
      clear hK K
      refine stepE0 rfl rfl (fun K hK => ?_)
      go_simp
      refine hK _ ?_
      clear hK K
      refine stepE0 rfl rfl (fun K hK => ?_)
      go_simp
      refine hK _ ?_
      clear hK K
      refine stepE0 rfl rfl (fun K hK => ?_)
      go_simp
      refine hK _ ?_
      clear hK K
      refine stepE2 rfl rfl ?_ (fun w1 hS => ?_) (fun K hK => ?_)
      rotate_left
      focus (rw [HSD.out] at hS; have c0' := hS; go_simp; rfl)
      go_simp
      refine hK _ ?_
      clear hK K
      refine stepE0 rfl rfl (fun K hK => ?_)
      go_simp
      refine hK _ ?_
      clear hK K
      refine stepE1S rfl rfl (fun K hK => ?_)
      (go_wp2_with fail; refine Calls.mono (used_any d F q st _ _ (H.out.below (by repeat (first | (with_reducible exact Below.refl _ _) | (with_reducible refine Below.setCell ?_ ?_ _) | (with_reducible refine Below.alloc ?_ ?_ _) | (with_reducible refine Below.drewN ?_ _) | (with_reducible refine Below.drew ?_) | (with_reducible exact Nat.le_refl _) | (focus (simp only [World.size_alloc, World.size_setCell, World.size_drew, World.size_drewN]; omega)) | omega | exact Nat.le_refl _ | (focus (simp; done)) | (focus (simp; omega))))) HOK.out) ?_; rintro e w5 ⟨rfl, hu5⟩; have HU := Lib.hid hu5; clear hu5; go_wp2)
      refine ⟨by rw [HSD.out]; exact ((HU.out.cell (p := ⟨d, 0, none⟩) hdl).trans e0), ?_⟩
      refine stepE0 rfl rfl (fun K hK => ?_)
      go_simp
      refine hK _ ?_
      clear hK K
      refine stepE0 rfl rfl (fun K hK => ?_)
      go_simp
      refine hK _ ?_
      clear hK K
      refine stepE0 rfl rfl (fun K hK => ?_)
      go_simp
      refine hK _ ?_
      clear hK K
      try refine stepEnil0 ?_
      clear HSD SS
      go_wp2_with fail
      go_ret
      exact ⟨rfl, H.out.later (show Below w.heap.size w w5 from ((Below.refl w.heap.size w).drew).trans HU.out)⟩
    · have e : st.append s b = (0, (st.setF i ⟨(st.fileAt i).b ++ b, (st.fileAt i).lasts⟩).did) := by
        unfold Dk.append
        rw [if_neg (by rw [hf]; simp), ← hi, ← hn, if_neg hlong, if_neg hfull]
      rw [e]
      have hcap := hok.cap
      have hu : st.used ≤ 64 * 16777216 := Nat.le_trans (by
        have := seenSum_le (fun i => (st.fileAt i).b.length) 16777216 (fun i => (hok.at i).2) (fun _ => false) st.now
        rw [seenSum_all] at this
        exact this) (Nat.mul_le_mul_right 16777216 hok.lnow)
      have hwr : IntKind.i64.wrap ((st.cap : Int) - (st.used : Int)) = (st.cap : Int) - (st.used : Int) := IntWalk.i64_in _ (by omega)
      have ht2 : decide ((st.cap : Int) - (st.used : Int) < (b.length : Int)) = false := by simp; omega
      obtain ⟨i0, hi0, hz0, hz1, hz2⟩ := info_parts byteT_info
      have HI0 := Lib.hid hi0
      have HZ0 := Lib.hid hz0
      have HZ1 := Lib.hid hz1
      have HZ2 := Lib.hid hz2
      have hsum : n + b.length ≤ 16777216 := by omega
      clear e hf h hok h1 h2 c0 hv hi hn e1 e2 e3 e4 e5 ef c2 hlong hfull hi0 hz0 hz1 hz2
      go_enter Try.func11, Try.ntmps11
      go_wp2_with fail
      refine (find_any d F q st s _ H.out hs).mono ?_
      rintro e w' ⟨rfl, rfl⟩
      rw [if_pos HF.out, HF.out, Int.natCast_zero, errV_zero, ← HI.out]
      go_wp2_with fail
      obtain ⟨SS, HSD⟩ : ∃ SS : World → Prop, Hid (SS = fun w' => w'.cell? ⟨d, 0, none⟩ = some (.int .i64 st.cap)) := ⟨_, Lib.hid rfl⟩
      refine wp_region_order0 SS [5] [(0, 0), (1, 0), (2, 0), (3, 0), (4, 0), (5, 2), (6, 0), (7, 1), (8, 0), (9, 0), (10, 0)] (by kernel_rfl) (by kernel_rfl) rfl (by kernel_rfl) ?_ ?_
      focus (rw [HSD.out]; exact e0)
      refine stepE0 rfl rfl (fun K hK => ?_)
      go_simp
      refine hK _ ?_
      clear hK K
      refine stepE0 rfl rfl (fun K hK => ?_)
      go_simp
      refine hK _ ?_
      clear hK K
      refine stepE0 rfl rfl (fun K hK => ?_)
      go_simp
      refine hK _ ?_
      clear hK K
      refine stepE0 rfl rfl (fun K hK => ?_)
      go_simp
      refine hK _ ?_
      clear hK K
      refine stepE0 rfl rfl (fun K hK => ?_)
      go_simp
      refine hK _ ?_
      clear hK K
      refine stepE2 rfl rfl ?_ (fun w1 hS => ?_) (fun K hK => ?_)
      rotate_left
      focus (rw [HSD.out] at hS; have c0' := hS; go_simp; rfl)
      go_simp
      refine hK _ ?_
      clear hK K
      refine stepE0 rfl rfl (fun K hK => ?_)
      go_simp
      refine hK _ ?_
      clear hK K
      refine stepE1S rfl rfl (fun K hK => ?_)
      (go_wp2_with fail; refine Calls.mono (used_any d F q st _ _ (H.out.below (by repeat (first | (with_reducible exact Below.refl _ _) | (with_reducible refine Below.setCell ?_ ?_ _) | (with_reducible refine Below.alloc ?_ ?_ _) | (with_reducible refine Below.drewN ?_ _) | (with_reducible refine Below.drew ?_) | (with_reducible exact Nat.le_refl _) | (focus (simp only [World.size_alloc, World.size_setCell, World.size_drew, World.size_drewN]; omega)) | omega | exact Nat.le_refl _ | (focus (simp; done)) | (focus (simp; omega))))) HOK.out) ?_; rintro e w5 ⟨rfl, hu5⟩; have HU := Lib.hid hu5; clear hu5; go_wp2)
      refine ⟨by rw [HSD.out]; exact ((HU.out.cell (p := ⟨d, 0, none⟩) hdl).trans e0), ?_⟩
      refine stepE0 rfl rfl (fun K hK => ?_)
      go_simp
      refine hK _ ?_
      clear hK K
      refine stepE0 rfl rfl (fun K hK => ?_)
      go_simp
      refine hK _ ?_
      clear hK K
      refine stepE0 rfl rfl (fun K hK => ?_)
      go_simp
      refine hK _ ?_
      clear hK K
      try refine stepEnil0 ?_
      clear HSD SS
      have hb5 : Below w.heap.size w w5 := ((Below.refl w.heap.size w).drew).trans HU.out
      have HB5 := Lib.hid hb5
      have HD5 := Lib.hid (H.out.below hb5)
      have HF5 := Lib.hid (blk_below H1.out hb5)
      have HR5 := Lib.hid (show FRow w5 (.slice a n c) (st.fileAt i).b by rw [HN.out, ← HV.out]; exact H2.out.below hb5)
      have hz5 := hb5.size
      obtain ⟨g0, g1, g2, gf⟩ := cells3 HF5.out
      rw [HV.out, ← HN.out] at g1
      clear hb5 g0 g2 c1 cf e0
      go_wp2_with (at_builtin; refine wpList_append_frow _ rfl _ _ 22 rfl i0 Try.underlying22 HI0.out HZ0.out HZ1.out HZ2.out (.slice a n c) (st.fileAt i).b rfl HR5.out (.slice ab b.length cb) b rfl (HR.out.below HB5.out) (by rw [← HN.out]; omega) ?_; rw [← HN.out]; intro a2 k2 w2 hown2 hg2 hloc2; have HO2 := Lib.hid hown2; have HG2 := Lib.hid (keeps_own hg2); have HL2 := Lib.hid hloc2; have HF2 := Lib.hid (keep_blk HG2.out (hits_frow HR5.out) HF5.out (by simp [kindO])); obtain ⟨p0, p1, p2, pf⟩ := cells3 HF2.out; clear hown2 hg2 hloc2 p0 p2)
      have h6 := HD5.out.one hil (G := fun k => k = q.fb i ∨ (Value.slice a n c).ownBlock = some k) ((HG2.out.mono fun _ _ e => .inr e).trans ((keeps_set (b := q.fb i) 1 (.slice a2 (n + b.length) k2)).mono fun _ _ e => .inl e) fun _ _ e => e) (fun k _ e => e.imp id fun e => by rw [HV.out, ← HN.out]; exact e)
        ⟨(st.fileAt i).b ++ b, (st.fileAt i).lasts⟩ (.slice a2 (n + b.length) k2) (by simpa using blk_put HF2.out 1 (.slice a2 (n + b.length) k2)) (keep_frow (keeps_set _ _) (hits_one HF2.out) HO2.out (by simp [kindO]))
        (fun g hg => (HL2.out g hg).imp (fun e => by rw [HV.out, ← HN.out]; exact e) id)
      have HK6 := Lib.hid (show Keeps F w (w2.setCell ⟨q.fb i, 1, none⟩ (.slice a2 (n + b.length) k2)) from ((keeps_below F HB5.out).trans (HG2.out.mono (G := F) fun k _ e => (H.out.files.ff i hil).2 k (by rw [HV.out, ← HN.out]; exact e)) fun _ _ h => h).setCell _ _ fun _ => hff)
      have H6 := Lib.hid h6
      clear h6
      go_wp2_with fail
      refine (did_any d _ _ _ _ H6.out HOK.out.armed.1 HOK.out.armed.2).mono ?_
      rintro e w7 ⟨rfl, h7, hk7⟩
      have H7 := Lib.hid (h7.to (HK6.out.trans hk7 fun _ _ e => e ▸ H.out.fd) (fun k hk => hk.imp id (Nat.le_trans hz5)))
      clear h7 hk7
      go_wp2_with fail
      go_ret
      exact ⟨rfl, H7.out⟩
  · have e : st.append s b = ((st.fnd s).1, st) := by unfold Dk.append; rw [if_pos hf]
    rw [e]
    have HF := Lib.hid hf
    have HE := Lib.hid (errV_ne (k := ((st.fnd s).1 : Int)) (by omega))
    clear e hf h hok
    go_enter Try.func11, Try.ntmps11
    go_wp2_with fail
    refine (find_any d F q st s _ H.out hs).mono ?_
    rintro e w' ⟨rfl, rfl⟩
    rw [if_neg HF.out, HE.out]
    go_wp2_with fail
    go_ret
    exact ⟨by rw [HE.out]; rfl, H.out.same⟩
end Go.Proofs.Ytcicnjlkcbimgaa

/- Package disk: Read. -/
namespace Go.Proofs.Ytcicnjlkcbimgaa
open Go.RowKit Go.Maps
/-- What Read hands back: a row of its own. -/
def ReadTo (w : World) (k : Nat) (xs : List UInt8) (e : Ending) (w' : World) : Prop := ∃ v, e = .returned (.tuple #[v, errV k]) ∧ w'.ownsRow w.heap.size 5 1 v xs.length (xs.map bv) ∧ Below w.heap.size w w'
theorem ReadTo.none {w w' : World} {k : Nat} {e : Ending} (he : e = .returned (.tuple #[.slice none 0 0, errV k])) (hb : Below w.heap.size w w') : ReadTo w k [] e w' := ⟨_, he, World.ownsRow_nil _ _ _ _, hb⟩
set_option maxRecDepth 100000 in
set_option maxHeartbeats 2000000 in
theorem read_any (d : Nat) (F : Nat → Prop) (q : DW) (st : Dk) (s : Nm) (off n : Int) (K : Nat) (w : World) (h : DiskAt w d F q st) (hok : DkOk K st) (hs : s.length ≤ maxLen) (hn2 : n ≤ 9223372036854775807) (ho2 : off ≤ 9223372036854775807) :
    Calls Try.prog 21 #[(.pointer (some ⟨d, 0, none⟩)), .string ⟨s.toArray⟩, .int .i64 off, .int .i64 n] w (ReadTo w (st.read s off n).1 (st.read s off n).2) := by
  have H := Lib.hid h
  by_cases hf : (st.fnd s).1 = 0
  · obtain ⟨i, hi⟩ : ∃ i, i = (st.fnd s).2 := ⟨_, rfl⟩
    have hil : i < st.files.length := by rw [hi]; exact hok.fnd (by rw [hf]; simp)
    have HF := Lib.hid hf
    have HI := Lib.hid hi
    obtain ⟨h1, h2⟩ := h.file hil
    obtain ⟨a, c, hv, hac⟩ := h2.len
    obtain ⟨c0, c1, c2, cf⟩ := cells3 h1
    rw [hv] at c1 h2
    have hle := (hok.at i).2
    obtain ⟨b, hb⟩ : ∃ b, b = (st.fileAt i).b := ⟨_, rfl⟩
    rw [← hb] at c1 hle h2
    have H2 := Lib.hid h2
    clear h1 c0 c2 cf hv hac h2
    by_cases hneg : off < 0 ∨ n < 0
    · have e : st.read s off n = (1, []) := by unfold Dk.read; rw [if_neg (by rw [hf]; simp), if_pos hneg]
      rw [e]
      clear e hf h hok hi hb
      by_cases h0 : off < 0
      · go_enter Try.func21, Try.ntmps21
        go_wp2_with fail
        refine (find_any d F q st s _ H.out hs).mono ?_
        rintro e w' ⟨rfl, rfl⟩
        rw [if_pos HF.out, HF.out, Int.natCast_zero, errV_zero, ← HI.out]
        go_wp2_with fail
        go_ret2
        exact .none rfl (by repeat (first | (with_reducible exact Below.refl _ _) | (with_reducible refine Below.setCell ?_ ?_ _) | (with_reducible refine Below.alloc ?_ ?_ _) | (with_reducible refine Below.drewN ?_ _) | (with_reducible refine Below.drew ?_) | (with_reducible exact Nat.le_refl _) | (focus (simp only [World.size_alloc, World.size_setCell, World.size_drew, World.size_drewN]; omega)) | omega | exact Nat.le_refl _ | (focus (simp; done)) | (focus (simp; omega))))
      · have hn0 : n < 0 := by omega
        have h0' : decide (off < 0) = false := by simp; omega
        clear hneg h0
        go_enter Try.func21, Try.ntmps21
        go_wp2_with fail
        refine (find_any d F q st s _ H.out hs).mono ?_
        rintro e w' ⟨rfl, rfl⟩
        rw [if_pos HF.out, HF.out, Int.natCast_zero, errV_zero, ← HI.out]
        go_wp2_with fail
        go_ret2
        exact .none rfl (by repeat (first | (with_reducible exact Below.refl _ _) | (with_reducible refine Below.setCell ?_ ?_ _) | (with_reducible refine Below.alloc ?_ ?_ _) | (with_reducible refine Below.drewN ?_ _) | (with_reducible refine Below.drew ?_) | (with_reducible exact Nat.le_refl _) | (focus (simp only [World.size_alloc, World.size_setCell, World.size_drew, World.size_drewN]; omega)) | omega | exact Nat.le_refl _ | (focus (simp; done)) | (focus (simp; omega))))
    obtain ⟨o, rfl⟩ := Int.eq_ofNat_of_zero_le (show 0 ≤ off by omega)
    obtain ⟨m, rfl⟩ := Int.eq_ofNat_of_zero_le (show 0 ≤ n by omega)
    have g0 : decide ((o : Int) < 0) = false := by simp
    have g1 : decide ((m : Int) < 0) = false := by simp
    by_cases hsh : b.length < o + m
    · have e : st.read s o m = (3, []) := by unfold Dk.read; rw [if_neg (by rw [hf]; simp), if_neg hneg, ← hi, ← hb, if_pos (by omega)]
      rw [e]
      clear e hf h hok hi hb hneg
      by_cases hob : b.length < o
      · have t1 : decide ((b.length : Int) < (o : Int)) = true := by simp; omega
        go_enter Try.func21, Try.ntmps21
        go_wp2_with fail
        refine (find_any d F q st s _ H.out hs).mono ?_
        rintro e w' ⟨rfl, rfl⟩
        rw [if_pos HF.out, HF.out, Int.natCast_zero, errV_zero, ← HI.out]
        go_wp2_with fail
        go_ret2
        exact .none rfl (by repeat (first | (with_reducible exact Below.refl _ _) | (with_reducible refine Below.setCell ?_ ?_ _) | (with_reducible refine Below.alloc ?_ ?_ _) | (with_reducible refine Below.drewN ?_ _) | (with_reducible refine Below.drew ?_) | (with_reducible exact Nat.le_refl _) | (focus (simp only [World.size_alloc, World.size_setCell, World.size_drew, World.size_drewN]; omega)) | omega | exact Nat.le_refl _ | (focus (simp; done)) | (focus (simp; omega))))
      · have t1 : decide ((b.length : Int) < (o : Int)) = false := by simp; omega
        have t2 : decide ((b.length : Int) - (o : Int) < (m : Int)) = true := by simp; omega
        have hob' : o ≤ b.length := by omega
        clear hob
        go_enter Try.func21, Try.ntmps21
        go_wp2_with fail
        refine (find_any d F q st s _ H.out hs).mono ?_
        rintro e w' ⟨rfl, rfl⟩
        rw [if_pos HF.out, HF.out, Int.natCast_zero, errV_zero, ← HI.out]
        go_wp2_with fail
        go_ret2
        exact .none rfl (by repeat (first | (with_reducible exact Below.refl _ _) | (with_reducible refine Below.setCell ?_ ?_ _) | (with_reducible refine Below.alloc ?_ ?_ _) | (with_reducible refine Below.drewN ?_ _) | (with_reducible refine Below.drew ?_) | (with_reducible exact Nat.le_refl _) | (focus (simp only [World.size_alloc, World.size_setCell, World.size_drew, World.size_drewN]; omega)) | omega | exact Nat.le_refl _ | (focus (simp; done)) | (focus (simp; omega))))
    · have e : st.read s o m = (0, (b.drop o).take m) := by unfold Dk.read; rw [if_neg (by rw [hf]; simp), if_neg hneg, ← hi, ← hb, if_neg (by omega)]; simp
      rw [e]
      have hlen : ((b.drop o).take m).length = m := by rw [List.length_take, List.length_drop]; omega
      obtain ⟨xs, hxs⟩ : ∃ xs, xs = (b.drop o).take m := ⟨_, rfl⟩
      obtain ⟨a', c', hrun, hrd⟩ := H2.out.cut o m (by omega)
      rw [← hxs] at hlen hrd ⊢
      subst hlen
      have HRD := Lib.hid hrd
      have t1 : decide ((b.length : Int) < (o : Int)) = false := by simp; omega
      have t2 : decide ((b.length : Int) - (o : Int) < (xs.length : Int)) = false := by simp; omega
      have hob' : o + xs.length ≤ b.length := by omega
      clear e hf h hok hi hb hneg hxs hrd hsh
      go_enter Try.func21, Try.ntmps21
      go_wp2_with fail
      refine (find_any d F q st s _ H.out hs).mono ?_
      rintro e w' ⟨rfl, rfl⟩
      rw [if_pos HF.out, HF.out, Int.natCast_zero, errV_zero, ← HI.out]
      go_wp2_with fail
      refine (bclone_any _ xs _ HRD.out (by omega)).mono ?_
      rintro e w' ⟨v', rfl, ho, _, hbw⟩
      have HO := Lib.hid ho
      have HBW := Lib.hid hbw
      clear ho hbw
      go_wp2_with fail
      go_ret2
      exact ⟨_, rfl, HO.out, HBW.out⟩
  · have e : st.read s off n = ((st.fnd s).1, []) := by unfold Dk.read; rw [if_pos hf]
    rw [e]
    have HF := Lib.hid hf
    have HE := Lib.hid (errV_ne (k := ((st.fnd s).1 : Int)) (by omega))
    clear e hf h hok
    go_enter Try.func21, Try.ntmps21
    go_wp2_with fail
    refine (find_any d F q st s _ H.out hs).mono ?_
    rintro e w' ⟨rfl, rfl⟩
    rw [if_neg HF.out, HE.out]
    go_wp2_with fail
    go_ret2
    exact .none (by rw [HE.out]; rfl) (by repeat (first | (with_reducible exact Below.refl _ _) | (with_reducible refine Below.setCell ?_ ?_ _) | (with_reducible refine Below.alloc ?_ ?_ _) | (with_reducible refine Below.drewN ?_ _) | (with_reducible refine Below.drew ?_) | (with_reducible exact Nat.le_refl _) | (focus (simp only [World.size_alloc, World.size_setCell, World.size_drew, World.size_drewN]; omega)) | omega | exact Nat.le_refl _ | (focus (simp; done)) | (focus (simp; omega))))
end Go.Proofs.Ytcicnjlkcbimgaa

/- Package disk: Cut, Spoil. -/
namespace Go.Proofs.Ytcicnjlkcbimgaa
open Go.RowKit Go.Maps
theorem clip_any (a : Option Addr) (n c : Nat) (ha : (a = none ∧ n = 0) ∨ ∃ g, a = some ⟨g, 0, none⟩) (hn : n ≤ c) (w : World) :
    Calls Try.prog 57 #[.slice a n c] w fun e w' => e = .returned (.slice a n n) ∧ w = w' := by
  have hrun := run_clip a n c ha hn
  clear ha
  go_enter Try.func57, Try.ntmps57
  go_wp2
  go_ret
  exact ⟨rfl, rfl⟩
theorem xor_bv (x y : UInt8) : Value.int .u8 (bits .xor .u8 (x.toNat : Int) (y.toNat : Int)) = bv (x ^^^ y) := by
  rw [u8_xor_nat _ _ x.toNat_lt y.toNat_lt]
  unfold bv
  rw [UInt8.toNat_xor]
set_option maxRecDepth 100000 in
set_option maxHeartbeats 2000000 in
theorem cut_any (d : Nat) (F : Nat → Prop) (q : DW) (st : Dk) (s : Nm) (n : Int) (K : Nat) (w : World) (h : DiskAt w d F q st) (hok : DkOk K st) (hs : s.length ≤ maxLen) :
    Calls Try.prog 44 #[(.pointer (some ⟨d, 0, none⟩)), .string ⟨s.toArray⟩, .int .i64 n] w fun e w' => e = .returned (errV (st.cut s n).1) ∧ DiskTo w w' d F (st.cut s n).2 := by
  have H := Lib.hid h
  have HOK := Lib.hid hok
  by_cases hf : (st.fnd s).1 = 0
  · obtain ⟨i, hi⟩ : ∃ i, i = (st.fnd s).2 := ⟨_, rfl⟩
    have hil : i < st.files.length := by rw [hi]; exact hok.fnd (by rw [hf]; simp)
    have HF := Lib.hid hf
    have HI := Lib.hid hi
    obtain ⟨h1, h2⟩ := h.file hil
    have hff := (h.files.ff i hil).1
    obtain ⟨a, c, hv, hac⟩ := h2.len
    obtain ⟨c0, c1, c2, cf⟩ := cells3 h1
    have H1 := Lib.hid h1
    have HV := Lib.hid hv
    rw [hv] at c1 h2
    have H2 := Lib.hid h2
    have hle := (hok.at i).2
    obtain ⟨m, hm⟩ : ∃ m, m = (st.fileAt i).b.length := ⟨_, rfl⟩
    rw [← hm] at c1 hle hac
    have HM := Lib.hid hm
    clear h1 c0 hv h2
    by_cases h0 : n < 0
    · have e : st.cut s n = (1, st) := by unfold Dk.cut; rw [if_neg (by rw [hf]; simp), if_pos (.inl h0)]
      rw [e]
      clear e hf h hok hi hm
      go_enter Try.func44, Try.ntmps44
      go_wp2_with fail
      refine (find_any d F q st s _ H.out hs).mono ?_
      rintro e w' ⟨rfl, rfl⟩
      rw [if_pos HF.out, HF.out, Int.natCast_zero, errV_zero, ← HI.out]
      go_wp2_with fail
      go_ret
      exact ⟨rfl, H.out.same⟩
    obtain ⟨k, rfl⟩ := Int.eq_ofNat_of_zero_le (show 0 ≤ n by omega)
    have g0 : decide ((k : Int) < 0) = false := by simp
    by_cases hlt : m < k
    · have e : st.cut s k = (1, st) := by unfold Dk.cut; rw [if_neg (by rw [hf]; simp), if_pos (.inr (by rw [← hi, ← hm]; omega))]
      rw [e]
      clear e hf h hok hi h0 hm
      go_enter Try.func44, Try.ntmps44
      go_wp2_with fail
      refine (find_any d F q st s _ H.out hs).mono ?_
      rintro e w' ⟨rfl, rfl⟩
      rw [if_pos HF.out, HF.out, Int.natCast_zero, errV_zero, ← HI.out]
      go_wp2_with fail
      go_ret
      exact ⟨rfl, H.out.same⟩
    · have e : st.cut s k = (0, (st.setF i ⟨(st.fileAt i).b.take k, k⟩).did) := by unfold Dk.cut; rw [if_neg (by rw [hf]; simp), if_neg (by rw [← hi, ← hm]; omega), ← hi]; simp
      rw [e]
      have g1 : decide ((m : Int) < (k : Int)) = false := by simp; omega
      have hkm : k ≤ m := by omega
      have hkl : k ≤ (st.fileAt i).b.length := by omega
      have hclip := H2.out.clip k hkl
      have hrun := run_prefix a m c k (H2.out.addr.imp (fun e => ⟨e.1, e.2.2⟩) id) (by omega)
      have HA := Lib.hid (show (a = none ∧ k = 0) ∨ ∃ g, a = some ⟨g, 0, none⟩ from H2.out.addr.imp (fun e => ⟨e.1, by have := congrArg List.length e.2.1; simp at this; omega⟩) id)
      have HC := Lib.hid hclip
      have hkc : k ≤ c := by omega
      clear e hf h hok hi h0 hm hclip hkl hlt
      go_enter Try.func44, Try.ntmps44
      go_wp2_with fail
      refine (find_any d F q st s _ H.out hs).mono ?_
      rintro e w' ⟨rfl, rfl⟩
      rw [if_pos HF.out, HF.out, Int.natCast_zero, errV_zero, ← HI.out]
      go_wp2_with fail
      refine (clip_any a k c HA.out hkc _).mono ?_
      rintro e w' ⟨rfl, rfl⟩
      go_wp2_with fail
      have hkk : Keeps (fun j => j = q.fb i) w ((w.setCell ⟨q.fb i, 1, none⟩ (.slice a k k)).setCell ⟨q.fb i, 2, none⟩ (.int .i64 k)) := (keeps_set _ _).trans (keeps_set _ _) fun _ _ e => e
      have h6 := H.out.one hil hkk (fun _ _ e => .inl e) ⟨(st.fileAt i).b.take k, k⟩ (.slice a k k) (by simpa using blk_put (blk_put H1.out 1 (.slice a k k)) 2 (.int .i64 k)) (keep_frow hkk (hits_one H1.out) HC.out (by simp [kindO])) (fun g hg => .inl (by rw [HV.out]; cases a <;> exact hg))
      refine (did_any d _ _ _ _ h6 HOK.out.armed.1 HOK.out.armed.2).mono ?_
      rintro e w7 ⟨rfl, h7, hk7⟩
      have H7 := Lib.hid (h7.to ((hkk.mono (G := F) fun _ _ e => e ▸ hff).trans hk7 fun _ _ e => e ▸ H.out.fd) (fun k hk => hk))
      clear h7 hk7 h6 hkk
      go_wp2_with fail
      go_ret
      exact ⟨rfl, H7.out⟩
  · have e : st.cut s n = ((st.fnd s).1, st) := by unfold Dk.cut; rw [if_pos hf]
    rw [e]
    have HF := Lib.hid hf
    have HE := Lib.hid (errV_ne (k := ((st.fnd s).1 : Int)) (by omega))
    clear e hf h hok
    go_enter Try.func44, Try.ntmps44
    go_wp2_with fail
    refine (find_any d F q st s _ H.out hs).mono ?_
    rintro e w' ⟨rfl, rfl⟩
    rw [if_neg HF.out, HE.out]
    go_wp2_with fail
    go_ret
    exact ⟨by rw [HE.out]; rfl, H.out.same⟩
set_option maxRecDepth 100000 in
set_option maxHeartbeats 2000000 in
theorem spoil_any (d : Nat) (F : Nat → Prop) (q : DW) (st : Dk) (s : Nm) (n : Int) (x : UInt8) (K : Nat) (w : World) (h : DiskAt w d F q st) (hok : DkOk K st) (hs : s.length ≤ maxLen) :
    Calls Try.prog 45 #[(.pointer (some ⟨d, 0, none⟩)), .string ⟨s.toArray⟩, .int .i64 n, .int .u8 x.toNat] w fun e w' => e = .returned (errV (st.spoil s n x).1) ∧ DiskTo w w' d F (st.spoil s n x).2 := by
  have H := Lib.hid h
  have HOK := Lib.hid hok
  by_cases hf : (st.fnd s).1 = 0
  · obtain ⟨i, hi⟩ : ∃ i, i = (st.fnd s).2 := ⟨_, rfl⟩
    have hil : i < st.files.length := by rw [hi]; exact hok.fnd (by rw [hf]; simp)
    have HF := Lib.hid hf
    have HI := Lib.hid hi
    obtain ⟨h1, h2⟩ := h.file hil
    have hff := (h.files.ff i hil)
    obtain ⟨a, c, hv, hac⟩ := h2.len
    obtain ⟨c0, c1, c2, cf⟩ := cells3 h1
    have H1 := Lib.hid h1
    have HV := Lib.hid hv
    rw [hv] at c1 h2
    have H2 := Lib.hid h2
    have hle := (hok.at i).2
    obtain ⟨m, hm⟩ : ∃ m, m = (st.fileAt i).b.length := ⟨_, rfl⟩
    rw [← hm] at c1 hle hac
    have HM := Lib.hid hm
    have HFF := Lib.hid hff
    clear h1 c0 hv h2 hff
    by_cases h0 : n < 0
    · have e : st.spoil s n x = (1, st) := by unfold Dk.spoil; rw [if_neg (by rw [hf]; simp), if_pos (.inl h0)]
      rw [e]
      clear e hf h hok hi hm
      go_enter Try.func45, Try.ntmps45
      go_wp2_with fail
      refine (find_any d F q st s _ H.out hs).mono ?_
      rintro e w' ⟨rfl, rfl⟩
      rw [if_pos HF.out, HF.out, Int.natCast_zero, errV_zero, ← HI.out]
      go_wp2_with fail
      go_ret
      exact ⟨rfl, H.out.same⟩
    obtain ⟨k, rfl⟩ := Int.eq_ofNat_of_zero_le (show 0 ≤ n by omega)
    have g0 : decide ((k : Int) < 0) = false := by simp
    by_cases hlt : m ≤ k
    · have e : st.spoil s k x = (1, st) := by unfold Dk.spoil; rw [if_neg (by rw [hf]; simp), if_pos (.inr (by rw [← hi, ← hm]; omega))]
      rw [e]
      clear e hf h hok hi h0 hm
      go_enter Try.func45, Try.ntmps45
      go_wp2_with fail
      refine (find_any d F q st s _ H.out hs).mono ?_
      rintro e w' ⟨rfl, rfl⟩
      rw [if_pos HF.out, HF.out, Int.natCast_zero, errV_zero, ← HI.out]
      go_wp2_with fail
      go_ret
      exact ⟨rfl, H.out.same⟩
    · have e : st.spoil s k x = (0, st.setF i ⟨xorAt (st.fileAt i).b k x, (st.fileAt i).lasts⟩) := by unfold Dk.spoil; rw [if_neg (by rw [hf]; simp), if_neg (by rw [← hi, ← hm]; omega), ← hi]; simp
      rw [e]
      have g1 : decide ((m : Int) ≤ (k : Int)) = false := by simp; omega
      have hkm : k < m := by omega
      have hkl : k < (st.fileAt i).b.length := by omega
      obtain ⟨g, rfl⟩ : ∃ g, a = some ⟨g, 0, none⟩ := H2.out.addr.elim (fun e => by rw [e.2.1] at hkl; simp at hkl) id
      obtain ⟨y, hy⟩ : ∃ y, y = (st.fileAt i).b[k] := ⟨_, rfl⟩
      have hcell : w.cell? ⟨g, k, none⟩ = some (.int .u8 y.toNat) := by
        obtain ⟨_, ⟨e, _⟩ | ⟨a0, c0, e, _, hc⟩⟩ := H2.out.reads
        · cases e
        · simp only [Value.slice.injEq, Option.some.injEq] at e
          have := hc k (bv (st.fileAt i).b[k]) (by rw [List.getElem?_map, List.getElem?_eq_getElem hkl]; rfl)
          rw [← e.1, add_zero_off, ← hy] at this
          exact this
      obtain ⟨cur, hcur⟩ := H2.out.blk (g := g) rfl
      have hfz : w.frozen? ⟨g, k, none⟩ = false := frozen_of_row w g k _ _ hcur
      have hset := H2.out.set k (y ^^^ x) hkl
      have hx : xorAt (st.fileAt i).b k x = (st.fileAt i).b.set k (y ^^^ x) := by unfold xorAt; rw [List.getElem?_eq_getElem hkl, hy]; rfl
      rw [hx]
      have HS := Lib.hid hset
      have HX := Lib.hid (xor_bv y x)
      have hkc : k < c := by omega
      have hgf : F g := HFF.out.2 g (by rw [HV.out]; rfl)
      have hgn : g ≠ q.fb i := fun e => by rw [e, H1.out] at hcur; injection hcur with hcur; injection hcur with _ h9; exact absurd h9 (by decide)
      clear e hf h hok hi h0 hm hkl hlt hy hcur hx hset
      go_enter Try.func45, Try.ntmps45
      go_wp2_with fail
      refine (find_any d F q st s _ H.out hs).mono ?_
      rintro e w' ⟨rfl, rfl⟩
      rw [if_pos HF.out, HF.out, Int.natCast_zero, errV_zero, ← HI.out]
      go_wp2_with fail
      rw [HX.out]
      have hkk : Keeps (fun j => j = g) w (w.setCell ⟨g, k, none⟩ (bv (y ^^^ x))) := keeps_set _ _
      have h6 := H.out.one hil hkk (fun j _ e => .inr (by rw [HV.out]; exact congrArg some e.symm)) ⟨(st.fileAt i).b.set k (y ^^^ x), (st.fileAt i).lasts⟩ (.slice (some ⟨g, 0, none⟩) (st.fileAt i).b.length c) (blk_set (by rw [← HV.out]; exact H1.out) _ _ (Ne.symm hgn)) HS.out (fun g' hg' => .inl (by rw [HV.out]; exact hg'))
      go_ret
      exact ⟨rfl, h6.to (hkk.mono (G := F) fun _ _ e => e ▸ hgf) (fun _ h => h)⟩
  · have e : st.spoil s n x = ((st.fnd s).1, st) := by unfold Dk.spoil; rw [if_pos hf]
    rw [e]
    have HF := Lib.hid hf
    have HE := Lib.hid (errV_ne (k := ((st.fnd s).1 : Int)) (by omega))
    clear e hf h hok
    go_enter Try.func45, Try.ntmps45
    go_wp2_with fail
    refine (find_any d F q st s _ H.out hs).mono ?_
    rintro e w' ⟨rfl, rfl⟩
    rw [if_neg HF.out, HE.out]
    go_wp2_with fail
    go_ret
    exact ⟨by rw [HE.out]; rfl, H.out.same⟩
end Go.Proofs.Ytcicnjlkcbimgaa

/- Package disk: maps.Clone, SyncNames. -/
namespace Go.Proofs.Ytcicnjlkcbimgaa
open Go.RowKit Go.Maps
set_option maxRecDepth 100000 in
set_option maxHeartbeats 2000000 in
theorem dirclone_any (b : Nat) (g : Nat → Nat) (l : Dir) (w : World) (h : DirAt w b g l) :
    Calls Try.prog 36 #[.map (some b)] w fun e w' => e = .returned (.map (some w.heap.size)) ∧ DirAt w' w.heap.size g l ∧ Below w.heap.size w w' ∧ w.heap.size < w'.heap.size := by
  obtain ⟨es, clock, hb, F, hs, hD⟩ := h
  have hq := fun w => run_eql_map_nil_sl (P := Try.prog) w 79 _ _ (some b) Try.underlying79
  have h50 := @run_callFunc_extern Try.prog 50 _ Extern.MapsClone.clone Try.func50 (by kernel_rfl) (by kernel_rfl) (by kernel_rfl) (by kernel_rfl)
  have hrun := run_maps_clone_sl (P := Try.prog) w 79 hb
  have hta := fun (W : World) (v : Value) => run_typeAssert_map_sl (P := Try.prog) W 79 20 _ _ v Try.underlying79
  have HF := Lib.hid F
  have HS := Lib.hid hs
  have HD := Lib.hid hD
  clear F hs hD hb
  go_enter Try.func36, Try.ntmps36
  go_wp2
  go_ret
  exact ⟨rfl, ⟨es, clock, heap_new _ _, HF.out, HS.out, HD.out⟩, (by repeat (first | (with_reducible exact Below.refl _ _) | (with_reducible refine Below.setCell ?_ ?_ _) | (with_reducible refine Below.alloc ?_ ?_ _) | (with_reducible refine Below.drewN ?_ _) | (with_reducible refine Below.drew ?_) | (with_reducible exact Nat.le_refl _) | (focus (simp only [World.size_alloc, World.size_setCell, World.size_drew, World.size_drewN]; omega)) | omega | exact Nat.le_refl _ | (focus (simp; done)) | (focus (simp; omega)))), by simp⟩
theorem DiskAt.syncTo {w w1 w' : World} {d : Nat} {F : Nat → Prop} {q : DW} {st : Dk} (h : DiskAt w d F q st) (hb : Below w.heap.size w w1) {nb : Nat} (hnb : w.heap.size ≤ nb) (hn : DirAt w1 nb q.fb st.now) (hk : Keeps (fun k => k = d) w1 w')
    (hd : w'.heap[d]? = some (.cells #[.int .i64 st.cap, .int .i64 st.files.length, .map (some q.bn), .map (some nb), .slice none 0 0, .int .i64 st.armed] 82 (0, 0))) :
    DiskAt w' d (fun k => F k ∨ w.heap.size ≤ k) { q with bl := nb, vd := .slice none 0 0, ds := [] } { st with lasting := st.now, deeds := [] } := by
  have h1 := h.below hb
  have hh := hits_one h1.blk
  have hlt := h.now.lt
  exact ⟨hd, h1.now.hits hk hh (by simp [kindO]), hn.hits hk hh (by simp [kindO]), by show q.bn ≠ nb; omega, ⟨World.ownsRow_nil _ _ _ _, fun i x hx => by simp at hx, fun g hg => by cases hg⟩, (h1.files.hits hk hh (by simp [kindO]) (by simp [kindO])).mono (fun _ h => .inl h), .inl h.fd, .inl h.fn, .inr hnb⟩
set_option maxRecDepth 100000 in
set_option maxHeartbeats 2000000 in
theorem syncNames_any (d : Nat) (F : Nat → Prop) (q : DW) (st : Dk) (K : Nat) (w : World) (h : DiskAt w d F q st) (hok : DkOk K st) :
    Calls Try.prog 13 #[(.pointer (some ⟨d, 0, none⟩))] w fun e w' => e = .returned (errV st.syncNames.1) ∧ DiskTo w w' d F st.syncNames.2 := by
  have H := Lib.hid h
  have HOK := Lib.hid hok
  obtain ⟨c0, c1, c2, c3, c4, c5, cf⟩ := cells6 h.blk
  have hdl := blk_lt h.blk
  clear h hok c0 c1 c3 c4 c5 cf
  by_cases ha : st.armed = 0
  · have e : st.syncNames = (12, st) := by unfold Dk.syncNames; rw [if_pos ha]
    rw [e]
    have HA := Lib.hid ha
    clear e ha
    go_enter Try.func13, Try.ntmps13
    go_wp2_with fail
    refine (up_any d F q st _ H.out).mono ?_
    rintro e w' ⟨rfl, rfl⟩
    rw [if_pos HA.out, errV_ne (by omega)]
    go_wp2
    go_ret
    exact ⟨rfl, H.out.same⟩
  · have e : st.syncNames = (0, ({ st with lasting := st.now, deeds := [] } : Dk).did) := by unfold Dk.syncNames; rw [if_neg ha]
    rw [e]
    have HA := Lib.hid ha
    clear e ha
    go_enter Try.func13, Try.ntmps13
    go_wp2_with fail
    refine (up_any d F q st _ H.out).mono ?_
    rintro e w' ⟨rfl, rfl⟩
    rw [if_neg HA.out, errV_zero]
    go_wp2_with fail
    refine (dirclone_any q.bn q.fb st.now _ H.out.now).mono ?_
    rintro e w1 ⟨rfl, hn1, hb1, hz1⟩
    have HN1 := Lib.hid hn1
    have HB1 := Lib.hid hb1
    have HBK := Lib.hid (blk_below H.out.blk hb1)
    obtain ⟨d0, d1, d2, d3, d4, d5, df⟩ := cells6 HBK.out
    clear hn1 hb1 d0 d1 d2 d5
    go_wp2_with fail
    have hkk : Keeps (fun j => j = d) w1 ((w1.setCell ⟨d, 3, none⟩ (.map (some w.heap.size))).setCell ⟨d, 4, none⟩ (.slice none 0 0)) := (keeps_set _ _).trans (keeps_set _ _) fun _ _ e => e
    have h6 := H.out.syncTo HB1.out (Nat.le_refl _) HN1.out hkk (by simpa using blk_put (blk_put HBK.out 3 (.map (some w.heap.size))) 4 (.slice none 0 0))
    refine (did_any d _ _ _ _ h6 HOK.out.armed.1 HOK.out.armed.2).mono ?_
    rintro e w7 ⟨rfl, h7, hk7⟩
    have H7 := Lib.hid (h7.to (((keeps_below F HB1.out).trans (hkk.mono (G := F) fun _ _ e => e ▸ H.out.fd) fun _ _ h => h).trans hk7 fun _ _ e => e ▸ H.out.fd) (fun k hk => hk))
    clear h7 hk7 h6 hkk
    go_wp2_with fail
    go_ret
    exact ⟨rfl, H7.out⟩
end Go.Proofs.Ytcicnjlkcbimgaa

/- Package disk: settle. -/
namespace Go.Proofs.Ytcicnjlkcbimgaa
open Go.RowKit Go.Maps
theorem ret_int2 {k : IntKind} {a b : Int} (h : a = b) : Value.int k a = .int k b := by rw [h]
theorem keepN_le (f : DFile) (p : DPick) : keepN f p ≤ f.b.length - f.lasts := Nat.min_le_right _ _
set_option maxRecDepth 100000 in
set_option maxHeartbeats 2000000 in
theorem settle_any (fb i : Nat) (v : Value) (f : DFile) (p : DPick) (w : World) (h1 : w.heap[fb]? = some (.cells #[.int .i64 i, v, .int .i64 f.lasts] 86 (0, 0))) (h2 : FRow w v f.b) (hl : f.lasts ≤ f.b.length) (hb : f.b.length ≤ 16777216)
    (hk1 : -9223372036854775808 ≤ p.keep) (hk2 : p.keep ≤ 9223372036854775807) :
    Calls Try.prog 39 #[(.pointer (some ⟨fb, 0, none⟩)), .agg #[.int .i64 p.keep, .int .u8 p.turn.toNat]] w fun e w' => e = .returned (.tuple #[]) ∧
      ∃ v', w'.heap[fb]? = some (.cells #[.int .i64 i, v', .int .i64 (f.settle p).lasts] 86 (0, 0)) ∧ FRow w' v' (f.settle p).b ∧ (∀ g, v'.ownBlock = some g → w.heap.size ≤ g) ∧ Keeps (fun k => k = fb) w w' := by
  obtain ⟨a, c, rfl, hac⟩ := h2.len
  obtain ⟨c0, c1, c2, cf⟩ := cells3 h1
  have H1 := Lib.hid h1
  have H2 := Lib.hid h2
  have hfl := blk_lt h1
  obtain ⟨n, hn⟩ : ∃ n, n = f.b.length := ⟨_, rfl⟩
  obtain ⟨m, hm⟩ : ∃ m, m = f.lasts := ⟨_, rfl⟩
  obtain ⟨k, hk⟩ : ∃ k, k = keepN f p := ⟨_, rfl⟩
  have hkn := keepN_le f p
  rw [← hn, ← hm, ← hk] at hkn
  have hkd : (k : Int) = min (max p.keep 0) ((n : Int) - (m : Int)) := by rw [hk, hn, hm]; unfold keepN; omega
  rw [← hm] at c2 hl
  rw [← hn] at c1 hl hb hac
  have hwr : IntKind.i64.wrap ((n : Int) - (m : Int)) = (n : Int) - (m : Int) := IntWalk.i64_in _ (by omega)
  have hwr2 : IntKind.i64.wrap ((m : Int) + (k : Int)) = (m : Int) + (k : Int) := IntWalk.i64_in _ (by omega)
  have HN := Lib.hid hn
  have HM := Lib.hid hm
  have HK := Lib.hid hk
  have HKD := Lib.hid hkd
  obtain ⟨k1, hk1'⟩ : ∃ k1 : Int, k1 = if p.keep < 0 then 0 else p.keep := ⟨_, rfl⟩
  have he1 := hk1'.symm
  have he2 : (if (n : Int) - (m : Int) < k1 then (n : Int) - (m : Int) else k1) = (k : Int) := by rw [hkd, hk1']; split <;> split <;> omega
  obtain ⟨xs, hxs⟩ : ∃ xs, xs = f.b.take (m + k) := ⟨_, rfl⟩
  have hlen : xs.length = m + k := by rw [hxs, List.length_take]; omega
  have hrun : ∀ W, (Instr.slice 22 (.slice a n c) none (some (.int .i64 ((m : Int) + (k : Int)))) none).run Try.prog W = .ok (.slice a xs.length c) W := fun W => by
    have := run_prefix a n c (m + k) (h2.addr.imp (fun e => ⟨e.1, e.2.2⟩) id) (by omega) W
    rw [hlen]
    simpa using this
  have HRD := Lib.hid (show Reads w 1 (.slice a xs.length c) xs.length (xs.map bv) by
    have := h2.pre (m + k) (by omega)
    rw [← hxs, ← hlen] at this
    exact this)
  have HS := Lib.hid (show f.settle p = ⟨if 0 < k then xorAt xs (xs.length - 1) p.turn else xs, xs.length⟩ by
    unfold DFile.settle
    rw [← hk, ← hm, ← hxs]
    dsimp only
    split <;> simp [xorAt_len])
  have HLEN := Lib.hid hlen
  have hlen2 : xs.length ≤ 16777216 := by omega
  clear h1 h2 hn hm hk hkd c0 hk1' hxs hlen
  go_enter Try.func39, Try.ntmps39
  go_wp2_with fail
  refine wp_region_now0 [1, 6, 11] [(0, 0), (1, 2), (2, 0), (3, 0), (4, 0), (5, 0), (6, 2), (7, 0), (8, 0), (9, 0), (10, 0), (11, 2), (12, 0), (13, 0), (14, 0)] (by kernel_rfl) (by kernel_rfl) rfl (by kernel_rfl) ?_
  refine stepE0 rfl rfl (fun K hK => ?_)
  go_simp
  refine hK _ ?_
  clear hK K
  refine stepE2 rfl rfl ?_ (fun w1 hS => ?_) (fun K hK => ?_)
  rotate_left
  focus (obtain rfl : w1 = _ := hS; go_simp; rfl)
  go_simp
  refine hK _ ?_
  clear hK K
  refine stepE0 rfl rfl (fun K hK => ?_)
  go_simp
  refine hK _ ?_
  clear hK K
  refine stepE0 rfl rfl (fun K hK => ?_)
  go_simp
  refine hK _ ?_
  clear hK K
  refine stepE0 rfl rfl (fun K hK => ?_)
  go_simp
  refine hK _ ?_
  clear hK K
  refine stepE0 rfl rfl (fun K hK => ?_)
  go_simp
  refine hK _ ?_
  clear hK K
  refine stepE2 rfl rfl ?_ (fun w1 hS => ?_) (fun K hK => ?_)
  rotate_left
  focus (obtain rfl : w1 = _ := hS; go_simp; rfl)
  go_simp
  refine hK _ ?_
  clear hK K
  refine stepE0 rfl rfl (fun K hK => ?_)
  go_simp
  refine hK _ ?_
  clear hK K
  refine stepE0 rfl rfl (fun K hK => ?_)
  go_simp
  refine hK _ ?_
  clear hK K
  refine stepE0 rfl rfl (fun K hK => ?_)
  go_simp
  refine hK _ ?_
  clear hK K
  refine stepE0 rfl rfl (fun K hK => ?_)
  go_simp
  refine hK _ ?_
  clear hK K
  refine stepE2 rfl rfl ?_ (fun w1 hS => ?_) (fun K hK => ?_)
  rotate_left
  focus (obtain rfl : w1 = _ := hS; go_simp; rfl)
  go_simp
  refine hK _ ?_
  clear hK K
  refine stepE0 rfl rfl (fun K hK => ?_)
  go_simp
  refine hK _ ?_
  clear hK K
  refine stepE0 rfl rfl (fun K hK => ?_)
  go_simp
  refine hK _ ?_
  clear hK K
  refine stepE0 rfl rfl (fun K hK => ?_)
  go_simp
  refine hK _ ?_
  clear hK K
  try refine stepEnil0 ?_
  clear he1 he2 hwr
  go_wp2_with fail
  refine wp_region_now0 [4, 8] [(0, 0), (1, 0), (2, 0), (3, 0), (4, 2), (5, 0), (6, 0), (7, 0), (8, 2), (9, 0), (10, 0), (11, 0), (12, 1), (13, 0), (14, 0), (15, 1)] (by kernel_rfl) (by kernel_rfl) rfl (by kernel_rfl) ?_
  refine stepE0 rfl rfl (fun K hK => ?_)
  go_simp
  refine hK _ ?_
  clear hK K
  refine stepE0 rfl rfl (fun K hK => ?_)
  go_simp
  refine hK _ ?_
  clear hK K
  refine stepE0 rfl rfl (fun K hK => ?_)
  go_simp
  refine hK _ ?_
  clear hK K
  refine stepE0 rfl rfl (fun K hK => ?_)
  go_simp
  refine hK _ ?_
  clear hK K
  refine stepE2 rfl rfl ?_ (fun w1 hS => ?_) (fun K hK => ?_)
  rotate_left
  focus (obtain rfl : w1 = _ := hS; go_simp; rfl)
  go_simp
  refine hK _ ?_
  clear hK K
  refine stepE0 rfl rfl (fun K hK => ?_)
  go_simp
  refine hK _ ?_
  clear hK K
  refine stepE0 rfl rfl (fun K hK => ?_)
  go_simp
  refine hK _ ?_
  clear hK K
  refine stepE0 rfl rfl (fun K hK => ?_)
  go_simp
  refine hK _ ?_
  clear hK K
  refine stepE2 rfl rfl ?_ (fun w1 hS => ?_) (fun K hK => ?_)
  rotate_left
  focus (obtain rfl : w1 = _ := hS; go_simp; rfl)
  go_simp
  refine hK _ ?_
  clear hK K
  refine stepE0 rfl rfl (fun K hK => ?_)
  go_simp
  refine hK _ ?_
  clear hK K
  refine stepE0 rfl rfl (fun K hK => ?_)
  go_simp
  refine hK _ ?_
  clear hK K
  refine stepE0 rfl rfl (fun K hK => ?_)
  go_simp
  refine hK _ ?_
  clear hK K
  refine stepE1 rfl rfl (by kernel_rfl) (fun K hK => ?_)
  (go_wp2_with fail; refine Calls.mono (bclone_any _ xs _ (HRD.out.below (by repeat (first | (with_reducible exact Below.refl _ _) | (with_reducible refine Below.setCell ?_ ?_ _) | (with_reducible refine Below.alloc ?_ ?_ _) | (with_reducible refine Below.drewN ?_ _) | (with_reducible refine Below.drew ?_) | (with_reducible exact Nat.le_refl _) | (focus (simp only [World.size_alloc, World.size_setCell, World.size_drew, World.size_drewN]; omega)) | omega | exact Nat.le_refl _ | (focus (simp; done)) | (focus (simp; omega))))) (by omega)) ?_; rintro e w5 ⟨v5, rfl, ho5, _, hb5⟩; obtain ⟨a5, c5, rfl⟩ := ownsRow_len ho5; have HO5 := Lib.hid ho5; have HB5 := Lib.hid (show Below w.heap.size w w5 from Below.trans (((Below.refl w.heap.size w).alloc (Nat.le_refl _) _).drew.drew) (hb5.mono (by simp))); have HP5 := Lib.hid (show w5.heap[w.heap.size]? = some (.cells #[.int .i64 p.keep, .int .u8 p.turn.toNat] 94 (0, 0)) from (hb5.block w.heap.size (by simp)).trans (heap_new w _)); have HF5 := Lib.hid (blk_below H1.out HB5.out); have hz5 := hb5.size; obtain ⟨g0, g1, g2, gf⟩ := cells3 HF5.out; clear ho5 hb5 g0; go_wp2)
  refine stepE0 rfl rfl (fun K hK => ?_)
  go_simp
  refine hK _ ?_
  clear hK K
  refine stepE0 rfl rfl (fun K hK => ?_)
  go_simp
  refine hK _ ?_
  clear hK K
  refine stepE1 rfl rfl (by kernel_rfl) (fun K hK => ?_)
  go_wp2
  try refine stepEnil0 ?_
  clear hwr2 hrun
  have HR5 := Lib.hid (FRow.own (b := xs) HO5.out)
  have hbase : ∀ g, (Value.slice a5 xs.length c5).ownBlock = some g → w.heap.size ≤ g := fun g hg => by
    have := (HO5.out.lt g hg).1
    simp at this
    omega
  have HBASE := Lib.hid hbase
  clear hbase
  by_cases hk0 : 0 < k
  · have hk0' : decide ((0 : Int) < (k : Int)) = true := by simp; omega
    have hlen := HLEN.out
    obtain ⟨j, hj⟩ : ∃ j, j + 1 = xs.length := ⟨xs.length - 1, by omega⟩
    have hjl : j < xs.length := by omega
    obtain ⟨g, rfl⟩ : ∃ g, a5 = some ⟨g, 0, none⟩ := HR5.out.addr.elim (fun e => by rw [e.2.1] at hjl; simp at hjl) id
    obtain ⟨y, hy⟩ : ∃ y, y = xs[j] := ⟨_, rfl⟩
    have hcell : w5.cell? ⟨g, j, none⟩ = some (.int .u8 y.toNat) := by
      obtain ⟨_, ⟨e, _⟩ | ⟨a0, c0, e, _, hc⟩⟩ := HR5.out.reads
      · cases e
      · simp only [Value.slice.injEq, Option.some.injEq] at e
        have := hc j (bv xs[j]) (by rw [List.getElem?_map, List.getElem?_eq_getElem hjl]; rfl)
        rw [← e.1, add_zero_off, ← hy] at this
        exact this
    obtain ⟨cur, hcur⟩ := HR5.out.blk (g := g) rfl
    have hfz : w5.frozen? ⟨g, j, none⟩ = false := frozen_of_row w5 g j _ _ hcur
    have hgs : w.heap.size ≤ g := HBASE.out g rfl
    have hgn : g ≠ fb := by omega
    have hgn2 : fb ≠ g := by omega
    have hpn : w.heap.size ≠ fb := by omega
    have hpg : w.heap.size ≠ g := fun e => by rw [← e, HP5.out] at hcur; injection hcur with hcur; injection hcur with _ h9; exact absurd h9 (by decide)
    obtain ⟨p0, p1⟩ : w5.cell? ⟨w.heap.size, 0, none⟩ = some (.int .i64 p.keep) ∧ w5.cell? ⟨w.heap.size, 1, none⟩ = some (.int .u8 p.turn.toNat) := by
      have e := fun j => cell_of_row w5 w.heap.size j _ _ _ HP5.out
      exact ⟨e 0, e 1⟩
    have hwr3 : IntKind.i64.wrap ((xs.length : Int) - 1) = (j : Int) := by rw [IntWalk.i64_in _ (by omega)]; omega
    have hjl' : (j : Int) < (xs.length : Int) := by omega
    have hj0 : (0 : Int) ≤ (j : Int) := by omega
    have HX := Lib.hid (xor_bv y p.turn)
    have HJ := Lib.hid hj
    have HY := Lib.hid hy
    have hset := HR5.out.set j (y ^^^ p.turn) hjl
    have HSET := Lib.hid hset
    have hfl5 := blk_lt HF5.out
    clear hj hy hcur hlen hset p0
    go_wp2_with fail
    refine wp_region_now0 [3, 7, 11, 13] [(0, 0), (1, 0), (2, 0), (3, 2), (4, 0), (5, 0), (6, 0), (7, 2), (8, 0), (9, 0), (10, 0), (11, 2), (12, 0), (13, 2), (14, 0), (15, 0), (16, 1)] (by kernel_rfl) (by kernel_rfl) rfl (by kernel_rfl) ?_
    refine stepE0 rfl rfl (fun K hK => ?_)
    go_simp
    refine hK _ ?_
    clear hK K
    refine stepE0 rfl rfl (fun K hK => ?_)
    go_simp
    refine hK _ ?_
    clear hK K
    refine stepE0 rfl rfl (fun K hK => ?_)
    go_simp
    refine hK _ ?_
    clear hK K
    refine stepE2 rfl rfl ?_ (fun w1 hS => ?_) (fun K hK => ?_)
    rotate_left
    focus (obtain rfl : w1 = _ := hS; go_simp; rfl)
    go_simp
    refine hK _ ?_
    clear hK K
    refine stepE0 rfl rfl (fun K hK => ?_)
    go_simp
    refine hK _ ?_
    clear hK K
    refine stepE0 rfl rfl (fun K hK => ?_)
    go_simp
    refine hK _ ?_
    clear hK K
    refine stepE0 rfl rfl (fun K hK => ?_)
    go_simp
    refine hK _ ?_
    clear hK K
    refine stepE2 rfl rfl ?_ (fun w1 hS => ?_) (fun K hK => ?_)
    rotate_left
    focus (obtain rfl : w1 = _ := hS; go_simp; rfl)
    go_simp
    refine hK _ ?_
    clear hK K
    refine stepE0 rfl rfl (fun K hK => ?_)
    go_simp
    refine hK _ ?_
    clear hK K
    refine stepE0 rfl rfl (fun K hK => ?_)
    go_simp
    refine hK _ ?_
    clear hK K
    refine stepE0 rfl rfl (fun K hK => ?_)
    go_simp
    refine hK _ ?_
    clear hK K
    refine stepE2 rfl rfl ?_ (fun w1 hS => ?_) (fun K hK => ?_)
    rotate_left
    focus (obtain rfl : w1 = _ := hS; go_simp; rfl)
    go_simp
    refine hK _ ?_
    clear hK K
    refine stepE0 rfl rfl (fun K hK => ?_)
    go_simp
    refine hK _ ?_
    clear hK K
    refine stepE2 rfl rfl ?_ (fun w1 hS => ?_) (fun K hK => ?_)
    rotate_left
    focus (obtain rfl : w1 = _ := hS; go_simp; rfl)
    go_simp
    refine hK _ ?_
    clear hK K
    refine stepE0 rfl rfl (fun K hK => ?_)
    go_simp
    refine hK _ ?_
    clear hK K
    refine stepE0 rfl rfl (fun K hK => ?_)
    go_simp
    refine hK _ ?_
    clear hK K
    refine stepE1 rfl rfl (by kernel_rfl) (fun K hK => ?_)
    go_wp2
    try refine stepEnil0 ?_
    rw [HX.out]
    clear hwr3
    go_wp2_with fail
    go_end0
    have hbk := blk_put (blk_set (blk_put HF5.out 1 (.slice (some ⟨g, 0, none⟩) xs.length c5)) ⟨g, j, none⟩ (bv (y ^^^ p.turn)) hgn2) 2 (.int .i64 xs.length)
    have hr1 := keep_frow (keeps_set (b := fb) 1 (.slice (some ⟨g, 0, none⟩) xs.length c5)) (hits_one HF5.out) HR5.out (by simp [kindO])
    have hr2 := hr1.set j (y ^^^ p.turn) hjl
    have hr3 := keep_frow (keeps_set (b := fb) 2 (.int .i64 xs.length)) (hits_one (blk_set (blk_put HF5.out 1 (.slice (some ⟨g, 0, none⟩) xs.length c5)) ⟨g, j, none⟩ (bv (y ^^^ p.turn)) hgn2)) hr2 (by simp [kindO])
    refine ⟨rfl, .slice (some ⟨g, 0, none⟩) xs.length c5, ?_, ?_, HBASE.out, ?_⟩
    · rw [HS.out]
      simp only [List.setIfInBounds_toArray, List.set_cons_succ, List.set_cons_zero] at hbk
      exact hbk
    · rw [HS.out, if_pos hk0]
      have e : xorAt xs (xs.length - 1) p.turn = xs.set j (y ^^^ p.turn) := by
        have hj' : xs.length - 1 = j := by have := HJ.out; omega
        rw [hj', HY.out]
        unfold xorAt
        rw [List.getElem?_eq_getElem hjl]
        rfl
      rw [e]
      exact hr3
    · exact ((((keeps_below (fun x => x = fb) HB5.out).setCell _ _ fun _ => rfl).setCell ⟨g, j, none⟩ _ fun hl => absurd hl (by show ¬ g < w.heap.size; omega)).setCell _ _ fun _ => rfl).drew
  · have hk0' : decide ((0 : Int) < (k : Int)) = false := by simp; omega
    go_wp2_with fail
    go_end0
    have hkk : Keeps (fun x => x = fb) w5 ((w5.setCell ⟨fb, 1, none⟩ (.slice a5 xs.length c5)).setCell ⟨fb, 2, none⟩ (.int .i64 xs.length)) := (keeps_set _ _).trans (keeps_set _ _) fun _ _ e => e
    refine ⟨rfl, .slice a5 xs.length c5, ?_, ?_, HBASE.out, (keeps_below _ HB5.out).trans hkk fun _ _ e => e⟩
    · rw [HS.out]
      simpa using blk_put (blk_put HF5.out 1 (.slice a5 xs.length c5)) 2 (.int .i64 xs.length)
    · rw [HS.out, if_neg hk0]
      exact keep_frow hkk (hits_one HF5.out) HR5.out (by simp [kindO])
end Go.Proofs.Ytcicnjlkcbimgaa

/- Package disk: Crash. -/
namespace Go.Proofs.Ytcicnjlkcbimgaa
open Go.RowKit Go.Maps
def DPick.row (p : DPick) : List Value := [.int .i64 p.keep, .int .u8 p.turn.toNat]
theorem DPick.row_len (p : DPick) : p.row.length = 2 := rfl
theorem run_prefixT (T e : TypeId) (hT : Try.prog.underlying T = some (.slice e)) (hs : ∀ W, (sizeOf e).run Try.prog W = .ok 1 W) (a : Option Addr) (len c n : Nat) (ha : (a = none ∧ c = 0) ∨ ∃ g, a = some ⟨g, 0, none⟩) (hn : n ≤ c) (W : World) : (Instr.slice T (.slice a len c) none (some (.int .i64 n)) none).run Try.prog W = .ok (.slice a n c) W := by
  have e : (if c = 0 then a else a.map (·.add (0 * 1))) = a := by
    rcases ha with ⟨rfl, _⟩ | ⟨g, rfl⟩
    · simp
    · simp [add_zero_off]
  simp [Instr.slice, run_underlying hT, Instr.sliceBounds, run_sliceBound, hs, Result.andThen, (by omega : (0 : Int) ≤ (n : Int)), (by omega : (n : Int) ≤ (c : Int))]
  simpa using e
theorem sameKey_str (a b : Nm) : (Lit.string a).sameKey (.string b) = (a == b) := rfl
theorem get_of_mem : ∀ {l : Dir} {x : Nm} {j : Nat}, l.Pairwise (fun p q => p.1 ≠ q.1) → (x, j) ∈ l → dirGet l x = some j
  | [], _, _, _, h => absurd h List.not_mem_nil
  | p :: r, x, j, hp, h => by
    obtain ⟨h1, h2⟩ := List.pairwise_cons.1 hp
    unfold dirGet
    rw [List.find?_cons]
    rcases List.mem_cons.1 h with rfl | h
    · simp
    · have : (p.1 == x) = false := beq_eq_false_iff_ne.2 (h1 _ h)
      rw [this]
      exact get_of_mem h2 h
/-- Files of which those whose names have come are settled. -/
def settleS (l : Dir) (p : DPicks) (left : Lit → Bool) (fs : List DFile) : List DFile := fs.mapIdx fun i f => if l.any (fun x => x.2 == i && !left (.string x.1)) then f.settle (p.at i) else f
theorem settleS_len (l : Dir) (p : DPicks) (left : Lit → Bool) (fs : List DFile) : (settleS l p left fs).length = fs.length := by simp [settleS]
theorem settleS_start (l : Dir) (p : DPicks) (g : Nat → Nat) (fs : List DFile) : settleS l p (Maps.has (dirD g l)) fs = fs := by
  unfold settleS
  refine List.ext_getElem? fun i => ?_
  rw [List.getElem?_mapIdx]
  cases h : fs[i]? with
  | none => rfl
  | some f =>
    have e : (l.any fun x => x.2 == i && !Maps.has (dirD g l) (.string x.1)) = false := by
      rw [List.any_eq_false]
      intro x hx
      rw [dirD_has, get_has hx]
      simp
    simp [e]
theorem settleS_end (l : Dir) (p : DPicks) (left : Lit → Bool) (fs : List DFile) (h : ∀ kl, left kl = false) : settleS l p left fs = settleAll l p fs := by
  unfold settleS settleAll
  have e : ∀ i : Nat, (l.any fun x => x.2 == i && !left (.string x.1)) = l.any fun x => x.2 == i := fun i => by
    congr 1
    funext x
    rw [h]
    simp
  simp only [e]
theorem settleS_get (l : Dir) (p : DPicks) (left : Lit → Bool) (fs : List DFile) (i : Nat) (f : DFile) (h : fs[i]? = some f) : ∃ g, (settleS l p left fs)[i]? = some g ∧ (g = f ∨ g = f.settle (p.at i)) := by
  unfold settleS
  rw [List.getElem?_mapIdx, h]
  simp only [Option.map_some, Option.some.injEq, exists_eq_left']
  split
  · exact .inr rfl
  · exact .inl rfl
theorem settleS_step (l : Dir) (p : DPicks) (left : Lit → Bool) (fs : List DFile) (x : Nm) (i : Nat) (f : DFile) (hd : l.Pairwise (fun p q => p.1 ≠ q.1)) (hx : dirGet l x = some i) (hf : (settleS l p left fs)[i]? = some f) :
    settleS l p (fun z => left z && !z.sameKey (.string x)) fs = (settleS l p left fs).set i (f.settle (p.at i)) := by
  have hm := get_mem hx
  refine List.ext_getElem? fun j => ?_
  by_cases hj : j = i
  · subst hj
    have hl : j < (settleS l p left fs).length := (List.getElem?_eq_some_iff.1 hf).1
    rw [List.getElem?_set_self hl]
    rw [settleS_len] at hl
    have h0 := List.getElem?_eq_getElem hl
    unfold settleS at hf ⊢
    rw [List.getElem?_mapIdx, h0] at hf ⊢
    simp only [Option.map_some, Option.some.injEq] at hf ⊢
    have ha : (l.any fun y => y.2 == j && !(left (.string y.1) && !(Lit.string y.1).sameKey (.string x))) = true := by
      rw [List.any_eq_true]
      exact ⟨(x, j), hm, by dsimp only; rw [sameKey_str]; simp⟩
    rw [ha, if_pos rfl]
    subst hf
    split
    · rw [settle_twice]
    · rfl
  · rw [List.getElem?_set_ne (Ne.symm hj)]
    unfold settleS
    rw [List.getElem?_mapIdx, List.getElem?_mapIdx]
    cases h : fs[j]? with
    | none => rfl
    | some y =>
      simp only [Option.map_some, Option.some.injEq]
      have hap : (l.any fun y => y.2 == j && !(left (.string y.1) && !(Lit.string y.1).sameKey (.string x))) = l.any fun y => y.2 == j && !left (.string y.1) := by
        rw [Bool.eq_iff_iff, List.any_eq_true, List.any_eq_true]
        have hk : ∀ y ∈ l, (y.2 == j && !(left (.string y.1) && !(Lit.string y.1).sameKey (.string x))) = (y.2 == j && !left (.string y.1)) := fun y hy => by
          by_cases e : y.2 = j
          · have hne : y.1 ≠ x := fun e2 => hj (by
              have := get_of_mem hd (show (y.1, y.2) ∈ l from hy)
              rw [e2, hx] at this
              simp at this
              omega)
            have : (Lit.string y.1).sameKey (.string x) = false := beq_eq_false_iff_ne.2 hne
            rw [this]
            simp
          · have : (y.2 == j) = false := beq_eq_false_iff_ne.2 e
            rw [this]
            rfl
        constructor
        · rintro ⟨y, hy, h1⟩
          exact ⟨y, hy, by rw [← hk y hy]; exact h1⟩
        · rintro ⟨y, hy, h1⟩
          exact ⟨y, hy, by rw [hk y hy]; exact h1⟩
      rw [hap]
end Go.Proofs.Ytcicnjlkcbimgaa

/- Package disk: Crash. -/
namespace Go.Proofs.Ytcicnjlkcbimgaa
open Go.RowKit Go.Maps
theorem deedsApp_snoc (xs : List Deed) (j : Nat) (x : Deed) (l : Dir) (h : xs[j]? = some x) : deedsApp (xs.take (j + 1)) l = x.app (deedsApp (xs.take j) l) := by
  rw [List.take_add_one, h]
  simp [deedsApp, List.foldl_append]
theorem keeps_grow {w w' : World} {b : Nat} (h : Keeps (fun k => k = b) w w') : w.grownBy w' (some b) := ⟨h.os, h.tape, h.output, h.size, fun i hi hne => h.block i hi fun e => hne (by rw [e])⟩
theorem settleS_bound (l : Dir) (p : DPicks) (left : Lit → Bool) {fs : List DFile} (h : ∀ f ∈ fs, f.lasts ≤ f.b.length ∧ f.b.length ≤ 16777216) {i : Nat} {g : DFile} (hg : (settleS l p left fs)[i]? = some g) : g.lasts ≤ g.b.length ∧ g.b.length ≤ 16777216 := by
  have hi : i < fs.length := by
    have := (List.getElem?_eq_some_iff.1 hg).1
    rwa [settleS_len] at this
  have hf := List.getElem?_eq_getElem hi
  have hb := h _ (List.getElem_mem hi)
  obtain ⟨g', h1, h2⟩ := settleS_get l p left fs i _ hf
  rw [hg] at h1
  cases h1
  rcases h2 with rfl | rfl
  · exact hb
  · have hk := keepN_le fs[i] (p.at i)
    rw [settle_lasts, settle_len _ _ hb.1]
    omega
theorem DiskAt.crashTo {w w1 w' : World} {d : Nat} {F : Nat → Prop} {q : DW} {st : Dk} (h : DiskAt w d F q st) (hb : Below w.heap.size w w1) {nb : Nat} (hnb : w.heap.size ≤ nb) (hn : DirAt w1 nb q.fb st.lasting) (hk : Keeps (fun k => k = d) w1 w')
    (hd : w'.heap[d]? = some (.cells #[.int .i64 st.cap, .int .i64 st.files.length, .map (some nb), .map (some q.bl), .slice none 0 0, .int .i64 (-1)] 82 (0, 0))) :
    DiskAt w' d (fun k => F k ∨ w.heap.size ≤ k) { q with bn := nb, vd := .slice none 0 0, ds := [] } ⟨st.cap, st.lasting, st.lasting, [], st.files, -1⟩ := by
  have h1 := h.below hb
  have hh := hits_one h1.blk
  have hlt := h.last.lt
  exact ⟨hd, hn.hits hk hh (by simp [kindO]), h1.last.hits hk hh (by simp [kindO]), by show nb ≠ q.bl; omega, ⟨World.ownsRow_nil _ _ _ _, fun i x hx => by simp at hx, fun g hg => by cases hg⟩, (h1.files.hits hk hh (by simp [kindO]) (by simp [kindO])).mono (fun _ h => .inl h), .inl h.fd, .inr hnb, .inl h.fl⟩
theorem pick_info : (Try.prog.info? 94).map (fun i => (i.zero, i.size, i.bytes)) = some (some (.agg #[.int .i64 0, .int .u8 0]), 2, 16) := by kernel_rfl
set_option maxRecDepth 100000 in
set_option maxHeartbeats 4000000 in
theorem crash_any (d : Nat) (F : Nat → Prop) (q : DW) (st : Dk) (p : DPicks) (af : Option Addr) (cf : Nat) (K : Nat) (w : World) (h : DiskAt w d F q st) (hok : DkOk K st) (hK : K ≤ 1099511627776)
    (hp : Reads w 2 (.slice af p.files.length cf) p.files.length (p.files.flatMap DPick.row)) (hpF : ∀ a, af = some a → a.spot = none ∧ ¬ F a.block ∧ a.block < w.heap.size) (hn1 : -9223372036854775808 ≤ p.names) (hn2 : p.names ≤ 9223372036854775807)
    (hpk : ∀ x ∈ p.files, -9223372036854775808 ≤ x.keep ∧ x.keep ≤ 9223372036854775807) :
    Calls Try.prog 18 #[(.pointer (some ⟨d, 0, none⟩)), .agg #[.int .i64 p.names, .slice af p.files.length cf]] w fun e w' => e = .returned .nilIface ∧ DiskTo w w' d F (st.crash p) := by
  obtain ⟨G, hG⟩ : ∃ G : Nat → Prop, G = fun k => F k ∧ k < w.heap.size := ⟨_, rfl⟩
  have hg := h.trim
  rw [← hG] at hg
  have H := Lib.hid hg
  have HG := Lib.hid (show ∀ k, G k → F k ∧ k < w.heap.size by rw [hG]; exact fun _ h => h)
  have HOK := Lib.hid hok
  have HP := Lib.hid hp
  have HPK := Lib.hid hpk
  have HPF := Lib.hid hpF
  have hnd : st.deeds.length ≤ 1099511627776 := Nat.le_trans hok.nd hK
  have hnf : st.files.length ≤ 1099511627776 := Nat.le_trans hok.nf hK
  obtain ⟨c0, c1, c2, c3, c4, c5, cfz⟩ := cells6 hg.blk
  obtain ⟨ad, cd, hvd⟩ := ownsRow_len hg.deeds.row
  rw [hvd] at c4
  have HVD := Lib.hid hvd
  have hcd : st.deeds.length ≤ cd := by
    have hrow := hg.deeds.row
    rw [hvd] at hrow
    rcases hrow.2 with ⟨e, h0⟩ | ⟨_, _, _, e, _, _, h1, _⟩
    · omega
    · simp only [Value.slice.injEq] at e
      omega
  have hda : (ad = none ∧ cd = 0) ∨ ∃ g, ad = some ⟨g, 0, none⟩ := by
    have hrow := hg.deeds.row
    rw [hvd] at hrow
    rcases hrow.2 with ⟨e, h0⟩ | ⟨g, _, _, e, _⟩
    · simp only [Value.slice.injEq] at e
      exact .inl ⟨e.1, e.2.2⟩
    · simp only [Value.slice.injEq] at e
      exact .inr ⟨g, e.1⟩
  obtain ⟨k, hk⟩ : ∃ k, k = min p.names.toNat st.deeds.length := ⟨_, rfl⟩
  have hkd : k ≤ st.deeds.length := by rw [hk]; exact Nat.min_le_right _ _
  obtain ⟨k1, hk1⟩ : ∃ k1 : Int, k1 = if p.names < 0 then 0 else p.names := ⟨_, rfl⟩
  have he1 := hk1.symm
  have he2 : (if (st.deeds.length : Int) < k1 then (st.deeds.length : Int) else k1) = (k : Int) := by rw [hk, hk1]; split <;> split <;> omega
  have hrun := run_prefixT 80 88 Try.underlying80 (fun W => by kernel_rfl) ad st.deeds.length cd k hda (by omega)
  have HLD := Lib.hid (show st.lastDir p = deedsApp (st.deeds.take k) st.lasting by
    unfold Dk.lastDir
    rw [hk]
    by_cases e : p.names.toNat ≤ st.deeds.length
    · rw [Nat.min_eq_left e]
    · rw [Nat.min_eq_right (by omega), List.take_of_length_le (by omega), List.take_of_length_le (Nat.le_refl _)])
  have HDA := Lib.hid hda
  have hdl := blk_lt hg.blk
  have HHD := Lib.hid hn1
  clear h hg hok hp hpk hpF hG c0 c1 c2 c5 hvd hda hk hk1
  go_enter Try.func18, Try.ntmps18
  go_wp2_with fail
  refine wp_region_now0 [3, 5, 10] [(0, 0), (1, 0), (2, 0), (3, 2), (4, 0), (5, 2), (6, 0), (7, 0), (8, 0), (9, 0), (10, 2), (11, 0), (12, 0), (13, 0), (14, 0), (15, 0)] (by kernel_rfl) (by kernel_rfl) rfl (by kernel_rfl) ?_
  refine stepE0 rfl rfl (fun K hK => ?_)
  go_simp
  refine hK _ ?_
  clear hK K
  refine stepE0 rfl rfl (fun K hK => ?_)
  go_simp
  refine hK _ ?_
  clear hK K
  refine stepE0 rfl rfl (fun K hK => ?_)
  go_simp
  refine hK _ ?_
  clear hK K
  refine stepE2 rfl rfl ?_ (fun w1 hS => ?_) (fun K hK => ?_)
  rotate_left
  focus (obtain rfl : w1 = _ := hS; go_simp; rfl)
  go_simp
  refine hK _ ?_
  clear hK K
  refine stepE0 rfl rfl (fun K hK => ?_)
  go_simp
  refine hK _ ?_
  clear hK K
  refine stepE2 rfl rfl ?_ (fun w1 hS => ?_) (fun K hK => ?_)
  rotate_left
  focus (obtain rfl : w1 = _ := hS; go_simp; rfl)
  go_simp
  refine hK _ ?_
  clear hK K
  refine stepE0 rfl rfl (fun K hK => ?_)
  go_simp
  refine hK _ ?_
  clear hK K
  refine stepE0 rfl rfl (fun K hK => ?_)
  go_simp
  refine hK _ ?_
  clear hK K
  refine stepE0 rfl rfl (fun K hK => ?_)
  go_simp
  refine hK _ ?_
  clear hK K
  refine stepE0 rfl rfl (fun K hK => ?_)
  go_simp
  refine hK _ ?_
  clear hK K
  refine stepE2 rfl rfl ?_ (fun w1 hS => ?_) (fun K hK => ?_)
  rotate_left
  focus (obtain rfl : w1 = _ := hS; go_simp; rfl)
  go_simp
  refine hK _ ?_
  clear hK K
  refine stepE0 rfl rfl (fun K hK => ?_)
  go_simp
  refine hK _ ?_
  clear hK K
  refine stepE0 rfl rfl (fun K hK => ?_)
  go_simp
  refine hK _ ?_
  clear hK K
  refine stepE0 rfl rfl (fun K hK => ?_)
  go_simp
  refine hK _ ?_
  clear hK K
  refine stepE0 rfl rfl (fun K hK => ?_)
  go_simp
  refine hK _ ?_
  clear hK K
  refine stepE0 rfl rfl (fun K hK => ?_)
  go_simp
  refine hK _ ?_
  clear hK K
  try refine stepEnil0 ?_
  clear he1 he2 hrun
  go_wp2_with fail
  obtain ⟨W1, hW1⟩ : ∃ W1 : World, W1 = (w.alloc (.cells #[.int .i64 p.names, .slice af p.files.length cf] 41)).drew := ⟨_, rfl⟩
  have hbW : Below w.heap.size w W1 := by rw [hW1]; exact (by repeat (first | (with_reducible exact Below.refl _ _) | (with_reducible refine Below.setCell ?_ ?_ _) | (with_reducible refine Below.alloc ?_ ?_ _) | (with_reducible refine Below.drewN ?_ _) | (with_reducible refine Below.drew ?_) | (with_reducible exact Nat.le_refl _) | (focus (simp only [World.size_alloc, World.size_setCell, World.size_drew, World.size_drewN]; omega)) | omega | exact Nat.le_refl _ | (focus (simp; done)) | (focus (simp; omega))))
  have HBW := Lib.hid hbW
  have HBX := Lib.hid (show W1.heap[w.heap.size]? = some (.cells #[.int .i64 p.names, .slice af p.files.length cf] 41 (0, 0)) by rw [hW1]; exact heap_new w _)
  rw [← hW1]
  clear hW1 hbW c3 c4 cfz
  go_loopw [28] (fun i wr => ∃ j : Nat, j ≤ k ∧ i = .int .i64 j ∧ DiskAt wr d G q { st with lasting := deedsApp (st.deeds.take j) st.lasting } ∧ Keeps (fun x => x = q.bl) W1 wr) (fun i _ => k - (intOf i).toNat)
  case atStart => exact ⟨0, Nat.zero_le _, rfl, H.out.below HBW.out, Keeps.refl _ _⟩
  case round =>
    obtain ⟨j, hj, rfl, hd, hkw⟩ := hrel
    have HD := Lib.hid hd
    have HKW := Lib.hid hkw
    obtain ⟨e0, e1, e2, e3, e4, e5, ef⟩ := cells6 hd.blk
    clear hd hkw e0 e1 e2 e4 e5 ef
    by_cases hlt : j < k
    · obtain ⟨x, hx⟩ : ∃ x, st.deeds[j]? = some x := ⟨_, List.getElem?_eq_getElem (by omega)⟩
      obtain ⟨v, hv, hdv⟩ := HD.out.deeds.dd j x hx
      obtain ⟨f, caps, rfl, hrun, hcall⟩ := deed_any d G q st v x q.bl _ wr HD.out.last (HOK.out.hist j) hdv
      obtain ⟨g, rfl⟩ : ∃ g, ad = some ⟨g, 0, none⟩ := HDA.out.elim (fun e => by omega) id
      have hcell : wr.cell? ⟨g, j, none⟩ = some (.func (.func f) #[] caps) := by
        have := HD.out.deeds.row.cells (g := g) (by rw [HVD.out]; rfl) j _ hv
        rwa [add_zero_off] at this
      have HC := Lib.hid hcall
      have HS := Lib.hid (deedsApp_snoc st.deeds j x st.lasting hx)
      have hj0 : (0 : Int) ≤ (j : Int) := by omega
      have hj1 : (j : Int) < (k : Int) := by omega
      clear hx hv hdv hcall
      go_wp2_with fail
      refine HC.out.mono ?_
      rintro e w2 ⟨rfl, hn2', hk2⟩
      have HD2 := Lib.hid (HD.out.lastTo hk2 hn2')
      have HK2 := Lib.hid (HKW.out.trans hk2 fun _ _ e => e)
      clear hn2' hk2
      go_wp2_with fail
      go_roundw
      case rel => exact ⟨j + 1, by omega, by go_num, by rw [HS.out]; exact HD2.out, HK2.out⟩
      case measure => simp [intOf]; omega
    · obtain rfl : j = k := by omega
      have HD1 := Lib.hid (show DiskAt wr d G q { st with lasting := st.lastDir p } by rw [HLD.out]; exact HD.out)
      go_wp2_with (at_range; refine wpList_range_own _ rfl _ 79 rfl 9 84 law_str Try.underlying79 ptrR q.bl (st.lastDir p).length (dirD q.fb (st.lastDir p)) rfl HD1.out.last ?_; intro w0 hrg0 hg0 hs0; have HR0 := Lib.hid hrg0; have HG0 := Lib.hid hg0; have HS0 := Lib.hid hs0; clear hrg0 hg0 hs0)
      go_frame
      obtain ⟨wo, rfl⟩ : ∃ wo : World, wo = wr := ⟨_, rfl⟩
      have hgr : ∀ x, G x → x < wo.heap.size := fun x hx => Nat.lt_of_lt_of_le (HG.out x hx).2 (Nat.le_trans HBW.out.size HKW.out.size)
      have hbx : wo.heap[w.heap.size]? = some (.cells #[.int .i64 p.names, .slice af p.files.length cf] 41 (0, 0)) :=
        (HKW.out.block _ (blk_lt HBX.out) fun e => by have := (HG.out _ (e ▸ H.out.fl)).2; omega).trans HBX.out
      have HBX2 := Lib.hid hbx
      have HGR := Lib.hid hgr
      have hrp : Reads wo 2 (.slice af p.files.length cf) p.files.length (p.files.flatMap DPick.row) := by
        obtain ⟨hl, h0 | ⟨a0, c0, e, hm, hc⟩⟩ := HP.out
        · exact ⟨hl, .inl h0⟩
        · simp only [Value.slice.injEq] at e
          obtain ⟨hs1, hs2, hs3⟩ := HPF.out a0 e.1
          refine ⟨hl, .inr ⟨a0, c0, by rw [e.1, e.2.2], hm, fun m u hu => ?_⟩⟩
          have hb : (a0.add m).block = a0.block := by unfold Addr.add; split <;> rfl
          have h1 := hc m u hu
          have h2 : W1.cell? (a0.add m) = some u := cell_later HBW.out h1
          rw [← h2]
          refine World.cell?_of_block (HKW.out.block _ (by rw [hb]; exact Nat.lt_of_lt_of_le hs3 HBW.out.size) fun e => hs2 ?_)
          rw [hb] at e
          exact (HG.out _ (e ▸ H.out.fl)).1
      have HRP := Lib.hid hrp
      have HAP := Lib.hid (dir_apart HD1.out.last)
      clear hgr hbx hrp e3
      go_loopw [8] (fun _ WS => ∃ (left : Lit → Bool) (cnt : Nat) (fv : Nat → Value), WS.ranges Try.prog 9 ptrR q.bl wo.heap.size (st.lastDir p).length (dirD q.fb (st.lastDir p)) left cnt ∧
        DiskAt WS d (fun x => G x ∨ wo.heap.size < x) { q with fv := fv } { st with lasting := st.lastDir p, files := settleS (st.lastDir p) p left st.files } ∧ Keeps (fun x => G x ∨ wo.heap.size ≤ x) wo WS) (fun _ WS => WS.rangeLeft q.bl wo.heap.size)
      case atStart =>
        refine ⟨_, _, q.fv, HR0.out, ?_, ⟨HG0.out.os, HG0.out.tape, HG0.out.output, HG0.out.size, fun x hx _ => HG0.out.block x hx (by simp)⟩⟩
        rw [settleS_start]
        exact (HD1.out.below ⟨HG0.out.os, HG0.out.tape, HG0.out.output, HG0.out.size, fun x hx => HG0.out.block x hx (by simp)⟩).mono fun _ h => .inl h
      case round =>
        obtain ⟨left, cnt, fv, hrg, hds, hks⟩ := hrel
        have HRG := Lib.hid hrg
        have HDS := Lib.hid hds
        have HKS := Lib.hid hks
        clear hrg hds hks
        go_wp2_with (at_next; refine wpList_next_dir _ rfl _ rfl q.bl wo.heap.size (st.lastDir p).length q.fb (st.lastDir p) left cnt rfl HRG.out ?_ ?_)
        · intro hl0
          have HL0 := Lib.hid hl0
          clear hl0
          have HDE := Lib.hid (show DiskAt wr d (fun x => G x ∨ wo.heap.size < x) { q with fv := fv } { st with lasting := st.lastDir p, files := settleAll (st.lastDir p) p st.files } by
            have := HDS.out
            rw [settleS_end _ _ _ _ HL0.out] at this
            exact this)
          obtain ⟨e0, e1, e2, e3, e4, e5, ef⟩ := cells6 HDE.out.blk
          have hdl2 := blk_lt HDE.out.blk
          clear e0 e1 e2 e4 e5 ef
          go_wp2_with fail
          refine (dirclone_any q.bl q.fb (st.lastDir p) _ HDE.out.last).mono ?_
          rintro e w1 ⟨rfl, hn1', hb1, hz1⟩
          have HN1 := Lib.hid hn1'
          have HB1 := Lib.hid hb1
          have HBK := Lib.hid (blk_below HDE.out.blk hb1)
          obtain ⟨d0, d1, d2, d3, d4, d5, df⟩ := cells6 HBK.out
          clear hn1' hb1 d0 d1 d3
          go_wp2_with fail
          have hkk : Keeps (fun j => j = d) w1 (((w1.setCell ⟨d, 2, none⟩ (.map (some wr.heap.size))).setCell ⟨d, 4, none⟩ (.slice none 0 0)).setCell ⟨d, 5, none⟩ (.int .i64 (-1))) := ((keeps_set _ _).trans (keeps_set _ _) fun _ _ e => e).trans (keeps_set _ _) fun _ _ e => e
          have h6 := HDE.out.crashTo HB1.out (Nat.le_refl _) HN1.out hkk (by simpa using blk_put (blk_put (blk_put HBK.out 2 (.map (some wr.heap.size))) 4 (.slice none 0 0)) 5 (.int .i64 (-1)))
          have hfd : F d := (HG.out _ H.out.fd).1
          have hko : Keeps F w wo := (keeps_below F HBW.out).trans HKW.out fun _ _ e => e ▸ (HG.out _ H.out.fl).1
          have hkw : Keeps F w wr := hko.trans HKS.out fun y hy e => e.elim (fun e => (HG.out _ e).1) fun e => by have := hko.size; omega
          have hk9 := (hkw.trans (keeps_below (fun _ => False) HB1.out) fun _ _ e => e.elim).trans hkk fun _ _ e => e ▸ hfd
          go_ret
          refine ⟨rfl, h6.to hk9 fun y hy => ?_⟩
          rcases hy with (hy | hy) | hy
          · exact .inl (HG.out _ hy).1
          · exact .inr (by have := hko.size; omega)
          · exact .inr (by have := hkw.size; omega)
        · intro x i ws1 cnt1 hlx hgx hrg1 hlt1 hg1 hs1 hen
          have hk1 : Keeps (fun y => y = wo.heap.size) wr ws1 := keeps_grown hg1
          have HD3 := Lib.hid (HDS.out.keeps hk1 (fun y hy e => by subst e; exact hy.elim (fun h => by have := HGR.out _ h; omega) (fun h => by omega)))
          have HK3 := Lib.hid (HKS.out.trans (hk1.mono (G := fun x => G x ∨ wo.heap.size ≤ x) fun y _ e => .inr (by omega)) fun _ _ e => e)
          have hil : i < st.files.length := HOK.out.lastDir p _ (get_mem hgx)
          have hil2 : i < (settleS (st.lastDir p) p left st.files).length := by rw [settleS_len]; exact hil
          obtain ⟨f, hf⟩ : ∃ f, (settleS (st.lastDir p) p left st.files)[i]? = some f := ⟨_, List.getElem?_eq_getElem hil2⟩
          obtain ⟨hfb, hfr⟩ := HD3.out.files.fi i f hf
          have hfb' : ws1.heap[q.fb i]? = some (.cells #[.int .i64 i, fv i, .int .i64 f.lasts] 86 (0, 0)) := hfb
          have hfbd := settleS_bound (st.lastDir p) p left HOK.out.fb hf
          obtain ⟨f0, f1, f2, ffz⟩ := cells3 hfb'
          have hfi := blk_lt hfb'
          have hpb : ws1.heap[w.heap.size]? = some (.cells #[.int .i64 p.names, .slice af p.files.length cf] 41 (0, 0)) :=
            (HK3.out.block _ (blk_lt HBX2.out) fun e => e.elim (fun e => by have := (HG.out _ e).2; omega) fun e => by have := blk_lt HBX2.out; omega).trans HBX2.out
          obtain ⟨b0, b1⟩ : ws1.cell? ⟨w.heap.size, 0, none⟩ = some (.int .i64 p.names) ∧ ws1.cell? ⟨w.heap.size, 1, none⟩ = some (.slice af p.files.length cf) := by
            have e := fun j => cell_of_row ws1 w.heap.size j _ _ _ hpb
            exact ⟨e 0, e 1⟩
          have hpbl := blk_lt hpb
          have HF := Lib.hid hf
          have HFB := Lib.hid hfb'
          have HFR := Lib.hid (show FRow ws1 (fv i) f.b from hfr)
          have HR1 := Lib.hid hrg1
          have HLX := Lib.hid hlx
          have HGX := Lib.hid hgx
          have HLT := Lib.hid hlt1
          have hi0 : (0 : Int) ≤ (i : Int) := by omega
          have hib : (i : Int) ≤ 1099511627776 := by omega
          clear hk1 hf hfb hfr hfb' hrg1 hlx hgx hlt1 hg1 hs1 b0 f1 f2 hil2
          by_cases hin : i < p.files.length
          · obtain ⟨y, hy⟩ : ∃ y, p.files[i]? = some y := ⟨_, List.getElem?_eq_getElem hin⟩
            have hpa : p.at i = y := by unfold DPicks.at; rw [hy]; rfl
            have hin' : (i : Int) < (p.files.length : Int) := by omega
            obtain ⟨_, ⟨e, e2⟩ | ⟨a0, c9, e, hm, hc⟩⟩ := HRP.out
            · omega
            · simp only [Value.slice.injEq] at e
              obtain ⟨rfl, _, rfl⟩ := e
              obtain ⟨hs1, hs2, hs3⟩ := HPF.out a0 rfl
              obtain ⟨pb, po, rfl⟩ : ∃ pb po, a0 = ⟨pb, po, none⟩ := ⟨a0.block, a0.off, by rw [← hs1]⟩
              have hcell : ∀ j u, y.row[j]? = some u → ws1.cell? ⟨pb, po + (i * 2 + j), none⟩ = some u := fun j u hu => by
                have hj : j < 2 := by
                  have := (List.getElem?_eq_some_iff.1 hu).1
                  simpa [DPick.row] using this
                have h1 := hc (i * 2 + j) u (by rw [getElem?_flatMap_row DPick.row 2 DPick.row_len p.files i j hj, hy]; exact hu)
                have hadd : (⟨pb, po, none⟩ : Addr).add (i * 2 + j) = ⟨pb, po + (i * 2 + j), none⟩ := by unfold Addr.add; split <;> simp_all
                rw [hadd] at h1
                rw [← h1]
                exact World.cell?_of_block (HK3.out.block _ (Nat.lt_of_lt_of_le hs3 (Nat.le_trans HBW.out.size HKW.out.size)) fun e => e.elim (fun e => hs2 (HG.out _ e).1) fun e => by
                  have h8 : wo.heap.size ≤ pb := e
                  have h9 : pb < w.heap.size := hs3
                  have := Nat.le_trans HBW.out.size HKW.out.size
                  omega)
              have q0 : ws1.cell? ⟨pb, po + i * 2, none⟩ = some (.int .i64 y.keep) := hcell 0 _ rfl
              have q1 : ws1.cell? ⟨pb, po + i * 2 + 1, none⟩ = some (.int .u8 y.turn.toNat) := hcell 1 _ rfl
              rw [← hpa] at q0 q1
              have HPI := Lib.hid (by rw [hpa]; exact HPK.out y (List.mem_of_getElem? hy) : -9223372036854775808 ≤ (p.at i).keep ∧ (p.at i).keep ≤ 9223372036854775807)
              have hpbl2 : pb < ws1.heap.size := by
                have h9 : pb < w.heap.size := hs3
                omega
              clear hs1 hs2 hs3 hc hcell hm hy hpa
              go_wp2_with fail
              refine wp_region_now0 [3, 5] [(0, 0), (1, 0), (2, 0), (3, 2), (4, 0), (5, 2), (6, 0), (7, 0)] (by kernel_rfl) (by kernel_rfl) rfl (by kernel_rfl) ?_
              refine stepE0 rfl rfl (fun K hK => ?_)
              go_simp
              refine hK _ ?_
              clear hK K
              refine stepE0 rfl rfl (fun K hK => ?_)
              go_simp
              refine hK _ ?_
              clear hK K
              refine stepE0 rfl rfl (fun K hK => ?_)
              go_simp
              refine hK _ ?_
              clear hK K
              refine stepE2 rfl rfl ?_ (fun w1 hS => ?_) (fun K hK => ?_)
              rotate_left
              focus (obtain rfl : w1 = _ := hS; go_simp; rfl)
              go_simp
              refine hK _ ?_
              clear hK K
              refine stepE0 rfl rfl (fun K hK => ?_)
              go_simp
              refine hK _ ?_
              clear hK K
              refine stepE2 rfl rfl ?_ (fun w1 hS => ?_) (fun K hK => ?_)
              rotate_left
              focus (obtain rfl : w1 = _ := hS; go_simp; rfl)
              go_simp
              refine hK _ ?_
              clear hK K
              refine stepE0 rfl rfl (fun K hK => ?_)
              go_simp
              refine hK _ ?_
              clear hK K
              refine stepE0 rfl rfl (fun K hK => ?_)
              go_simp
              refine hK _ ?_
              clear hK K
              try refine stepEnil0 ?_
              go_wp2_with fail
              refine wp_region_now0 [1, 5, 7] [(0, 0), (1, 2), (2, 0), (3, 0), (4, 0), (5, 2), (6, 0), (7, 2), (8, 1)] (by kernel_rfl) (by kernel_rfl) rfl (by kernel_rfl) ?_
              refine stepE0 rfl rfl (fun K hK => ?_)
              go_simp
              refine hK _ ?_
              clear hK K
              refine stepE2 rfl rfl ?_ (fun w1 hS => ?_) (fun K hK => ?_)
              rotate_left
              focus (obtain rfl : w1 = _ := hS; go_simp; rfl)
              go_simp
              refine hK _ ?_
              clear hK K
              refine stepE0 rfl rfl (fun K hK => ?_)
              go_simp
              refine hK _ ?_
              clear hK K
              refine stepE0 rfl rfl (fun K hK => ?_)
              go_simp
              refine hK _ ?_
              clear hK K
              refine stepE0 rfl rfl (fun K hK => ?_)
              go_simp
              refine hK _ ?_
              clear hK K
              refine stepE2 rfl rfl ?_ (fun w1 hS => ?_) (fun K hK => ?_)
              rotate_left
              focus (obtain rfl : w1 = _ := hS; go_simp; rfl)
              go_simp
              refine hK _ ?_
              clear hK K
              refine stepE0 rfl rfl (fun K hK => ?_)
              go_simp
              refine hK _ ?_
              clear hK K
              refine stepE2 rfl rfl ?_ (fun w1 hS => ?_) (fun K hK => ?_)
              rotate_left
              focus (obtain rfl : w1 = _ := hS; go_simp; rfl)
              go_simp
              refine hK _ ?_
              clear hK K
              refine stepE1 rfl rfl (by kernel_rfl) (fun K hK => ?_)
              go_wp2
              try refine stepEnil0 ?_
              go_wp2_with fail
              refine (settle_any (q.fb i) i (fv i) f (p.at i) _ (by exact blk_alloc HFB.out _) (by exact HFR.out.below (by repeat (first | (with_reducible exact Below.refl _ _) | (with_reducible refine Below.setCell ?_ ?_ _) | (with_reducible refine Below.alloc ?_ ?_ _) | (with_reducible refine Below.drewN ?_ _) | (with_reducible refine Below.drew ?_) | (with_reducible exact Nat.le_refl _) | (focus (simp only [World.size_alloc, World.size_setCell, World.size_drew, World.size_drewN]; omega)) | omega | exact Nat.le_refl _ | (focus (simp; done)) | (focus (simp; omega))))) hfbd.1 hfbd.2 (HPI.out.1) (HPI.out.2)).mono ?_
              rintro e w5 ⟨rfl, v5, hb5, hr5, hv5, hk5⟩
              have hk6 : Keeps (fun y => y = q.fb i) ws1 w5 := (keeps_below (fun y => y = q.fb i) (by repeat (first | (with_reducible exact Below.refl _ _) | (with_reducible refine Below.setCell ?_ ?_ _) | (with_reducible refine Below.alloc ?_ ?_ _) | (with_reducible refine Below.drewN ?_ _) | (with_reducible refine Below.drew ?_) | (with_reducible exact Nat.le_refl _) | (focus (simp only [World.size_alloc, World.size_setCell, World.size_drew, World.size_drewN]; omega)) | omega | exact Nat.le_refl _ | (focus (simp; done)) | (focus (simp; omega))))).trans hk5 fun _ _ e => e
              have h6 := HD3.out.one (i := i) (by show i < (settleS (st.lastDir p) p left st.files).length; rw [settleS_len]; exact hil) hk6 (fun _ _ e => .inl e) (f.settle (p.at i)) v5 hb5 hr5 (fun g hg => .inr (by have := hv5 g hg; simp at this; omega))
              have hne : q.bl ≠ q.fb i := (HD3.out.last).ne HFB.out
              have hff : G (q.fb i) ∨ wo.heap.size < q.fb i := (HD3.out.files.ff i (by show i < (settleS (st.lastDir p) p left st.files).length; rw [settleS_len]; exact hil)).1
              have hne2 : wo.heap.size ≠ q.fb i := fun e => hff.elim (fun h => by have := HGR.out _ h; omega) fun h => by have h7 : wo.heap.size < q.fb i := h; omega
              have HR6 := Lib.hid (HR1.out.kept (keeps_grow hk6) (fun e => hne (Option.some.inj e)) (fun e => hne2 (Option.some.inj e)))
              have hzo := HK3.out.size
              have HD6 := Lib.hid (h6.mono (G := fun x => G x ∨ wo.heap.size < x) fun y hy => hy.elim id fun e => .inr (Nat.lt_of_lt_of_le (HR1.out.lt) e))
              have HK6 := Lib.hid (HK3.out.trans (hk6.mono (G := fun x => G x ∨ wo.heap.size ≤ x) fun y _ e => e ▸ hff.imp id (fun h => Nat.le_of_lt h)) fun _ _ e => e)
              have HST := Lib.hid (settleS_step (st.lastDir p) p left st.files x i f HAP.out HGX.out HF.out)
              clear hb5 hr5 hv5 hk5 hk6 h6 hff hne hne2 hzo
              go_wp2_with fail
              go_roundw
              case rel => exact ⟨_, cnt1, upd fv i v5, HR6.out, by rw [HST.out]; exact HD6.out, HK6.out⟩
              case measure => rw [HR6.out.left_eq, HRG.out.left_eq]; exact HLT.out
          · have hpa : p.at i = ⟨0, 0⟩ := by unfold DPicks.at; rw [List.getElem?_eq_none (by omega)]; rfl
            have hin' : decide ((i : Int) < (p.files.length : Int)) = false := by simp; omega
            have HPA := Lib.hid hpa
            clear hpa
            focus
              go_wp2_with fail
              refine wp_region_now0 [3, 5] [(0, 0), (1, 0), (2, 0), (3, 2), (4, 0), (5, 2), (6, 0), (7, 0)] (by kernel_rfl) (by kernel_rfl) rfl (by kernel_rfl) ?_
              refine stepE0 rfl rfl (fun K hK => ?_)
              go_simp
              refine hK _ ?_
              clear hK K
              refine stepE0 rfl rfl (fun K hK => ?_)
              go_simp
              refine hK _ ?_
              clear hK K
              refine stepE0 rfl rfl (fun K hK => ?_)
              go_simp
              refine hK _ ?_
              clear hK K
              refine stepE2 rfl rfl ?_ (fun w1 hS => ?_) (fun K hK => ?_)
              rotate_left
              focus (obtain rfl : w1 = _ := hS; go_simp; rfl)
              go_simp
              refine hK _ ?_
              clear hK K
              refine stepE0 rfl rfl (fun K hK => ?_)
              go_simp
              refine hK _ ?_
              clear hK K
              refine stepE2 rfl rfl ?_ (fun w1 hS => ?_) (fun K hK => ?_)
              rotate_left
              focus (obtain rfl : w1 = _ := hS; go_simp; rfl)
              go_simp
              refine hK _ ?_
              clear hK K
              refine stepE0 rfl rfl (fun K hK => ?_)
              go_simp
              refine hK _ ?_
              clear hK K
              refine stepE0 rfl rfl (fun K hK => ?_)
              go_simp
              refine hK _ ?_
              clear hK K
              try refine stepEnil0 ?_
              go_wp2_with fail
              refine (settle_any (q.fb i) i (fv i) f ⟨0, 0⟩ _ (by exact blk_alloc HFB.out _) (by exact HFR.out.below (by repeat (first | (with_reducible exact Below.refl _ _) | (with_reducible refine Below.setCell ?_ ?_ _) | (with_reducible refine Below.alloc ?_ ?_ _) | (with_reducible refine Below.drewN ?_ _) | (with_reducible refine Below.drew ?_) | (with_reducible exact Nat.le_refl _) | (focus (simp only [World.size_alloc, World.size_setCell, World.size_drew, World.size_drewN]; omega)) | omega | exact Nat.le_refl _ | (focus (simp; done)) | (focus (simp; omega))))) hfbd.1 hfbd.2 (by decide) (by decide)).mono ?_
              rintro e w5 ⟨rfl, v5, hb5, hr5, hv5, hk5⟩
              have hk6 : Keeps (fun y => y = q.fb i) ws1 w5 := (keeps_below (fun y => y = q.fb i) (by repeat (first | (with_reducible exact Below.refl _ _) | (with_reducible refine Below.setCell ?_ ?_ _) | (with_reducible refine Below.alloc ?_ ?_ _) | (with_reducible refine Below.drewN ?_ _) | (with_reducible refine Below.drew ?_) | (with_reducible exact Nat.le_refl _) | (focus (simp only [World.size_alloc, World.size_setCell, World.size_drew, World.size_drewN]; omega)) | omega | exact Nat.le_refl _ | (focus (simp; done)) | (focus (simp; omega))))).trans hk5 fun _ _ e => e
              have h6 := HD3.out.one (i := i) (by show i < (settleS (st.lastDir p) p left st.files).length; rw [settleS_len]; exact hil) hk6 (fun _ _ e => .inl e) (f.settle ⟨0, 0⟩) v5 hb5 hr5 (fun g hg => .inr (by have := hv5 g hg; simp at this; omega))
              have hne : q.bl ≠ q.fb i := (HD3.out.last).ne HFB.out
              have hff : G (q.fb i) ∨ wo.heap.size < q.fb i := (HD3.out.files.ff i (by show i < (settleS (st.lastDir p) p left st.files).length; rw [settleS_len]; exact hil)).1
              have hne2 : wo.heap.size ≠ q.fb i := fun e => hff.elim (fun h => by have := HGR.out _ h; omega) fun h => by have h7 : wo.heap.size < q.fb i := h; omega
              have HR6 := Lib.hid (HR1.out.kept (keeps_grow hk6) (fun e => hne (Option.some.inj e)) (fun e => hne2 (Option.some.inj e)))
              have hzo := HK3.out.size
              have HD6 := Lib.hid (h6.mono (G := fun x => G x ∨ wo.heap.size < x) fun y hy => hy.elim id fun e => .inr (Nat.lt_of_lt_of_le (HR1.out.lt) e))
              have HK6 := Lib.hid (HK3.out.trans (hk6.mono (G := fun x => G x ∨ wo.heap.size ≤ x) fun y _ e => e ▸ hff.imp id (fun h => Nat.le_of_lt h)) fun _ _ e => e)
              have HST := Lib.hid (settleS_step (st.lastDir p) p left st.files x i f HAP.out HGX.out HF.out)
              clear hb5 hr5 hv5 hk5 hk6 h6 hff hne hne2 hzo
              go_wp2_with fail
              go_roundw
              case rel => exact ⟨_, cnt1, upd fv i v5, HR6.out, by rw [HST.out, HPA.out]; exact HD6.out, HK6.out⟩
              case measure => rw [HR6.out.left_eq, HRG.out.left_eq]; exact HLT.out
end Go.Proofs.Ytcicnjlkcbimgaa

/- corncriblaw07.Picks. -/
namespace Go.Proofs.Ytcicnjlkcbimgaa
open Go.RowKit
theorem take_snoc_at {α : Type} (l : List α) (k : Nat) (x : α) (hx : l[k]? = some x) : l.take (k + 1) = l.take k ++ [x] := by
  obtain ⟨hk, hx'⟩ := List.getElem?_eq_some_iff.1 hx
  rw [List.take_succ_eq_append_getElem hk, hx']
theorem reads_at {w : World} {sz : Nat} {v : Value} {n : Nat} {xs : List Value} (h : Reads w sz v n xs) (hn : 0 < n) (hz : 0 < sz) :
    ∃ b o c, v = .slice (some ⟨b, o, none⟩) n c ∧ b < w.heap.size ∧ n ≤ maxLen ∧ ∀ (j : Nat) (u : Value), xs[j]? = some u → w.cell? ⟨b, o + j, none⟩ = some u := by
  obtain ⟨hl, ⟨_, h0⟩ | ⟨a, c, rfl, hm, hc⟩⟩ := h
  · omega
  · have hpos : 0 < xs.length := by rw [hl]; exact Nat.mul_pos hn hz
    have h0 : xs[0]? = some xs[0] := List.getElem?_eq_getElem hpos
    have h1 := hc 0 _ h0
    have ha : a = ⟨a.block, a.off, none⟩ := spot_none (by simpa [Addr.add] using h1)
    have hb := World.block_lt_of_cell? w _ h1
    refine ⟨a.block, a.off, c, by rw [← ha], by simpa [Addr.add] using hb, hm, fun j u hu => ?_⟩
    have h2 := hc j u hu
    have e : a.add j = ⟨a.block, a.off + j, none⟩ := by
      rw [ha]
      unfold Addr.add
      split
      · rename_i hz; rw [hz]; rfl
      · rfl
    rw [← e]
    exact h2
theorem pick_at {w : World} {v : Value} {n : Nat} {fs : List DPick} (h : Reads w 2 v n (fs.flatMap DPick.row)) {k : Nat} {x : DPick} (hx : fs[k]? = some x) (hn : 0 < n) :
    ∃ b o c, v = .slice (some ⟨b, o, none⟩) n c ∧ b < w.heap.size ∧ w.cell? ⟨b, o + k * 2, none⟩ = some (.int .i64 x.keep) ∧ w.cell? ⟨b, o + k * 2 + 1, none⟩ = some (.int .u8 x.turn.toNat) := by
  obtain ⟨b, o, c, e, h1, _, h2⟩ := reads_at h hn (by omega)
  refine ⟨b, o, c, e, h1, h2 (k * 2) _ ?_, h2 (k * 2 + 1) _ ?_⟩
  · have := getElem?_flatMap_row DPick.row 2 DPick.row_len fs k 0 (by omega)
    simp only [Nat.add_zero] at this
    rw [this, hx]
    rfl
  · have := getElem?_flatMap_row DPick.row 2 DPick.row_len fs k 1 (by omega)
    rw [this, hx]
    rfl
set_option maxRecDepth 100000 in
set_option maxHeartbeats 4000000 in
theorem picks_any (nm : Int) (fs : List DPick) (af : Option Addr) (n cf : Nat) (w : World) (hl : fs.length = n) (hn : n ≤ 1000) (hp : Reads w 2 (.slice af n cf) n (fs.flatMap DPick.row)) :
    Calls Try.prog 19 #[.agg #[.int .i64 nm, .slice af n cf]] w fun e w' => ∃ v, e = .returned (.agg #[.int .i64 nm, v]) ∧ w'.ownsRow w.heap.size 94 2 v n (fs.flatMap DPick.row) ∧ Below w.heap.size w w' := by
  have HL := Lib.hid hl
  have HP := Lib.hid hp
  clear hl hp
  obtain ⟨i0, hi, hz0, hz1, hz2⟩ := info_parts pick_info
  have HI := Lib.hid hi
  have HZ0 := Lib.hid hz0
  have HZ1 := Lib.hid hz1
  have HZ2 := Lib.hid hz2
  clear hi hz0 hz1 hz2
  go_enter Try.func19, Try.ntmps19
  go_wp2_with fail
  go_loopw [4] (fun i wr => ∃ (k : Nat) (v : Value), k ≤ n ∧ i = .int .i64 k ∧ wr.heap[w.heap.size]? = some (.cells #[.int .i64 nm, .slice af n cf] 25 (0, 0)) ∧ wr.heap[w.heap.size + 1]? = some (.cells #[.int .i64 0, .slice none 0 0] 41 (0, 0)) ∧ wr.heap[w.heap.size + 2]? = some (.cells #[.int .i64 nm, v] 41 (0, 0)) ∧ wr.ownsRow (w.heap.size + 3) 94 2 v k ((fs.take k).flatMap DPick.row) ∧ Below w.heap.size w wr ∧ w.heap.size + 3 ≤ wr.heap.size) (fun i _ => n - (intOf i).toNat)
  case atStart => exact ⟨0, .slice none 0 0, Nat.zero_le _, rfl, (by repeat (first | (with_reducible refine blk_drew ?_) | (with_reducible refine blk_drewN _ ?_) | ((with_reducible refine blk_new _ ?_); (focus (simp; done))) | (with_reducible refine blk_alloc ?_ _))), (by repeat (first | (with_reducible refine blk_drew ?_) | (with_reducible refine blk_drewN _ ?_) | ((with_reducible refine blk_new _ ?_); (focus (simp; done))) | (with_reducible refine blk_alloc ?_ _))), (by repeat (first | (with_reducible refine blk_drew ?_) | (with_reducible refine blk_drewN _ ?_) | ((with_reducible refine blk_new _ ?_); (focus (simp; done))) | (with_reducible refine blk_alloc ?_ _))), World.ownsRow_nil _ _ _ _, (by repeat (first | (with_reducible exact Below.refl _ _) | (with_reducible refine Below.setCell ?_ ?_ _) | (with_reducible refine Below.alloc ?_ ?_ _) | (with_reducible refine Below.drewN ?_ _) | (with_reducible refine Below.drew ?_) | (with_reducible exact Nat.le_refl _) | (focus (simp only [World.size_alloc, World.size_setCell, World.size_drew, World.size_drewN]; omega)) | omega | exact Nat.le_refl _ | (focus (simp; done)) | (focus (simp; omega)))), (by first | omega | (simp; done) | (simp; omega))⟩
  case round =>
    obtain ⟨k, v, hk, rfl, hb0, hb1, hb2, hown, hbw, hsz⟩ := hrel
    obtain ⟨av, cv, hv⟩ := ownsRow_len hown
    subst hv
    have HB0 := Lib.hid hb0
    have HB1 := Lib.hid hb1
    have HB2 := Lib.hid hb2
    have HO := Lib.hid hown
    have HBW := Lib.hid hbw
    obtain ⟨x0, x1⟩ : wr.cell? ⟨w.heap.size, 0, none⟩ = some (.int .i64 nm) ∧ wr.cell? ⟨w.heap.size, 1, none⟩ = some (.slice af n cf) := by
      have e := fun j => cell_of_row wr w.heap.size j _ _ _ hb0
      exact ⟨e 0, e 1⟩
    obtain ⟨y0, y1⟩ : wr.cell? ⟨w.heap.size + 1, 0, none⟩ = some (.int .i64 0) ∧ wr.cell? ⟨w.heap.size + 1, 1, none⟩ = some (.slice none 0 0) := by
      have e := fun j => cell_of_row wr (w.heap.size + 1) j _ _ _ hb1
      exact ⟨e 0, e 1⟩
    have yf := frozen_of_row wr (w.heap.size + 1) 0 _ _ hb1
    have yf1 := frozen_of_row wr (w.heap.size + 1) 1 _ _ hb1
    have zf := frozen_of_row wr (w.heap.size + 2) 0 _ _ hb2
    have zf1 := frozen_of_row wr (w.heap.size + 2) 1 _ _ hb2
    obtain ⟨z0, z1⟩ : wr.cell? ⟨w.heap.size + 2, 0, none⟩ = some (.int .i64 nm) ∧ wr.cell? ⟨w.heap.size + 2, 1, none⟩ = some (.slice av k cv) := by
      have e := fun j => cell_of_row wr (w.heap.size + 2) j _ _ _ hb2
      exact ⟨e 0, e 1⟩
    clear hb0 hb1 hb2 hown hbw
    have hl0 : w.heap.size < wr.heap.size := by omega
    have hl2 : w.heap.size + 2 < wr.heap.size := by omega
    have hl1 : w.heap.size + 1 < wr.heap.size := by omega
    by_cases hlt : k < n
    · obtain ⟨x, hx⟩ : ∃ x, fs[k]? = some x := ⟨_, List.getElem?_eq_getElem (by rw [HL.out]; exact hlt)⟩
      obtain ⟨b, o, c, e, hbl, q0, q1⟩ := pick_at (HP.out.below HBW.out) hx (by omega)
      obtain ⟨e1, -, e3⟩ := sl_inj e
      subst e1 e3
      have HTK := Lib.hid (take_snoc_at fs k x hx)
      have hne : (Value.slice av k cv).ownBlock ≠ some (w.heap.size + 2) := fun e => by have := (HO.out.lt _ e).1; omega
      have HNE := Lib.hid hne
      clear hx e hne
      have hk0 : (0 : Int) ≤ (k : Int) := by omega
      have hk1 : (k : Int) < (n : Int) := by omega
      obtain ⟨xk, xt⟩ := x
      simp only at q0 q1
      go_wp2_with fail
      refine wp_region_order (fun w' => w'.cell? ⟨w.heap.size + 2, 1, none⟩ = some (.slice av k cv) ∧ w'.cell? ⟨w.heap.size, 1, none⟩ = some (.slice (some ⟨b, o, none⟩) n cf) ∧ w'.cell? ⟨b, o + k * 2, none⟩ = some (.int .i64 xk) ∧ w'.cell? ⟨b, o + k * 2 + 1, none⟩ = some (.int .u8 xt.toNat)) [1, 3, 6] [(0, 0), (1, 2), (2, 0), (3, 2), (4, 0), (5, 0), (6, 2), (7, 1), (8, 1), (9, 0), (10, 1)] (by kernel_rfl) (by kernel_rfl) rfl (by kernel_rfl) (fun c a d v w h => by cases d <;> exact h) ?_ ?_
      focus (exact ⟨z1, x1, q0, q1⟩)
      refine stepE0 rfl rfl (fun K hK => ?_)
      go_simp
      refine hK _ ?_
      clear hK K
      refine stepE2 rfl rfl ?_ (fun w1 hS => ?_) (fun K hK => ?_)
      rotate_left
      focus (obtain ⟨s0, s1, s2, s3⟩ := hS; go_simp; rfl)
      go_simp
      refine hK _ ?_
      clear hK K
      refine stepE0 rfl rfl (fun K hK => ?_)
      go_simp
      refine hK _ ?_
      clear hK K
      refine stepE2 rfl rfl ?_ (fun w1 hS => ?_) (fun K hK => ?_)
      rotate_left
      focus (obtain ⟨s0, s1, s2, s3⟩ := hS; go_simp; rfl)
      go_simp
      refine hK _ ?_
      clear hK K
      refine stepE0 rfl rfl (fun K hK => ?_)
      go_simp
      refine hK _ ?_
      clear hK K
      refine stepE0 rfl rfl (fun K hK => ?_)
      go_simp
      refine hK _ ?_
      clear hK K
      refine stepE2 rfl rfl ?_ (fun w1 hS => ?_) (fun K hK => ?_)
      rotate_left
      focus (obtain ⟨s0, s1, s2, s3⟩ := hS; go_simp; rfl)
      go_simp
      refine hK _ ?_
      clear hK K
      refine stepE1S rfl rfl (fun K hK => ?_)
      go_wp2
      refine ⟨by refine ⟨?_, ?_, ?_, ?_⟩ <;> go_simp, ?_⟩
      refine stepE1 rfl rfl (by kernel_rfl) (fun K hK => ?_)
      (refine wp_append_lies _ _ _ 39 rfl (w.heap.size + 3) 94 i0 (.agg #[.int .i64 0, .int .u8 0]) 2 16 Try.underlying39 HI.out HZ0.out HZ1.out HZ2.out rfl (by decide) (.slice av k cv) k _ rfl ((HO.out.alloc _).drew) ⟨wr.heap.size, 0, none⟩ 1 1 [.int .i64 xk, .int .u8 xt.toNat] rfl rfl (World.news_of_block (cs := #[.int .i64 xk, .int .u8 xt.toNat]) (t := 94) (fr := (0, 0)) (heap_alloc_new wr _)) (by simp [Value.oneCell']) (by omega) (by unfold maxLen; omega) (by omega) (by simp; omega) _ rfl ?_; intro gg cap2 w2 hown2 hgrow hat hlt2; have kc2 : w2.cell? ⟨w.heap.size + 2, 1, none⟩ = some (.slice av k cv) := (grown_cell hgrow (by simp; omega) HNE.out).trans (by go_simp); have kf2 : w2.frozen? ⟨w.heap.size + 2, 1, none⟩ = false := (grown_frozen hgrow (by simp; omega) HNE.out).trans (by go_simp); go_wp2)
      refine stepE0 rfl rfl (fun K hK => ?_)
      go_simp
      refine hK _ ?_
      clear hK K
      refine stepE1 rfl rfl (by kernel_rfl) (fun K hK => ?_)
      go_wp2
      try refine stepEnil ?_
      go_wp2_with fail
      have hs2 : wr.heap.size ≤ w2.heap.size := by have := hgrow.size; simp at this; omega
      have hk2 : ∀ j X, j < w.heap.size + 3 → wr.heap[j]? = some X → w2.heap[j]? = some X := fun j X hj hX => (hgrow.block j (by simp; omega) (fun e => by have := (HO.out.lt _ e.symm).1; omega)).trans (by exact blk_alloc hX _)
      have HK2 := Lib.hid hk2
      have HW2 := Lib.hid hown2
      have HG2 := Lib.hid hgrow
      clear hk2 hown2 hgrow
      go_roundw
      case rel =>
        refine ⟨k + 1, .slice (some ⟨gg, 0, none⟩) (k + 1) cap2, by omega, by go_num, ?_, ?_, ?_, ?_, ?_, ?_⟩
        · exact blk_set (HK2.out _ _ (by omega) HB0.out) _ _ (by simp; omega)
        · exact blk_set (HK2.out _ _ (by omega) HB1.out) _ _ (by simp)
        · exact blk_put (HK2.out _ _ (by omega) HB2.out) 1 _
        · have := HW2.out
          rw [HTK.out, List.flatMap_append]
          refine ownsRow_at (by simpa [DPick.row] using this) fun g hg => Below.heap_setCell w2 _ _ g (fun e => by have := (HW2.out.lt g hg).1; simp at e; omega)
        · exact Below.setCell (Below.grown (Below.drew (HBW.out.alloc (by omega) _)) HG2.out (by simp; omega) (fun g e => by have := (HO.out.lt _ e).1; omega)) (by simp; omega) _
        · simp; omega
      case measure => simp [intOf]; omega
    · have hkn : k = n := by omega
      subst hkn
      have HFS := Lib.hid (show fs.take k = fs from List.take_of_length_le (by rw [HL.out]; exact Nat.le_refl _))
      go_wp2_with fail
      refine bodyPost_ret (v := ?_) ?_ rfl ?_
      rotate_left
      focus (simp [results, Try.results19, go_sem, y0, y1, hl1]; exact rfl)
      refine ⟨_, rfl, ?_, ?_⟩
      · have := HO.out
        rw [HFS.out] at this
        refine ownsRow_mono (ownsRow_at this fun g hg => ?_) (by omega)
        have h9 := (HO.out.lt g hg).1
        exact (Below.heap_setCell _ _ _ g (by simp; omega)).trans (Below.heap_setCell _ _ _ g (by simp; omega))
      · exact Below.setCell (Below.setCell HBW.out (by simp) _) (by simp) _
end Go.Proofs.Ytcicnjlkcbimgaa

/-
  DERIVED: THE SHELF's CONTRACTS AT THIS DUMP, IN PLAIN WORDS (tools/lay-plain.mjs out of 'XxIter0.lean', which tools/lay-shelf.mjs wrote): THE SAME DECLARATIONS UNDER THE SAME NAMES: 'import', 'namespace', 'open', 'def', 'theorem' AND NOTHING ELSE: no command of the shelf's: FOR A HAND-IN. Each laying: the table of numbers ('.._ren') and one theorem, a field a fact of the dump's own or the kernel's comparison; each contract: ONE APPLICATION.
-/
namespace Go.Proofs
open Go.RowKit Go.Maps Go.Sort Go.Shelf
def Try.keys42_ren : Go.Shelf.Ren := ⟨fun | 7 => 42 | 10 => 55 | n => n, fun | 23 => 79 | 26 => 9 | 3 => 84 | 28 => 100 | 0 => 0 | 27 => 99 | 33 => 83 | 4 => 4 | n => n, fun | n => n⟩
theorem Try.keys42 : Go.Proofs.SlLaysZ.n7 Try.prog Try.keys42_ren := {
  mixed := by kernel_rfl
  f7 := ⟨Try.f42.name, by decide, Try.func42.trans (congrArg some (by kernel_rfl))⟩
  f10 := ⟨Try.f55.name, by decide, Try.func55.trans (congrArg some (by kernel_rfl))⟩
  t0 := Try.underlying0
  a0 := Try.isAgg0
  z0 := Try.sizeOf0
  v0 := Try.zeroValue0
  t4 := Try.underlying4
  a4 := Try.isAgg4
  z4 := Try.sizeOf4
  v4 := Try.zeroValue4
  t23 := Try.underlying79
  a23 := Try.isAgg79
  z23 := Try.sizeOf79
  v23 := Try.zeroValue79
  t26 := Try.underlying9
  a26 := Try.isAgg9
  z26 := Try.sizeOf9
  v26 := Try.zeroValue9
  t27 := Try.underlying99
  a27 := Try.isAgg99
  z27 := Try.sizeOf99
  v27 := Try.zeroValue99
  t28 := Try.underlying100
  a28 := Try.isAgg100
  z28 := Try.sizeOf100
  v28 := Try.zeroValue100
  t33 := Try.underlying83
  a33 := Try.isAgg83
  z33 := Try.sizeOf83
  v33 := Try.zeroValue83 }
def Try.sorted41_ren : Go.Shelf.Ren := ⟨fun | 6 => 41 | 8 => 53 | 9 => 54 | 11 => 62 | 13 => 64 | 12 => 63 | 23 => 76 | 24 => 77 | 14 => 67 | 15 => 68 | 16 => 69 | 17 => 70 | 18 => 71 | 19 => 72 | 20 => 73 | 21 => 74 | 22 => 75 | 25 => 78 | 26 => 79 | 27 => 80 | 28 => 81 | 29 => 82 | 30 => 83 | 31 => 84 | n => n, fun | 26 => 9 | 28 => 100 | 24 => 55 | 0 => 0 | 3 => 3 | 37 => 131 | 48 => 144 | 50 => 146 | 4 => 4 | 40 => 136 | 39 => 135 | 45 => 141 | 5 => 5 | 9 => 9 | 51 => 147 | 55 => 151 | 57 => 153 | 58 => 154 | 33 => 83 | n => n, fun | n => n⟩
theorem Try.sorted41 : Go.Proofs.SlLaysZ.n6 Try.prog Try.sorted41_ren := {
  mixed := by kernel_rfl
  f6 := ⟨Try.f41.name, by decide, Try.func41.trans (congrArg some (by kernel_rfl))⟩
  f8 := ⟨Try.f53.name, by decide, Try.func53.trans (congrArg some (by kernel_rfl))⟩
  f11 := ⟨Try.f62.name, by decide, Try.func62.trans (congrArg some (by kernel_rfl))⟩
  t0 := Try.underlying0
  a0 := Try.isAgg0
  z0 := Try.sizeOf0
  v0 := Try.zeroValue0
  t24 := Try.underlying55
  a24 := Try.isAgg55
  z24 := Try.sizeOf55
  v24 := Try.zeroValue55
  t26 := Try.underlying9
  a26 := Try.isAgg9
  z26 := Try.sizeOf9
  v26 := Try.zeroValue9
  t28 := Try.underlying100
  a28 := Try.isAgg100
  z28 := Try.sizeOf100
  v28 := Try.zeroValue100
  i26 := by kernel_rfl }
def Try.sort54_ren : Go.Shelf.Ren := ⟨fun | 6 => 54 | 8 => 64 | 9 => 63 | 19 => 76 | 20 => 77 | 21 => 67 | 22 => 68 | 23 => 69 | 24 => 70 | 25 => 71 | 26 => 72 | 27 => 73 | 28 => 74 | 29 => 75 | 36 => 78 | 31 => 79 | 32 => 80 | 37 => 81 | 38 => 82 | 39 => 83 | 41 => 84 | n => n, fun | 27 => 55 | 29 => 9 | 3 => 3 | 32 => 131 | 26 => 55 | 0 => 0 | 44 => 144 | 46 => 146 | 4 => 4 | 36 => 136 | 35 => 135 | 41 => 141 | 5 => 5 | 9 => 9 | 53 => 147 | 57 => 151 | 63 => 153 | 64 => 154 | n => n, fun | n => n⟩
theorem Try.sort54 : Go.Proofs.SlLaysM.n6 Try.prog Try.sort54_ren := {
  mixed := by kernel_rfl
  f6 := ⟨Try.f54.name, by decide, Try.func54.trans (congrArg some (by kernel_rfl))⟩
  f8 := Try.func64.trans (congrArg some (by kernel_rfl))
  f9 := ⟨Try.f63.name, by decide, Try.func63.trans (congrArg some (by kernel_rfl))⟩
  f19 := Try.func76.trans (congrArg some (by kernel_rfl))
  f20 := Try.func77.trans (congrArg some (by kernel_rfl))
  f21 := ⟨Try.f67.name, by decide, Try.func67.trans (congrArg some (by kernel_rfl))⟩
  f22 := ⟨Try.f68.name, by decide, Try.func68.trans (congrArg some (by kernel_rfl))⟩
  f23 := ⟨Try.f69.name, by decide, Try.func69.trans (congrArg some (by kernel_rfl))⟩
  f24 := ⟨Try.f70.name, by decide, Try.func70.trans (congrArg some (by kernel_rfl))⟩
  f25 := ⟨Try.f71.name, by decide, Try.func71.trans (congrArg some (by kernel_rfl))⟩
  f26 := ⟨Try.f72.name, by decide, Try.func72.trans (congrArg some (by kernel_rfl))⟩
  f27 := ⟨Try.f73.name, by decide, Try.func73.trans (congrArg some (by kernel_rfl))⟩
  f28 := ⟨Try.f74.name, by decide, Try.func74.trans (congrArg some (by kernel_rfl))⟩
  f29 := ⟨Try.f75.name, by decide, Try.func75.trans (congrArg some (by kernel_rfl))⟩
  f31 := Try.func79.trans (congrArg some (by kernel_rfl))
  f32 := Try.func80.trans (congrArg some (by kernel_rfl))
  f36 := ⟨Try.f78.name, by decide, Try.func78.trans (congrArg some (by kernel_rfl))⟩
  f37 := ⟨Try.f81.name, by decide, Try.func81.trans (congrArg some (by kernel_rfl))⟩
  f38 := ⟨Try.f82.name, by decide, Try.func82.trans (congrArg some (by kernel_rfl))⟩
  f39 := ⟨Try.f83.name, by decide, Try.func83.trans (congrArg some (by kernel_rfl))⟩
  f41 := ⟨Try.f84.name, by decide, Try.func84.trans (congrArg some (by kernel_rfl))⟩
  t0 := Try.underlying0
  a0 := Try.isAgg0
  z0 := Try.sizeOf0
  v0 := Try.zeroValue0
  t3 := Try.underlying3
  a3 := Try.isAgg3
  z3 := Try.sizeOf3
  v3 := Try.zeroValue3
  t4 := Try.underlying4
  a4 := Try.isAgg4
  z4 := Try.sizeOf4
  v4 := Try.zeroValue4
  t5 := Try.underlying5
  a5 := Try.isAgg5
  z5 := Try.sizeOf5
  v5 := Try.zeroValue5
  t9 := Try.underlying9
  a9 := Try.isAgg9
  z9 := Try.sizeOf9
  v9 := Try.zeroValue9
  t26 := Try.underlying55
  a26 := Try.isAgg55
  z26 := Try.sizeOf55
  v26 := Try.zeroValue55
  t27 := Try.underlying55
  a27 := Try.isAgg55
  z27 := Try.sizeOf55
  v27 := Try.zeroValue55
  t29 := Try.underlying9
  a29 := Try.isAgg9
  z29 := Try.sizeOf9
  v29 := Try.zeroValue9
  t32 := Try.underlying131
  a32 := Try.isAgg131
  z32 := Try.sizeOf131
  v32 := Try.zeroValue131
  t35 := Try.underlying135
  a35 := Try.isAgg135
  z35 := Try.sizeOf135
  v35 := Try.zeroValue135
  t36 := Try.underlying136
  a36 := Try.isAgg136
  z36 := Try.sizeOf136
  v36 := Try.zeroValue136
  t41 := Try.underlying141
  a41 := Try.isAgg141
  z41 := Try.sizeOf141
  v41 := Try.zeroValue141
  t44 := Try.underlying144
  a44 := Try.isAgg144
  z44 := Try.sizeOf144
  v44 := Try.zeroValue144
  t46 := Try.underlying146
  a46 := Try.isAgg146
  z46 := Try.sizeOf146
  v46 := Try.zeroValue146
  t53 := Try.underlying147
  a53 := Try.isAgg147
  z53 := Try.sizeOf147
  v53 := Try.zeroValue147
  t57 := Try.underlying151
  a57 := Try.isAgg151
  z57 := Try.sizeOf151
  v57 := Try.zeroValue151
  t63 := Try.underlying153
  a63 := Try.isAgg153
  z63 := Try.sizeOf153
  v63 := Try.zeroValue153
  t64 := Try.underlying154
  a64 := Try.isAgg154
  z64 := Try.sizeOf154
  v64 := Try.zeroValue154 }
/-- slices.Sort's two contracts at this dump, at the fence that asks nothing. -/
theorem Try.sorts41 (m : Nat) : AnyZ.SortsIn Try.prog Try.sorted41_ren Fence.wide m :=
  ⟨fun blk off cap ss W hH hblk hsz => callsIn_wide.2 (AnyM.slices_Sort_string Try.sort54 blk off cap ss W hH hblk hsz),
   fun p cap W => callsIn_wide.2 (AnyM.slices_Sort_string_none Try.sort54 p cap W)⟩

/-- **maps.Keys[corncrib/disk.dir,string,*corncrib/disk.file], at whatever map, the nil one too:** a function value over ONE NEW BLOCK, which holds the map. -/
theorem Try.maps_Keys_42 (mb : Option Nat) (W : World) : CallsIn Fence.wide 5 Try.prog 42 #[.map mb] W fun e w' => e = .returned (.func (.func 55) #[] #[.pointer (some ⟨W.heap.size, 0, none⟩)]) ∧ w' = W.alloc (.cells #[.map mb] 79) :=
  AnyZ.keys_in Try.keys42 Fence.wide 5 trivial rfl mb W

set_option maxHeartbeats 1000000 in
/-- **slices.Sorted[string] AT WHAT maps.Keys[corncrib/disk.dir,string,*corncrib/disk.file] HANDED BACK FOR A MAP THAT IS NOT nil** ('w': the world AHEAD of maps.Keys' call): A NEW SLICE THAT HOLDS THE MAP's KEYS, SORTED; nil just where it has none; nothing that lay before has turned. -/
theorem Try.slices_Sorted_keys_41_42 {H : Type} (b nn : Nat) (D0 : DataW H) (R : Value → Option (DataW H × List MemPlace)) (w : World) (hown : w.ownsMap Try.prog 9 R b nn D0) (hmax : Maps.size D0 ≤ maxLen) (hbytes : Maps.size D0 * 16 ≤ 140737488355328) :
    CallsIn Fence.wide 5 Try.prog 41 #[.func (.func 55) #[] #[.pointer (some ⟨w.heap.size, 0, none⟩)]] (w.alloc (.cells #[.map (some b)] 79)) fun e w' => ∃ (v : Value) (ss : List (List UInt8)), e = .returned v ∧ ss.Perm (strKeys D0) ∧
      w'.ownsRow (w.alloc (.cells #[.map (some b)] 79)).heap.size 9 1 v ss.length ((ss.mergeSort (fun x y => decide (x ≤ y))).map encStr) ∧ (v = .slice none 0 0 ↔ ss = []) ∧ Below (w.alloc (.cells #[.map (some b)] 79)).heap.size (w.alloc (.cells #[.map (some b)] 79)) w' := by
  have hbl := hown.lt
  have hseq : SeqGives Fence.wide 2 Try.prog 55 #[.pointer (some ⟨w.heap.size, 0, none⟩)] encStr (fun ss => ss.Perm (strKeys D0)) (Maps.size D0) (w.alloc (.cells #[.map (some b)] 79)) :=
    AnyZ.keys_gives (ρ := Try.keys42_ren) { Try.keys42 with } Fence.wide _ trivial rfl (by omega) w.heap.size b nn D0 _ (by simp) (by simp) (by
      obtain ⟨es, clock, hb, Ft, hs, hD⟩ := hown
      exact ⟨es, clock, (Below.heap_alloc _ _ b hbl).trans hb, Ft, hs, hD⟩)
  exact AnyZ.sorted_in Try.sorted41 Fence.wide 5 trivial trivial trivial trivial rfl (by omega) (Try.sorts41 _) (enters_of Try.func54 (by kernel_rfl) rfl) 55 #[.pointer (some ⟨w.heap.size, 0, none⟩)] trivial (enters_of Try.func55 (by kernel_rfl) rfl) _ _ hmax hbytes _ hseq

set_option maxHeartbeats 1000000 in
/-- **.. AND FOR THE nil MAP: nil.** -/
theorem Try.slices_Sorted_keys_nil_41_42 (w : World) :
    CallsIn Fence.wide 5 Try.prog 41 #[.func (.func 55) #[] #[.pointer (some ⟨w.heap.size, 0, none⟩)]] (w.alloc (.cells #[.map none] 79)) fun e w' => ∃ (v : Value) (ss : List (List UInt8)), e = .returned v ∧ ss = [] ∧
      w'.ownsRow (w.alloc (.cells #[.map none] 79)).heap.size 9 1 v ss.length ((ss.mergeSort (fun x y => decide (x ≤ y))).map encStr) ∧ (v = .slice none 0 0 ↔ ss = []) ∧ Below (w.alloc (.cells #[.map none] 79)).heap.size (w.alloc (.cells #[.map none] 79)) w' := by
  have hseq : SeqGives Fence.wide 2 Try.prog 55 #[.pointer (some ⟨w.heap.size, 0, none⟩)] encStr (fun ss : List (List UInt8) => ss = []) 0 (w.alloc (.cells #[.map none] 79)) :=
    AnyZ.keys_gives_nil (ρ := Try.keys42_ren) { Try.keys42 with } Fence.wide _ trivial rfl w.heap.size _ (by simp) (by simp)
  exact AnyZ.sorted_in Try.sorted41 Fence.wide 5 trivial trivial trivial trivial rfl (by omega) (Try.sorts41 _) (enters_of Try.func54 (by kernel_rfl) rfl) 55 #[.pointer (some ⟨w.heap.size, 0, none⟩)] trivial (enters_of Try.func55 (by kernel_rfl) rfl) _ 0 (Nat.zero_le _) (by omega) _ hseq

end Go.Proofs

/- Package disk: Names. -/
namespace Go.Proofs.Ytcicnjlkcbimgaa
open Go.RowKit Go.Maps Go.Sort Go.Shelf
/-- The names, in order. -/
def namesOf (l : Dir) : List Nm := (l.map (·.1)).mergeSort (fun x y => decide (x ≤ y))
theorem namesOf_len (l : Dir) : (namesOf l).length = l.length := by simp [namesOf]
def strV (s : Nm) : Value := .string ⟨s.toArray⟩
theorem strKeys_dir (g : Nat → Nat) (l : Dir) : strKeys (dirD g l) = l.map (·.1) := by
  unfold dirD strKeys
  simp only [List.map_map]
  rfl
set_option maxHeartbeats 1000000 in
theorem names_any (d : Nat) (F : Nat → Prop) (q : DW) (st : Dk) (K : Nat) (w : World) (h : DiskAt w d F q st) (hok : DkOk K st) :
    Calls Try.prog 25 #[(.pointer (some ⟨d, 0, none⟩))] w fun e w' => ∃ v, e = .returned v ∧ w'.ownsRow w.heap.size 9 1 v st.now.length ((namesOf st.now).map strV) ∧ Below w.heap.size w w' := by
  obtain ⟨c0, c1, c2, c3, c4, c5, cfz⟩ := cells6 h.blk
  have hlt := blk_lt h.blk
  have hnow := h.now
  have hl := hok.lnow
  have hsz : Maps.size (dirD q.fb st.now) = st.now.length := dirD_size _ _
  have hmax : Maps.size (dirD q.fb st.now) ≤ maxLen := by rw [hsz]; unfold maxLen; omega
  have hbytes : Maps.size (dirD q.fb st.now) * 16 ≤ 140737488355328 := by rw [hsz]; omega
  have HC := Lib.hid (Try.slices_Sorted_keys_41_42 q.bn st.now.length (dirD q.fb st.now) ptrR w hnow hmax hbytes)
  clear c0 c1 c3 c4 c5 hnow hmax hbytes h hok
  refine (callsIn_wide (n := 6)).1 ?_
  have hfK : Fence.wide.fn 42 := trivial
  have hfS : Fence.wide.fn 41 := trivial
  refine callsIn_of_wp Try.func25 rfl trivial ?_ rfl
  simp only [Try.ntmps25, List.size_toArray, List.length_cons, List.length_nil, Nat.reduceAdd, Nat.reduceSub, Array.replicate_succ, Array.replicate_zero, List.push_toArray, List.append_toArray, List.nil_append, List.cons_append]
  gi_wp2_with (first
    | (gi_at_call 42; refine (Try.maps_Keys_42 _ _).mono ?_; rintro e w' ⟨rfl, rfl⟩)
    | (gi_at_call 41; refine HC.out.mono ?_; rintro e w' ⟨v, ss, rfl, hS, hrow, hnil, hb⟩))
  go_ret
  have hp : ss.Perm (st.now.map (·.1)) := by rw [← strKeys_dir q.fb]; exact hS
  have hlen : ss.length = st.now.length := by have := hp.length_eq; simpa using this
  have hm : ss.mergeSort (fun x y => decide (x ≤ y)) = namesOf st.now := mergeSort_of_perm hp
  rw [hm, hlen] at hrow
  exact ⟨v, rfl, ownsRow_mono hrow (by simp), ((Below.refl _ w).alloc (Nat.le_refl _) _).trans (hb.mono (by simp))⟩
theorem names_nil (w : World) : Calls Try.prog 25 #[.pointer none] w fun e w' => e = .returned (.slice none 0 0) ∧ w = w' := by
  go_enter Try.func25, Try.ntmps25
  go_wp2_with fail
  go_ret
  exact ⟨rfl, rfl⟩
theorem used_nil (w : World) : Calls Try.prog 24 #[.pointer none] w fun e w' => e = .returned (.int .i64 0) ∧ w = w' := by
  go_enter Try.func24, Try.ntmps24
  go_wp2_with fail
  go_ret
  exact ⟨rfl, rfl⟩
theorem down_nil (w : World) : Calls Try.prog 17 #[.pointer none] w fun e w' => e = .returned (.bool false) ∧ w = w' := by
  go_enter Try.func17, Try.ntmps17
  go_wp2_with fail
  go_ret
  exact ⟨rfl, rfl⟩
end Go.Proofs.Ytcicnjlkcbimgaa

/- Package disk: the light way to use a disk in a walk: a disk that lies outside the blocks P. -/
namespace Go.Proofs.Ytcicnjlkcbimgaa
open Go.RowKit
/-- A disk whose blocks are none of P's. -/
def DS (w : World) (d : Nat) (P : Nat → Prop) (K : Nat) (st : Dk) : Prop := ∃ F q, DiskAt w d F q st ∧ DkOk K st ∧ ∀ k, F k → ¬ P k ∧ k < w.heap.size
def KP (P : Nat → Prop) (w w' : World) : Prop := Keeps (fun k => ¬ P k) w w' 
theorem KP.refl (P : Nat → Prop) (w : World) : KP P w w := Keeps.refl _ _
theorem KP.trans {P : Nat → Prop} {a b c : World} (h : KP P a b) (k : KP P b c) : KP P a c := Keeps.trans h k fun _ _ e => e
theorem KP.mono {P R : Nat → Prop} {a b : World} (h : KP P a b) (hr : ∀ k, k < a.heap.size → R k → P k) : KP R a b := Keeps.mono h fun k hk e f => e (hr k hk f)
theorem KP.of {P : Nat → Prop} {a b : World} (h : Below a.heap.size a b) : KP P a b := keeps_below _ h
theorem KP.below {P : Nat → Prop} {a b : World} {B : Nat} (h : KP P a b) (hB : B ≤ a.heap.size) (hP : ∀ k, k < B → P k) : Below B a b := Keeps.below h hB fun k hk => by
  apply Classical.byContradiction
  intro e
  exact hk (hP k (by omega))
theorem KP.blk {P : Nat → Prop} {w w' : World} (h : KP P w w') {k : Nat} {x : Obj} (hb : w.heap[k]? = some x) (hp : P k) : w'.heap[k]? = some x := (h.block k (blk_lt hb) fun e => e hp).trans hb
theorem KP.row {P : Nat → Prop} {w w' : World} {base : Nat} {e : TypeId} {size : Nat} {v : Value} {n : Nat} {xs : List Value} (h : KP P w w') (hr : w.ownsRow base e size v n xs) (hp : ∀ k, v.ownBlock = some k → P k) : w'.ownsRow base e size v n xs :=
  ownsRow_keeps hr h fun k hk e => e (hp k hk)
theorem DS.ok {w : World} {d K : Nat} {P : Nat → Prop} {st : Dk} (h : DS w d P K st) : DkOk K st := by obtain ⟨_, _, _, h, _⟩ := h; exact h
theorem DS.later {w w' : World} {d K : Nat} {P R : Nat → Prop} {st : Dk} (h : DS w d P K st) (hb : Below w.heap.size w w') (hr : ∀ k, R k → P k ∨ w.heap.size ≤ k) : DS w' d R K st := by
  obtain ⟨F, q, h1, h2, h3⟩ := h
  exact ⟨F, q, h1.below hb, h2, fun k hk => ⟨fun e => (hr k e).elim (h3 k hk).1 fun e => by have := (h3 k hk).2; omega, Nat.lt_of_lt_of_le (h3 k hk).2 hb.size⟩⟩
theorem DS.below {w w' : World} {d K : Nat} {P : Nat → Prop} {st : Dk} (h : DS w d P K st) (hb : Below w.heap.size w w') : DS w' d P K st := h.later hb fun _ e => .inl e
theorem DS.less {w : World} {d K : Nat} {P R : Nat → Prop} {st : Dk} (h : DS w d P K st) (hr : ∀ k, R k → P k) : DS w d R K st := by
  obtain ⟨F, q, h1, h2, h3⟩ := h
  exact ⟨F, q, h1, h2, fun k hk => ⟨fun e => (h3 k hk).1 (hr k e), (h3 k hk).2⟩⟩
theorem DS.more {w : World} {d K L : Nat} {P : Nat → Prop} {st : Dk} (h : DS w d P K st) (hl : K ≤ L) : DS w d P L st := by
  obtain ⟨F, q, h1, h2, h3⟩ := h
  exact ⟨F, q, h1, h2.mono hl, h3⟩
/-- What a call has made of a disk. -/
def DTo (w w' : World) (d : Nat) (P : Nat → Prop) (K : Nat) (st : Dk) : Prop := DS w' d P K st ∧ KP P w w'
theorem DTo.of {w w' : World} {d K : Nat} {P F : Nat → Prop} {st : Dk} (hP : ∀ k, P k → k < w.heap.size) (hF : ∀ k, F k → ¬ P k ∧ k < w.heap.size) (h : DiskTo w w' d F st) (hok : DkOk K st) : DTo w w' d P K st := by
  obtain ⟨⟨q, h1⟩, h2⟩ := h
  exact ⟨⟨_, q, h1, hok, fun k hk => ⟨fun e => hk.1.elim (fun f => (hF k f).1 e) fun f => by have := hP k e; omega, hk.2⟩⟩, Keeps.mono h2 fun k _ f => (hF k f).1⟩
theorem DTo.more {w w' : World} {d K L : Nat} {P : Nat → Prop} {st : Dk} (h : DTo w w' d P K st) (hl : K ≤ L) : DTo w w' d P L st := ⟨h.1.more hl, h.2⟩
theorem new_ds (c : Nat) (hc : c ≤ 1073741824) (w : World) :
    Calls Try.prog 9 #[.int .i64 c] w fun e w' => e = .returned (.tuple #[(.pointer (some ⟨w.heap.size + 2, 0, none⟩)), .nilIface]) ∧ DS w' (w.heap.size + 2) (fun k => k < w.heap.size) 0 (Dk.new c) ∧ Below w.heap.size w w' ∧ w.heap.size + 2 < w'.heap.size := by
  refine (new_any c hc w).mono ?_
  rintro e w' ⟨he, ⟨q, h⟩, hb⟩
  exact ⟨he, ⟨_, q, h.trim, DkOk.new hc, fun k hk => ⟨by have := hk.1; omega, hk.2⟩⟩, hb, blk_lt h.blk⟩
section
variable {d K : Nat} {P : Nat → Prop} {st : Dk} {w : World} (h : DS w d P K st) (hP : ∀ k, P k → k < w.heap.size)
include h hP
theorem create_ds (hK : K < 1099511627776) (s : Nm) (hs : s.length ≤ maxLen) : Calls Try.prog 10 #[(.pointer (some ⟨d, 0, none⟩)), .string ⟨s.toArray⟩] w fun e w' => e = .returned (errV (st.create s).1) ∧ DTo w w' d P (K + 1) (st.create s).2 := by
  obtain ⟨F, q, h1, h2, h3⟩ := h
  exact (create_any d F q st s K w h1 h2 hK hs).mono fun e w' ⟨he, ht⟩ => ⟨he, .of hP h3 ht (h2.create s)⟩
theorem remove_ds (hK : K < 1099511627776) (s : Nm) (hs : s.length ≤ maxLen) : Calls Try.prog 43 #[(.pointer (some ⟨d, 0, none⟩)), .string ⟨s.toArray⟩] w fun e w' => e = .returned (errV (st.remove s).1) ∧ DTo w w' d P (K + 1) (st.remove s).2 := by
  obtain ⟨F, q, h1, h2, h3⟩ := h
  exact (remove_any d F q st s K w h1 h2 (Nat.le_of_lt hK) hs).mono fun e w' ⟨he, ht⟩ => ⟨he, .of hP h3 ht (h2.remove s)⟩
theorem rename_ds (hK : K < 1099511627776) (s t : Nm) (hs : s.length ≤ maxLen) (ht : t.length ≤ maxLen) : Calls Try.prog 16 #[(.pointer (some ⟨d, 0, none⟩)), .string ⟨s.toArray⟩, .string ⟨t.toArray⟩] w fun e w' => e = .returned (errV (st.rename s t).1) ∧ DTo w w' d P (K + 1) (st.rename s t).2 := by
  obtain ⟨F, q, h1, h2, h3⟩ := h
  exact (rename_any d F q st s t K w h1 h2 (Nat.le_of_lt hK) hs ht).mono fun e w' ⟨he, ht⟩ => ⟨he, .of hP h3 ht (h2.rename s t)⟩
theorem arm_ds (n : Int) (hn : n ≤ 9223372036854775807) : Calls Try.prog 15 #[(.pointer (some ⟨d, 0, none⟩)), .int .i64 n] w fun e w' => e = .returned (errV (st.arm n).1) ∧ DTo w w' d P K (st.arm n).2 := by
  obtain ⟨F, q, h1, h2, h3⟩ := h
  exact (arm_any d F q st n w h1).mono fun e w' ⟨he, ht⟩ => ⟨he, .of hP h3 ht (h2.arm n hn)⟩
theorem sync_ds (s : Nm) (hs : s.length ≤ maxLen) : Calls Try.prog 12 #[(.pointer (some ⟨d, 0, none⟩)), .string ⟨s.toArray⟩] w fun e w' => e = .returned (errV (st.sync s).1) ∧ DTo w w' d P K (st.sync s).2 := by
  obtain ⟨F, q, h1, h2, h3⟩ := h
  exact (sync_any d F q st s K w h1 h2 hs).mono fun e w' ⟨he, ht⟩ => ⟨he, .of hP h3 ht (h2.sync s)⟩
theorem append_ds (s : Nm) (vb : Value) (b : List UInt8) (hs : s.length ≤ maxLen) (hr : Reads w 1 vb b.length (b.map bv)) : Calls Try.prog 11 #[(.pointer (some ⟨d, 0, none⟩)), .string ⟨s.toArray⟩, vb] w fun e w' => e = .returned (errV (st.append s b).1) ∧ DTo w w' d P K (st.append s b).2 := by
  obtain ⟨F, q, h1, h2, h3⟩ := h
  exact (append_any d F q st s vb b K w h1 h2 hs hr).mono fun e w' ⟨he, ht⟩ => ⟨he, .of hP h3 ht (h2.append s b)⟩
theorem cut_ds (s : Nm) (n : Int) (hs : s.length ≤ maxLen) : Calls Try.prog 44 #[(.pointer (some ⟨d, 0, none⟩)), .string ⟨s.toArray⟩, .int .i64 n] w fun e w' => e = .returned (errV (st.cut s n).1) ∧ DTo w w' d P K (st.cut s n).2 := by
  obtain ⟨F, q, h1, h2, h3⟩ := h
  exact (cut_any d F q st s n K w h1 h2 hs).mono fun e w' ⟨he, ht⟩ => ⟨he, .of hP h3 ht (h2.cut s n)⟩
theorem spoil_ds (s : Nm) (n : Int) (x : UInt8) (hs : s.length ≤ maxLen) : Calls Try.prog 45 #[(.pointer (some ⟨d, 0, none⟩)), .string ⟨s.toArray⟩, .int .i64 n, .int .u8 x.toNat] w fun e w' => e = .returned (errV (st.spoil s n x).1) ∧ DTo w w' d P K (st.spoil s n x).2 := by
  obtain ⟨F, q, h1, h2, h3⟩ := h
  exact (spoil_any d F q st s n x K w h1 h2 hs).mono fun e w' ⟨he, ht⟩ => ⟨he, .of hP h3 ht (h2.spoil s n x)⟩
theorem syncNames_ds : Calls Try.prog 13 #[(.pointer (some ⟨d, 0, none⟩))] w fun e w' => e = .returned (errV st.syncNames.1) ∧ DTo w w' d P K st.syncNames.2 := by
  obtain ⟨F, q, h1, h2, h3⟩ := h
  exact (syncNames_any d F q st K w h1 h2).mono fun e w' ⟨he, ht⟩ => ⟨he, .of hP h3 ht h2.syncNames⟩
theorem crash_ds (hK : K ≤ 1099511627776) (p : DPicks) (af : Option Addr) (cf : Nat) (hp : Reads w 2 (.slice af p.files.length cf) p.files.length (p.files.flatMap DPick.row)) (hpF : ∀ a, af = some a → a.spot = none ∧ P a.block ∧ a.block < w.heap.size)
    (hn1 : -9223372036854775808 ≤ p.names) (hn2 : p.names ≤ 9223372036854775807) (hpk : ∀ x ∈ p.files, -9223372036854775808 ≤ x.keep ∧ x.keep ≤ 9223372036854775807) :
    Calls Try.prog 18 #[(.pointer (some ⟨d, 0, none⟩)), .agg #[.int .i64 p.names, .slice af p.files.length cf]] w fun e w' => e = .returned .nilIface ∧ DTo w w' d P K (st.crash p) := by
  obtain ⟨F, q, h1, h2, h3⟩ := h
  exact (crash_any d F q st p af cf K w h1 h2 hK hp (fun a ha => ⟨(hpF a ha).1, fun e => (h3 _ e).1 (hpF a ha).2.1, (hpF a ha).2.2⟩) hn1 hn2 hpk).mono fun e w' ⟨he, ht⟩ => ⟨he, .of hP h3 ht (h2.crash p)⟩
omit hP in
theorem size_ds (s : Nm) (hs : s.length ≤ maxLen) : Calls Try.prog 20 #[(.pointer (some ⟨d, 0, none⟩)), .string ⟨s.toArray⟩] w fun e w' => e = .returned (.tuple #[.int .i64 (st.size s).2, errV (st.size s).1]) ∧ w = w' := by
  obtain ⟨F, q, h1, h2, h3⟩ := h
  exact size_any d F q st s K w h1 h2 hs
omit hP in
theorem down_ds : Calls Try.prog 17 #[(.pointer (some ⟨d, 0, none⟩))] w fun e w' => e = .returned (.bool (st.armed == 0)) ∧ w = w' := by
  obtain ⟨F, q, h1, h2, h3⟩ := h
  exact down_any d F q st w h1
omit hP in
theorem used_ds : Calls Try.prog 24 #[(.pointer (some ⟨d, 0, none⟩))] w fun e w' => e = .returned (.int .i64 st.used) ∧ Below w.heap.size w w' := by
  obtain ⟨F, q, h1, h2, h3⟩ := h
  exact used_any d F q st K w h1 h2
omit hP in
theorem read_ds (s : Nm) (off n : Int) (hs : s.length ≤ maxLen) (hn2 : n ≤ 9223372036854775807) (ho2 : off ≤ 9223372036854775807) : Calls Try.prog 21 #[(.pointer (some ⟨d, 0, none⟩)), .string ⟨s.toArray⟩, .int .i64 off, .int .i64 n] w (ReadTo w (st.read s off n).1 (st.read s off n).2) := by
  obtain ⟨F, q, h1, h2, h3⟩ := h
  exact read_any d F q st s off n K w h1 h2 hs hn2 ho2
omit hP in
theorem names_ds : Calls Try.prog 25 #[(.pointer (some ⟨d, 0, none⟩))] w fun e w' => ∃ v, e = .returned v ∧ w'.ownsRow w.heap.size 9 1 v st.now.length ((namesOf st.now).map strV) ∧ Below w.heap.size w w' := by
  obtain ⟨F, q, h1, h2, h3⟩ := h
  exact names_any d F q st K w h1 h2
end
theorem code0 (w : World) : Calls Try.prog 14 #[.nilIface] w fun e w' => e = .returned (.int .i64 0) ∧ w = w' := code_any 0 (by omega) (by omega) w
end Go.Proofs.Ytcicnjlkcbimgaa

/- corncribref07: Find, without, Named. -/
namespace Go.Proofs.Ytcicnjlkcbimgaa
open Go.RowKit
def entRow (p : Nm × Nat) : List Value := [.string ⟨p.1.toArray⟩, .int .i64 p.2]
theorem entRow_len (p : Nm × Nat) : (entRow p).length = 2 := rfl
theorem ent_at {w : World} {v : Value} {n : Nat} {l : Dir} (h : Reads w 2 v n (l.flatMap entRow)) {k : Nat} {x : Nm × Nat} (hx : l[k]? = some x) (hn : 0 < n) :
    ∃ b o c, v = .slice (some ⟨b, o, none⟩) n c ∧ b < w.heap.size ∧ w.cell? ⟨b, o + k * 2, none⟩ = some (.string ⟨x.1.toArray⟩) ∧ w.cell? ⟨b, o + k * 2 + 1, none⟩ = some (.int .i64 x.2) := by
  obtain ⟨b, o, c, e, h1, _, h2⟩ := reads_at h hn (by omega)
  have key : ∀ j u, j < 2 → (entRow x)[j]? = some u → w.cell? ⟨b, o + (k * 2 + j), none⟩ = some u := fun j u hj hu => h2 (k * 2 + j) u (by rw [getElem?_flatMap_row entRow 2 entRow_len l k j hj, hx]; exact hu)
  exact ⟨b, o, c, e, h1, key 0 _ (by omega) rfl, key 1 _ (by omega) rfl⟩
def findI (l : Dir) (s : Nm) : Int := match dirGet l s with | some f => (f : Int) | none => -1
theorem get_first {l : Dir} {s : Nm} {k f : Nat} (hx : l[k]? = some (s, f)) (hk : ∀ p ∈ l.take k, p.1 ≠ s) : dirGet l s = some f := by
  have hd : l = l.take k ++ (s, f) :: l.drop (k + 1) := by
    obtain ⟨hk', e⟩ := List.getElem?_eq_some_iff.1 hx
    rw [← e, ← List.drop_eq_getElem_cons hk', List.take_append_drop]
  unfold dirGet
  rw [hd, List.find?_append]
  have h1 : (l.take k).find? (fun p => p.1 == s) = none := by
    rw [List.find?_eq_none]
    intro p hp
    simpa using hk p hp
  rw [h1]
  simp
set_option maxRecDepth 100000 in
set_option maxHeartbeats 1000000 in
theorem find07_any (a : Option Addr) (n c : Nat) (l : Dir) (s : Nm) (w : World) (hl : l.length = n) (hr : Reads w 2 (.slice a n c) n (l.flatMap entRow)) (hn : n ≤ 4096) :
    Calls Try.prog 48 #[.slice a n c, .string ⟨s.toArray⟩] w fun e w' => e = .returned (.int .i64 (findI l s)) ∧ w = w' := by
  have HL := Lib.hid hl
  have HR := Lib.hid hr
  clear hl hr
  go_enter Try.func48, Try.ntmps48
  go_wp2_with fail
  go_loopw [5] (fun i wr => ∃ k : Nat, k ≤ n ∧ i = .int .i64 k ∧ (∀ p ∈ l.take k, p.1 ≠ s) ∧ w = wr) (fun i _ => n - (intOf i).toNat)
  case atStart => exact ⟨0, Nat.zero_le _, rfl, fun p hp => by simp at hp, rfl⟩
  case round =>
    obtain ⟨k, hk, rfl, hno, rfl⟩ := hrel
    have HNO := Lib.hid hno
    clear hno
    by_cases hlt : k < n
    · obtain ⟨x, hx⟩ : ∃ x, l[k]? = some x := ⟨_, List.getElem?_eq_getElem (by rw [HL.out]; exact hlt)⟩
      obtain ⟨b, o, cc, e, hbl, x0, x1⟩ := ent_at HR.out hx (by omega)
      obtain ⟨rfl, -, rfl⟩ := sl_inj e
      have HX := Lib.hid hx
      have hk0 : (0 : Int) ≤ (k : Int) := by omega
      have hk1 : (k : Int) < (n : Int) := by omega
      clear hx e
      obtain ⟨t, f⟩ := x
      simp only at x0 x1
      by_cases hts : t = s
      · subst hts
        have HF := Lib.hid (show findI l t = (f : Int) by unfold findI; rw [get_first HX.out HNO.out])
        go_wp2_with fail
        go_ret
        exact ⟨by rw [HF.out]; rfl, rfl⟩
      · have hne : (t == s) = false := by simpa using hts
        have HNO2 := Lib.hid (show ∀ p ∈ l.take (k + 1), p.1 ≠ s from fun p hp => by
          rw [take_snoc_at l k _ HX.out] at hp
          rcases List.mem_append.1 hp with hp | hp
          · exact HNO.out p hp
          · obtain rfl : p = _ := List.mem_singleton.1 hp
            exact hts)
        clear hts
        go_wp2_with fail
        go_roundw
        case rel => exact ⟨k + 1, by omega, by go_num, HNO2.out, trivial⟩
        case measure => simp [intOf]; omega
    · have hkn : decide ((k : Int) < (n : Int)) = false := by simp; omega
      have HF := Lib.hid (show findI l s = -1 by
        unfold findI
        have e : dirGet l s = none := by
          unfold dirGet
          rw [Option.map_eq_none_iff, List.find?_eq_none]
          intro p hp
          have := HNO.out p (by rw [List.take_of_length_le (by rw [HL.out]; omega)]; exact hp)
          simpa using this
        rw [e])
      go_wp2_with fail
      go_ret
      exact ⟨by rw [HF.out]; rfl, rfl⟩
end Go.Proofs.Ytcicnjlkcbimgaa
