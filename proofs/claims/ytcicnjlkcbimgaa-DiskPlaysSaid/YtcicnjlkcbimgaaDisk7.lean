/- Package disk: a range over names; Used; what becomes of one file. -/
import Derived.Test.YtcicnjlkcbimgaaDisk6
import Derived.Maps.RangeWalk
import Derived.LoopTactic
namespace Go.Proofs.Ytcicnjlkcbimgaa
open Go.RowKit Go.Maps
/-- The bytes of the files whose names have come. -/
def seenSum (f : Nat → Nat) (left : Lit → Bool) : Dir → Nat
  | [] => 0
  | p :: r => (if left (.string p.1) = true then 0 else f p.2) + seenSum f left r
theorem seenSum_congr (f : Nat → Nat) {left left' : Lit → Bool} : ∀ (l : Dir), (∀ p ∈ l, left (.string p.1) = left' (.string p.1)) → seenSum f left l = seenSum f left' l
  | [], _ => rfl
  | p :: r, h => by
    unfold seenSum
    rw [h p List.mem_cons_self, seenSum_congr f r fun q hq => h q (List.mem_cons_of_mem _ hq)]
theorem seenSum_none (f : Nat → Nat) : ∀ (l : Dir), seenSum f (fun _ => true) l = 0
  | [] => rfl
  | p :: r => by simp [seenSum, seenSum_none f r]
theorem seenSum_all (f : Nat → Nat) : ∀ (l : Dir), seenSum f (fun _ => false) l = (l.map fun p => f p.2).sum
  | [] => rfl
  | p :: r => by simp [seenSum, seenSum_all f r]
theorem get_has {l : Dir} {p : Nm × Nat} (hp : p ∈ l) : (dirGet l p.1).isSome = true := by
  unfold dirGet
  rw [Option.isSome_map, List.find?_isSome]
  exact ⟨p, hp, by simp⟩
theorem seenSum_start (f : Nat → Nat) (g : Nat → Nat) (l : Dir) : seenSum f (Maps.has (dirD g l)) l = 0 := by
  rw [← seenSum_none f l]
  exact seenSum_congr f l fun p hp => by rw [dirD_has, get_has hp]
theorem seenSum_end (f : Nat → Nat) (l : Dir) (left : Lit → Bool) (h : ∀ kl, left kl = false) : seenSum f left l = (l.map fun p => f p.2).sum := by
  rw [← seenSum_all f l]
  exact seenSum_congr f l fun p _ => h _
theorem seenSum_step (f : Nat → Nat) (x : Nm) (i : Nat) (left : Lit → Bool) (hl : left (.string x) = true) : ∀ (l : Dir), l.Pairwise (fun p q => p.1 ≠ q.1) → dirGet l x = some i →
    seenSum f (fun z => left z && !z.sameKey (.string x)) l = seenSum f left l + f i
  | [], _, h => by simp [dirGet] at h
  | p :: r, hp, hg => by
    obtain ⟨h1, h2⟩ := List.pairwise_cons.1 hp
    unfold dirGet at hg
    rw [List.find?_cons] at hg
    unfold seenSum
    by_cases hx : p.1 = x
    · simp only [hx, beq_self_eq_true, Option.map_some, Option.some.injEq] at hg
      subst hg
      have e : seenSum f (fun z => left z && !z.sameKey (.string x)) r = seenSum f left r := seenSum_congr f r fun q hq => by
        have h0 : (Lit.string q.1).sameKey (.string x) = false := beq_eq_false_iff_ne.2 (by rw [← hx]; exact (h1 q hq).symm)
        simp [h0]
      have h0 : (Lit.string x).sameKey (.string x) = true := beq_self_eq_true _
      rw [e]
      simp [hx, hl, h0]
      omega
    · have hb : (p.1 == x) = false := beq_eq_false_iff_ne.2 hx
      have h0 : (Lit.string p.1).sameKey (.string x) = false := hb
      rw [hb] at hg
      rw [seenSum_step f x i left hl r h2 hg]
      simp [h0]
      omega
theorem seenSum_le (f : Nat → Nat) (B : Nat) (hf : ∀ i, f i ≤ B) (left : Lit → Bool) : ∀ l : Dir, seenSum f left l ≤ l.length * B
  | [] => by simp [seenSum]
  | p :: r => by
    have := hf p.2
    have := seenSum_le f B hf left r
    unfold seenSum
    rw [List.length_cons, Nat.succ_mul]
    split <;> omega
theorem dir_apart {w : World} {b : Nat} {g : Nat → Nat} {l : Dir} (h : DirAt w b g l) : l.Pairwise (fun p q => p.1 ≠ q.1) := by
  obtain ⟨es, hD, hp, _⟩ := World.ownsMap.entries h law_str
  unfold dirD at hD
  injection hD with hD
  subst hD
  rw [List.pairwise_map] at hp
  exact hp.imp fun h e => h (by rw [e])
/-- The step of a range over names. -/
theorem wpList_next_dir (w : World) {ops : Array Oper} {rest : List Oper} {o : Oper} {a : Act} {Q : Exit → Act → World → Prop} (hg : o.guard = none) (it : Operand) (hop : o.op = Op.next it false)
    (b r n : Nat) (g : Nat → Nat) (l : Dir) (left : Lit → Bool) (cnt : Nat) (hit : a.eval it = .pointer (some ⟨r, 0, none⟩)) (h : w.ranges Try.prog 9 ptrR b r n (dirD g l) left cnt)
    (hDone : (∀ kl, left kl = false) → wpList Try.prog ops Q rest (a.put o.dst (.tuple #[.bool false])) w)
    (hMore : ∀ (x : Nm) (i : Nat) (w' : World) (cnt' : Nat), left (.string x) = true → dirGet l x = some i → w'.ranges Try.prog 9 ptrR b r n (dirD g l) (fun z => left z && !z.sameKey (.string x)) cnt' → cnt' < cnt → w.grownBy w' (some r) → w'.heap.size = w.heap.size →
      (Instr.entry (.pointer (some ⟨r, 0, none⟩))).run Try.prog w' = .ok (.tuple #[.string ⟨x.toArray⟩, .pointer (some ⟨g i, 0, none⟩)]) w' → wpList Try.prog ops Q rest (a.put o.dst (.tuple #[.bool true, .string ⟨x.toArray⟩, .pointer (some ⟨g i, 0, none⟩)])) w') :
    wpList Try.prog ops Q (o :: rest) a w := by
  refine wpList_next_ranges w hg it hop 9 law_str ptrR encStr (fun v : Value => v) (fun key kl hk => by obtain ⟨x, hx, _⟩ := Maps.keyOf_str Try.underlying9 hk; exact ⟨x, hx⟩) (fun v y _ => ⟨v, rfl⟩) b r n (dirD g l) left cnt hit h (fun _ => hDone) ?_
  intro x c kl y w' cnt' hk hlk hv hat hrg hlt hgr hsz hen
  obtain ⟨x', ex, rfl, _⟩ := Maps.keyOf_str Try.underlying9 hk
  obtain rfl : x = x' := encStr_inj ex
  cases hd : dirGet l x with
  | none =>
    have h0 := hat (.lit (.int .i64 0))
    have h1 := hat (.lit (.int .i64 1))
    rw [dirD_get, hd] at h0 h1
    rw [← h1] at h0
    simp at h0
  | some i =>
    have h0 := hat (.lit (.int .i64 0))
    rw [dirD_get, hd] at h0
    obtain ⟨y1, y2⟩ := y
    simp only at h0
    subst h0
    obtain rfl := ptrR_at hv
    exact hMore x i w' cnt' hlk hd hrg hlt hgr hsz hen
set_option maxRecDepth 100000 in
set_option maxHeartbeats 1000000 in
theorem used_any (d : Nat) (F : Nat → Prop) (q : DW) (st : Dk) (K : Nat) (w : World) (h : DiskAt w d F q st) (hok : DkOk K st) :
    Calls Try.prog 24 #[(.pointer (some ⟨d, 0, none⟩))] w fun e w' => e = .returned (.int .i64 st.used) ∧ Below w.heap.size w w' := by
  have H := Lib.hid h
  have HOK := Lib.hid hok
  have HN := Lib.hid h.now
  obtain ⟨c0, c1, c2, c3, c4, c5, cf⟩ := cells6 h.blk
  clear h hok c0 c1 c3 c4 c5 cf
  go_enter Try.func24, Try.ntmps24
  go_wp2_with (at_range; refine wpList_range_own _ rfl _ 79 rfl 9 84 law_str Try.underlying79 ptrR q.bn st.now.length (dirD q.fb st.now) rfl HN.out ?_; intro w0 hrg0 hg0 hs0; have HR0 := Lib.hid hrg0; have HG0 := Lib.hid hg0; have HS0 := Lib.hid hs0; clear hrg0 hg0 hs0)
  go_frame
  obtain ⟨f, hf⟩ : ∃ f : Nat → Nat, f = fun i => (st.fileAt i).b.length := ⟨_, rfl⟩
  have hfb : ∀ i, f i ≤ 16777216 := fun i => by rw [hf]; exact (HOK.out.at i).2
  have HSL := Lib.hid (fun left => Nat.le_trans (seenSum_le f 16777216 hfb left st.now) (Nat.mul_le_mul_right 16777216 HOK.out.lnow))
  have HF := Lib.hid hf
  have HAP := Lib.hid (dir_apart HN.out)
  have HFB := Lib.hid hfb
  have HST := Lib.hid (show seenSum f (Maps.has (dirD q.fb st.now)) st.now = 0 from seenSum_start f q.fb st.now)
  clear hf hfb
  go_loopw [3] (fun n wr => ∃ (left : Lit → Bool) (cnt : Nat), wr.ranges Try.prog 9 ptrR q.bn w.heap.size st.now.length (dirD q.fb st.now) left cnt ∧ n = .int .i64 (seenSum f left st.now : Nat) ∧ Below w.heap.size w wr) (fun _ wr => wr.rangeLeft q.bn w.heap.size)
  case atStart => exact ⟨_, _, HR0.out, by rw [HST.out]; rfl, ⟨HG0.out.os, HG0.out.tape, HG0.out.output, HG0.out.size, fun k hk => HG0.out.block k hk (by simp)⟩⟩
  case round =>
    obtain ⟨left, cnt, hrg, rfl, hbw⟩ := hrel
    have HRG := Lib.hid hrg
    have HBW := Lib.hid hbw
    have hsl := HSL.out left
    clear hrg hbw
    go_wp2_with (at_next; refine wpList_next_dir _ rfl _ rfl q.bn w.heap.size st.now.length q.fb st.now left cnt rfl HRG.out ?_ ?_)
    · intro hl0
      have HL0 := Lib.hid hl0
      clear hl0
      go_wp2
      go_ret
      exact ⟨ret_int (by rw [seenSum_end _ _ _ HL0.out, HF.out]; rfl), HBW.out⟩
    · intro x i w1 cnt1 hlx hgx hrg1 hlt hg1 hs1 hen
      have HB1 := Lib.hid (HBW.out.grown hg1 HBW.out.size (fun k e => by cases e; exact Nat.le_refl _))
      obtain ⟨h1, h2⟩ := (H.out.below HB1.out).file (HOK.out.fnow _ (get_mem hgx))
      obtain ⟨a, c, hv, -⟩ := h2.len
      obtain ⟨d0, d1, d2, df⟩ := cells3 h1
      rw [hv] at d1
      have hfi : (st.fileAt i).b.length = f i := by rw [HF.out]
      rw [hfi] at d1
      have hfb := HFB.out i
      have HR1 := Lib.hid hrg1
      have HLT := Lib.hid hlt
      have HSS := Lib.hid (seenSum_step f x i left hlx st.now HAP.out hgx)
      clear hlx hgx hrg1 hlt hg1 hs1 h1 h2 hv d0 d2 df hfi
      go_wp2
      go_roundw
      case rel => exact ⟨_, cnt1, HR1.out, by rw [HSS.out]; go_num, HB1.out⟩
      case measure => rw [HR1.out.left_eq, HRG.out.left_eq]; exact HLT.out
end Go.Proofs.Ytcicnjlkcbimgaa
