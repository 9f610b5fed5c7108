/- Package ship: Take. -/
import Derived.Test.YtmaalbbclldnpaaGreatDoorLyVolLayNd
import Derived.Test.YtmaalbbclldnpaaGreatDoorLy15
import Derived.Test.YtmaalbbclldnpaaGreatDoorLyAppReads
import Derived.OwnWalk
namespace Go.Proofs.YtmaalbbclldnpaaGreatDoor
set_option maxRecDepth 100000
set_option maxHeartbeats 8000000
open Go.RowKit
structure Ld where
  l : List Nd
  next : Nat
  more : Bool
  bad : Nat
def takeOne (v : Vl) (d : Dk) (p : Ps) : Option Nd := if p.gone = true then some ⟨p.key, p.cookie, true, []⟩ else if (v.get d p.key p.cookie).1 ≠ 0 then none else some (v.get d p.key p.cookie).2.2
def Vl.load (v : Vl) (d : Dk) (fr n : Nat) : Ld :=
  ⟨((v.keys fr ((n : Int) + 1)).take n).filterMap (takeOne v d), (match (v.keys fr ((n : Int) + 1))[n]? with | some p => p.key | none => 0), decide (n < (v.keys fr ((n : Int) + 1)).length), ((v.keys fr ((n : Int) + 1)).take n).countP fun p => (takeOne v d p).isNone⟩
theorem find_in {v : Vl} {key cookie : Nat} (hp : ∀ p ∈ v.idx, p.len ≤ 4096 ∧ p.off ≤ 1000000000) : (v.find key cookie).2.len ≤ 4096 ∧ (v.find key cookie).2.off ≤ 1000000000 := by
  unfold Vl.find
  cases e : ixFind v.idx key with
  | none => exact ⟨by simp, by simp⟩
  | some p =>
    have := hp p (mem_of_ixFind e).1
    simp only
    split
    · exact ⟨by simp, by simp⟩
    split
    · exact ⟨by simp, by simp⟩
    · exact this
def TakeTo (w : World) (r : Ld) (e : Ending) (w' : World) : Prop :=
  ∃ vl xs, e = .returned (.tuple #[.agg #[vl, .int .u64 r.next, .bool r.more, .int .i64 r.bad], .nilIface]) ∧ xs.map NdE.n = r.l ∧ NdRow 48 w' w.heap.size vl xs ∧ Below w.heap.size w w'
theorem take_snoc {α β : Type} (f : α → Option β) (l : List α) (i : Nat) (x : α) (h : l[i]? = some x) : (l.take (i + 1)).filterMap f = (l.take i).filterMap f ++ (f x).toList := by
  rw [List.take_add_one, h, List.filterMap_append]
  cases hf : f x <;> simp [hf]
theorem ndinfo : (Tryz.prog.info? 48).map (fun i => (i.zero, i.size, i.bytes)) = some (some (.agg #[.int .u64 0, .int .u32 0, .bool false, .slice none 0 0]), 4, 40) := by kernel_rfl
theorem take_any {w : World} {vp dp ix K : Nat} {vx : Value} {P : Nat → Prop} {d : Dk} {v : Vl} (h : VolAt w vp dp ix vx v) (hds : DS w dp P K d) (hn : NamesAt v.num v.gen) (hl : v.file.length ≤ maxLen) (hp : ∀ p ∈ v.idx, p.len ≤ 4096 ∧ p.off ≤ 1000000000) (fr n : Nat) (h1 : 1 ≤ n) (h2 : n ≤ 64) :
    Calls Tryz.prog 12 #[(.pointer (some ⟨vp, 0, none⟩)), .int .u64 fr, .int .i64 n] w (TakeTo w (v.load d fr n)) := by
  obtain ⟨i0, hi, hzz0, hzz1, hzz2⟩ := info_parts ndinfo
  have HI := Lib.hid hi
  have HZ0 := Lib.hid hzz0
  have HZ1 := Lib.hid hzz1
  have HZ2 := Lib.hid hzz2
  have hlt := h.lt
  have HKY := Lib.hid (fun (w0 : World) (hb : Below w.heap.size w w0) => keys_any (h.below hb) fr ((n : Int) + 1))
  have HGT := Lib.hid (fun (w0 : World) (hb : Below w.heap.size w w0) (key cookie : Nat) => vget_any (h.below hb) (hds.below hb) hn hl key cookie (find_in hp).1 (find_in hp).2)
  obtain ⟨ks, hks⟩ : ∃ ks, ks = v.keys fr ((n : Int) + 1) := ⟨_, rfl⟩
  have hkl : ks.length ≤ n + 1 := by
    rw [hks]
    unfold Vl.keys
    split
    · simp
    · simp [List.length_take]; omega
  have HL := Lib.hid (show v.load d fr n = ⟨(ks.take n).filterMap (takeOne v d), (match ks[n]? with | some p => p.key | none => 0), decide (n < ks.length), (ks.take n).countP fun p => (takeOne v d p).isNone⟩ by rw [hks]; rfl)
  rw [← hks] at HKY
  obtain ⟨G, hG⟩ : ∃ G, G = v.get d := ⟨_, rfl⟩
  obtain ⟨T, hT⟩ : ∃ T, T = takeOne v d := ⟨_, rfl⟩
  have HT := Lib.hid (show ∀ p : Ps, T p = if p.gone = true then some ⟨p.key, p.cookie, true, []⟩ else if (G p.key p.cookie).1 ≠ 0 then none else some (G p.key p.cookie).2.2 from fun p => by rw [hT, hG]; rfl)
  rw [← hT] at HL
  rw [← hG] at HGT
  obtain ⟨LN, hLN⟩ : ∃ LN, LN = ks.length := ⟨_, rfl⟩
  have HLN := Lib.hid hLN
  rw [← hLN] at hkl HKY
  clear h hds hn hl hp hi hzz0 hzz1 hzz2 hks hT hG hLN
  go_enter Tryz.func12, Tryz.ntmps12
  have i1 : decide ((n : Int) < 1) = false := by simp; omega
  have i2 : decide ((64 : Int) < (n : Int)) = false := by simp; omega
  go_wp2_with fail
  obtain ⟨w0, hw0⟩ : ∃ w0 : World, w0 = (w.alloc (.cells #[.slice none 0 0, .int .u64 0, .bool false, .int .i64 0] 35)).alloc (.cells #[.slice none 0 0, .int .u64 0, .bool false, .int .i64 0] 35) := ⟨_, rfl⟩
  have HB0 := Lib.hid (show Below w.heap.size w w0 by rw [hw0]; exact (by repeat (first | (with_reducible first | exact .refl _ _ | refine .setCell ?_ ?_ _ | refine .alloc ?_ ?_ _ | refine .drewN ?_ _ | refine .drew ?_ | exact Nat.le_refl _) | (focus (simp only [World.size_alloc, World.size_setCell, World.size_drew, World.size_drewN]; omega)) | omega | exact Nat.le_refl _ | (focus (simp; done)) | (focus (simp; omega)))))
  have KR0 := Lib.hid (show w0.heap[w.heap.size]? = some (.cells #[.slice none 0 0, .int .u64 0, .bool false, .int .i64 0] 35 (0, 0)) by rw [hw0]; exact blk_alloc (heap_new w _) _)
  have KO0 := Lib.hid (show w0.heap[w.heap.size + 1]? = some (.cells #[.slice none 0 0, .int .u64 0, .bool false, .int .i64 0] 35 (0, 0)) by rw [hw0]; exact blk_new _ (by simp))
  rw [← hw0]
  clear hw0
  have hz0 := HB0.out.size
  have hs0 := blk_lt KO0.out
  refine (HKY.out _ HB0.out).mono ?_
  rintro e w2 ⟨vk, rfl, hok, hb⟩
  have HB2 := Lib.hid (HB0.out.trans (hb.mono hz0))
  have HKR := Lib.hid hok
  have KR2 := Lib.hid (blk_below' KR0.out hb)
  have KO2 := Lib.hid (blk_below' KO0.out hb)
  have hz2 := HB2.out.size
  have hlo2 := blk_lt KO2.out
  obtain ⟨ak, ck, rfl, hck⟩ := slice_of hok
  clear hb hok
  go_wp2_with fail
  go_loopw [33] (fun i wr => ∃ (k : Nat) (vL : Value) (xs : List NdE) (bad : Nat), k ≤ LN ∧ k ≤ n ∧ i = .int .i64 k ∧ Keeps (fun b => b = w.heap.size + 1 ∨ w2.heap.size ≤ b) w2 wr ∧ wr.heap[w.heap.size + 1]? = some (.cells #[vL, .int .u64 0, .bool false, .int .i64 bad] 35 (0, 0)) ∧ NdRow 48 wr w2.heap.size vL xs ∧ xs.map NdE.n = (ks.take k).filterMap T ∧ bad = (ks.take k).countP (fun p => (T p).isNone)) (fun i _ => LN - (intOf i).toNat)
  case atStart => exact ⟨0, .slice none 0 0, [], 0, Nat.zero_le _, Nat.zero_le _, rfl, Keeps.refl _ _, KO2.out, NdRow.nil _ _ _, by simp, by simp⟩
  case round =>
    obtain ⟨k, vL, xs, bad, hk1, hk2, rfl, hkp, hob, hnr, hxs, hbad⟩ := hrel
    have hxl : xs.length ≤ k := by
      have := congrArg List.length hxs
      rw [List.length_map] at this
      rw [this]
      exact Nat.le_trans (List.length_filterMap_le _ _) (List.length_take_le _ _)
    obtain ⟨nL, hnL⟩ : ∃ nL, nL = xs.length := ⟨_, rfl⟩
    rw [← hnL] at hxl
    have hrow := hnr.row
    rw [← hnL] at hrow
    obtain ⟨aL, cL, rfl, -⟩ := slice_of hrow
    have HKP := Lib.hid hkp
    have HNR := Lib.hid hnr
    have HROW := Lib.hid hrow
    have HXS := Lib.hid hxs
    have HBAD := Lib.hid hbad
    have HNL := Lib.hid hnL
    have KO := Lib.hid hob
    have hzr := hkp.size
    have HBR := Lib.hid (show Below w.heap.size w wr from HB2.out.trans (hkp.below hz2 (fun k hk => by omega)))
    have KR := Lib.hid ((hkp.block w.heap.size (by omega) (by omega)).trans KR2.out)
    have hbl : bad ≤ k := by rw [hbad]; exact Nat.le_trans List.countP_le_length (List.length_take_le _ _)
    clear hkp hob hnr hxs hbad hnL hrow
    by_cases hlt2 : k < LN
    · obtain ⟨⟨pk, po, pl, pc, pg⟩, hp⟩ : ∃ p, ks[k]? = some p := ⟨_, List.getElem?_eq_getElem (by rw [← HLN.out]; exact hlt2)⟩
      have hkr : wr.ownsRow w0.heap.size 64 5 (.slice ak LN ck) LN (ks.flatMap psC) := ownsRow_keeps HKR.out HKP.out (fun g e => by have := HKR.out.lt g e; omega)
      obtain ⟨g, hg⟩ : ∃ g, ak = some ⟨g, 0, none⟩ := by
        rcases hkr.2 with ⟨_, h0⟩ | ⟨g, cap, cur, e, _⟩
        · omega
        · exact ⟨g, (sl_inj e).1⟩
      subst hg
      obtain ⟨r0, r1, r2, r3, r4⟩ := row_at hkr hp
      have hp1 := take_snoc T ks k _ hp
      have hp2 := countP_snoc (fun p => (T p).isNone) ks k _ hp
      have HP1 := Lib.hid hp1
      have HP2 := Lib.hid hp2
      have HP := Lib.hid hp
      have HTP := Lib.hid (HT.out ⟨pk, po, pl, pc, pg⟩)
      have hj0 : (0 : Int) ≤ (k : Int) := by omega
      have hj1 : (k : Int) < (LN : Int) := by omega
      clear hp hp1 hp2 hkr
      obtain ⟨o0, o1, o2, o3⟩ := ncells KO.out
      obtain ⟨f0, f1, f2, f3⟩ := nfree KO.out
      have hlo := blk_lt KO.out
      by_cases hkn : k = n
      · have e1 : ((k : Int) == (n : Int)) = true := by simp; omega
        have HKN := Lib.hid hkn
        clear hkn
        go_upto_region 10 with fail
        obtain ⟨w3, hw3⟩ : ∃ w3 : World, w3 = wr.alloc (.cells #[.int .u64 pk, .int .i64 po, .int .i64 pl, .int .u32 pc, .bool pg] 64) := ⟨_, rfl⟩
        have hb3 : Below wr.heap.size wr w3 := by rw [hw3]; exact (by repeat (first | (with_reducible first | exact .refl _ _ | refine .setCell ?_ ?_ _ | refine .alloc ?_ ?_ _ | refine .drewN ?_ _ | refine .drew ?_ | exact Nat.le_refl _) | (focus (simp only [World.size_alloc, World.size_setCell, World.size_drew, World.size_drewN]; omega)) | omega | exact Nat.le_refl _ | (focus (simp; done)) | (focus (simp; omega))))
        have HB3 := Lib.hid (HBR.out.trans (hb3.mono HBR.out.size))
        have KO3 := Lib.hid (blk_below' KO.out hb3)
        have KR3 := Lib.hid (blk_below' KR.out hb3)
        have KP3 := Lib.hid (show w3.heap[wr.heap.size]? = some (.cells #[.int .u64 pk, .int .i64 po, .int .i64 pl, .int .u32 pc, .bool pg] 64 (0, 0)) by rw [hw3]; exact heap_new wr _)
        have HN3 := Lib.hid (HNR.out.below hb3)
        rw [← hw3]
        clear hw3 hb3 o0 o1 o2 o3 f0 f1 f2 f3 r0 r1 r2 r3 r4
        obtain ⟨o0, o1, o2, o3⟩ := ncells KO3.out
        obtain ⟨f0, f1, f2, f3⟩ := nfree KO3.out
        obtain ⟨t0, t1, t2, t3, t4⟩ := pcells KP3.out
        have hl3 := blk_lt KP3.out
        have hlo3 := blk_lt KO3.out
        have hne3 : ¬ wr.heap.size = w.heap.size + 1 := by omega
        obtain ⟨SS, HSD⟩ : ∃ SS : World → Prop, Hid (SS = fun w' => w'.cell? ⟨wr.heap.size, 0, none⟩ = some (.int .u64 pk)) := ⟨_, Lib.hid rfl⟩
        refine wp_region_mask0 SS [1] [0, 1, 0, 4, 15, 31] (.op 0 0 (.op 1 2 (.op 2 0 (.op 3 1 (.op 4 0 (.op 5 1 .nil)))))) (by kernel_rfl) (by kernel_rfl) rfl (by kernel_rfl) (by kernel_rfl) ?_ ?_
        (focus (rw [HSD.out]; exact t0)); refine stepM0 rfl rfl fun K hK => ?_; go_simp; refine hK _ ?_; clear hK K; refine stepM2 rfl rfl ?_ (fun w1 hS => ?_) fun K hK => ?_; rotate_left; (focus (rw [HSD.out] at hS; have s0 := hS; go_simp; rfl)); go_simp; refine hK _ ?_; clear hK K; refine stepM0 rfl rfl fun K hK => ?_; go_simp; refine hK _ ?_; clear hK K; refine stepM1S rfl rfl fun K hK => ?_; go_wp2
        refine ⟨by rw [HSD.out]; exact ((Keeps.cell ((Keeps.refl (fun k => k = w.heap.size + 1) w3).setCell ⟨w.heap.size + 1, 2, none⟩ (.bool true) (fun _ => rfl)) hl3 hne3 0).trans t0), ?_⟩
        refine stepM0 rfl rfl fun K hK => ?_; go_simp; refine hK _ ?_; clear hK K; refine stepM1 rfl rfl (by kernel_rfl) fun K hK => ?_; go_wp2
        try refine stepMnil0 ?_
        clear HSD SS
        go_upto_region 18 with fail
        obtain ⟨w4, hw4⟩ : ∃ w4 : World, w4 = (w3.setCell ⟨w.heap.size + 1, 2, none⟩ (.bool true)).setCell ⟨w.heap.size + 1, 1, none⟩ (.int .u64 pk) := ⟨_, rfl⟩
        have hk4 : Keeps (fun k => k = w.heap.size + 1) w3 w4 := by rw [hw4]; exact ((Keeps.refl (fun k => k = w.heap.size + 1) w3).setCell ⟨w.heap.size + 1, 2, none⟩ (.bool true) (fun _ => rfl)).setCell ⟨w.heap.size + 1, 1, none⟩ (.int .u64 pk) (fun _ => rfl)
        have HB4 := Lib.hid (show Below w.heap.size w w4 by rw [hw4]; exact ((HB3.out).setCell (by simp) _).setCell (by simp) _)
        have KO4 := Lib.hid (show w4.heap[w.heap.size + 1]? = some (.cells #[.slice aL nL cL, .int .u64 pk, .bool true, .int .i64 bad] 35 (0, 0)) by
          rw [hw4]
          have h1 : (w3.setCell ⟨w.heap.size + 1, 2, none⟩ (.bool true)).heap[w.heap.size + 1]? = some (.cells #[.slice aL nL cL, .int .u64 0, .bool true, .int .i64 bad] 35 (0, 0)) := by simpa using heap_setCell_same w3 (w.heap.size + 1) 2 _ _ (.bool true) KO3.out
          simpa using heap_setCell_same _ (w.heap.size + 1) 1 _ _ (.int .u64 pk) h1)
        have KR4 := Lib.hid ((hk4.block w.heap.size (blk_lt KR3.out) (by omega)).trans KR3.out)
        have HN4 := Lib.hid (HN3.out.keeps hk4 (fun k h1 _ e => by omega))
        rw [← hw4]
        clear hw4 hk4 o0 o1 o2 o3 f0 f1 f2 f3 t0 t1 t2 t3 t4
        obtain ⟨w5, hw5⟩ : ∃ w5 : World, w5 = w4.drew := ⟨_, rfl⟩
        have HB5 := Lib.hid (show Below w.heap.size w w5 by rw [hw5]; exact Below.drew HB4.out)
        have KO5 := Lib.hid (show w5.heap[w.heap.size + 1]? = some (.cells #[.slice aL nL cL, .int .u64 pk, .bool true, .int .i64 bad] 35 (0, 0)) by rw [hw5]; exact KO4.out)
        have KR5 := Lib.hid (show w5.heap[w.heap.size]? = some (.cells #[.slice none 0 0, .int .u64 0, .bool false, .int .i64 0] 35 (0, 0)) by rw [hw5]; exact KR4.out)
        have HN5 := Lib.hid (show NdRow 48 w5 w2.heap.size (.slice aL nL cL) xs by rw [hw5]; exact HN4.out.below (Below.drew (Below.refl _ _)))
        rw [← hw5]
        clear hw5
        obtain ⟨o0, o1, o2, o3⟩ := ncells KO5.out
        obtain ⟨z0, z1, z2, z3⟩ := ncells KR5.out
        obtain ⟨f0, f1, f2, f3⟩ := nfree KR5.out
        have hlr := blk_lt KR5.out
        have hlo := blk_lt KO5.out
        go_wp2
        obtain ⟨wf, hwf⟩ : ∃ wf, wf = set4 w5 w.heap.size (.slice aL nL cL) (.int .u64 pk) (.bool true) (.int .i64 bad) := ⟨_, rfl⟩
        have HBF := Lib.hid (show Below w.heap.size w wf by rw [hwf]; exact HB5.out.trans (set4_below (Nat.le_refl _) _ _ _ _))
        have kbf := store4 (KR5.out) (.slice aL nL cL) (.int .u64 pk) (.bool true) (.int .i64 bad)
        have HNF := Lib.hid (show NdRow 48 wf w.heap.size (.slice aL nL cL) xs by
          rw [hwf]
          exact ((HN5.out).keeps (set4_keeps w5 _ _ _ _ _) (fun k h1 _ e => by omega)).low hz2)
        rw [← hwf] at kbf
        obtain ⟨s0, s1, s2, s3⟩ := ncells kbf
        unfold set4 at hwf
        rw [← hwf]
        refine bodyPost_ret (v := ?_) ?_ rfl ?_
        rotate_left; (focus (simp [results, Tryz.results12, go_sem, s0, s1, s2, s3]; exact rfl))
        rw [HL.out]
        refine ⟨_, xs, ?_, ?_, HNF.out, HBF.out⟩
        · rw [← HKN.out, HP.out, HBAD.out, show decide (k < ks.length) = true by rw [← HLN.out]; simp; omega]
        · rw [← HKN.out]; exact HXS.out
      have e1 : ((k : Int) == (n : Int)) = false := by simp; omega
      have HKN := Lib.hid (show k < n by omega)
      clear hkn
      go_upto_region 11 with fail
      obtain ⟨w3, hw3⟩ : ∃ w3 : World, w3 = wr.alloc (.cells #[.int .u64 pk, .int .i64 po, .int .i64 pl, .int .u32 pc, .bool pg] 64) := ⟨_, rfl⟩
      have hb3 : Below wr.heap.size wr w3 := by rw [hw3]; exact (by repeat (first | (with_reducible first | exact .refl _ _ | refine .setCell ?_ ?_ _ | refine .alloc ?_ ?_ _ | refine .drewN ?_ _ | refine .drew ?_ | exact Nat.le_refl _) | (focus (simp only [World.size_alloc, World.size_setCell, World.size_drew, World.size_drewN]; omega)) | omega | exact Nat.le_refl _ | (focus (simp; done)) | (focus (simp; omega))))
      have HB3 := Lib.hid (HBR.out.trans (hb3.mono HBR.out.size))
      have KOW3 := Lib.hid (blk_below' KO.out hb3)
      have KP3 := Lib.hid (show w3.heap[wr.heap.size]? = some (.cells #[.int .u64 pk, .int .i64 po, .int .i64 pl, .int .u32 pc, .bool pg] 64 (0, 0)) by rw [hw3]; exact heap_new wr _)
      have HNW3 := Lib.hid (HNR.out.below hb3)
      have HKW3 := Lib.hid (show Keeps (fun b => b = w.heap.size + 1 ∨ w2.heap.size ≤ b) w2 w3 by rw [hw3]; exact HKP.out.alloc _)
      have hz3 : wr.heap.size < w3.heap.size := by rw [hw3]; simp
      rw [← hw3]
      clear hw3 hb3 o0 o1 o2 o3 f0 f1 f2 f3 r0 r1 r2 r3 r4
      obtain ⟨o0, o1, o2, o3⟩ := ncells KOW3.out
      obtain ⟨f0, f1, f2, f3⟩ := nfree KOW3.out
      obtain ⟨t0, t1, t2, t3, t4⟩ := pcells KP3.out
      have hlo3 := blk_lt KOW3.out
      cases pg
      case true =>
        go_upto_region 12 with fail
        have hrw := HNW3.out.row
        rw [← HNL.out] at hrw
        have HRW := Lib.hid hrw
        have HNEO := Lib.hid (show some (w.heap.size + 1) ≠ (Value.slice aL nL cL).ownBlock from fun e => by have := (HRW.out.lt _ e.symm).1; omega)
        clear hrw
        go_wp2_with (at_builtin; refine wpList_append_lies _ rfl _ _ 33 rfl w2.heap.size 48 i0 (.agg #[.int .u64 0, .int .u32 0, .bool false, .slice none 0 0]) 4 40 Tryz.underlying33 HI.out HZ0.out HZ1.out HZ2.out rfl (by decide) (.slice aL nL cL) nL (xs.flatMap NdE.cs) rfl (ownsRow_below HRW.out (by repeat (first | (with_reducible first | exact .refl _ _ | refine .setCell ?_ ?_ _ | refine .alloc ?_ ?_ _ | refine .drewN ?_ _ | refine .drew ?_ | exact Nat.le_refl _) | (focus (simp only [World.size_alloc, World.size_setCell, World.size_drew, World.size_drewN]; omega)) | omega | exact Nat.le_refl _ | (focus (simp; done)) | (focus (simp; omega))))) ⟨w3.heap.size, 0, none⟩ 1 1 [.int .u64 pk, .int .u32 pc, .bool true, .slice none 0 0] rfl rfl (World.news_of_block (cs := #[.int .u64 pk, .int .u32 pc, .bool true, .slice none 0 0]) (t := 48) (fr := (0, 0)) (heap_new w3 _)) (by simp [Value.oneCell']) (by omega) (by unfold maxLen; omega) (by omega) (by simp; omega) _ rfl ?_; intro g' cap' w6 hown hgrow hat hlt6; have KO6 := Lib.hid ((hgrow.block (w.heap.size + 1) (by simp; omega) HNEO.out).trans (alloc_blk KOW3.out _)); have HG6 := Lib.hid hgrow; have HO6 := Lib.hid hown; have HA6 := Lib.hid hat; have hz6 := hgrow.size; simp only [World.size_alloc] at hz6; clear hgrow hown hat; obtain ⟨o0, o1, o2, o3⟩ := ncells KO6.out; obtain ⟨f0, f1, f2, f3⟩ := nfree KO6.out; have hlo6 := blk_lt KO6.out)
        obtain ⟨w7, hw7⟩ : ∃ w7 : World, w7 = w6.setCell ⟨w.heap.size + 1, 0, none⟩ (.slice (some ⟨g', 0, none⟩) (nL + 1) cap') := ⟨_, rfl⟩
        have hk7 : Keeps (fun k => k = w.heap.size + 1) w6 w7 := by rw [hw7]; exact (Keeps.refl (fun k => k = w.heap.size + 1) w6).setCell ⟨w.heap.size + 1, 0, none⟩ _ (fun _ => rfl)
        have KO7 := Lib.hid (show w7.heap[w.heap.size + 1]? = some (.cells #[.slice (some ⟨g', 0, none⟩) (nL + 1) cap', .int .u64 0, .bool false, .int .i64 bad] 35 (0, 0)) by
          rw [hw7]
          simpa using heap_setCell_same w6 (w.heap.size + 1) 0 _ _ (.slice (some ⟨g', 0, none⟩) (nL + 1) cap') KO6.out)
        rw [← hw7]
        clear hw7
        go_roundw
        case rel =>
          have hnw := HNW3.out.below (w' := w3.alloc (.cells #[.int .u64 pk, .int .u32 pc, .bool true, .slice none 0 0] 48)) (by repeat (first | (with_reducible first | exact .refl _ _ | refine .setCell ?_ ?_ _ | refine .alloc ?_ ?_ _ | refine .drewN ?_ _ | refine .drew ?_ | exact Nat.le_refl _) | (focus (simp only [World.size_alloc, World.size_setCell, World.size_drew, World.size_drewN]; omega)) | omega | exact Nat.le_refl _ | (focus (simp; done)) | (focus (simp; omega))))
          have hpu : NdRow 48 w6 w2.heap.size (.slice (some ⟨g', 0, none⟩) (nL + 1) cap') (xs ++ [⟨⟨pk, pc, true, []⟩, none, 0⟩]) := hnw.push HNL.out HG6.out HO6.out (HA6.out.imp (fun e => e.symm) (fun e => by rw [e]; rfl)) ⟨reads_none _ _, fun ad e => by cases e⟩ (fun ad e => by cases e)
          have hkw : Keeps (fun b => b = w.heap.size + 1 ∨ w2.heap.size ≤ b) w2 w6 := by
            refine Keeps.trans (HKW3.out.alloc (.cells #[.int .u64 pk, .int .u32 pc, .bool true, .slice none 0 0] 48)) ((grown_keeps HG6.out)) (fun i _ e => .inr ?_)
            exact (HRW.out.lt i e).1
          refine ⟨k + 1, .slice (some ⟨g', 0, none⟩) (nL + 1) cap', xs ++ [⟨⟨pk, pc, true, []⟩, none, 0⟩], bad, by omega, by have := HKN.out; omega, by go_num, Keeps.trans hkw hk7 (fun i _ e => .inl e), KO7.out, hpu.keeps hk7 (fun k h1 _ e => by omega), ?_, ?_⟩
          · rw [HP1.out, List.map_append, HXS.out, HTP.out]
            rfl
          · rw [HP2.out, ← HBAD.out, HTP.out]
            rfl
        case measure => simp [intOf]; omega
      obtain ⟨⟨gk, gtold, gn⟩, hgv⟩ : ∃ r, r = G pk pc := ⟨_, rfl⟩
      have HGC := Lib.hid (HGT.out w3 HB3.out pk pc)
      have HTP2 := Lib.hid (show T ⟨pk, po, pl, pc, false⟩ = if gk ≠ 0 then none else some gn by rw [HTP.out, ← hgv]; rfl)
      rw [← hgv] at HGC
      unfold GotV at HGC
      obtain ⟨nk, nc, ng, nd⟩ := gn
      simp only at HGC
      clear hgv
      go_wp2_with fail
      refine HGC.out.mono ?_
      rintro e w4 ⟨vd, ev, rfl, hev, ho, hb⟩
      obtain ⟨ad, cd, rfl, -⟩ := slice_of ho
      have hz4 := hb.size
      have HB4 := Lib.hid (HB3.out.trans (hb.mono HB3.out.size))
      have KOW4 := Lib.hid (blk_below' KOW3.out hb)
      have HNW4 := Lib.hid (HNW3.out.below hb)
      have HKW4 := Lib.hid (show Keeps (fun b => b = w.heap.size + 1 ∨ w2.heap.size ≤ b) w2 w4 from Keeps.trans HKW3.out (keeps_below (fun b => b = w.heap.size + 1 ∨ w2.heap.size ≤ b) hb) (fun _ _ e => e))
      have HO4 := Lib.hid ho
      have hlv3 := blk_lt KP3.out
      have hev2 : (gk = 0 ∧ ev = .nilIface) ∨ (gk ≠ 0 ∧ ∃ t p, ev = .iface t p) := by
        rcases hev with ⟨_, h⟩ | ⟨_, h, bk, f, off, e, _⟩
        · by_cases h0 : gk = 0
          · exact .inl ⟨h0, by rw [h, h0]; rfl⟩
          · exact .inr ⟨h0, _, _, by rw [h, errV_ne (by omega)]⟩
        · exact .inr ⟨h, _, _, e⟩
      clear hb ho hev o0 o1 o2 o3 f0 f1 f2 f3 t0 t1 t2 t3 t4
      obtain ⟨o0, o1, o2, o3⟩ := ncells KOW4.out
      obtain ⟨f0, f1, f2, f3⟩ := nfree KOW4.out
      have hlo4 := blk_lt KOW4.out
      rcases hev2 with ⟨hg0, rfl⟩ | ⟨hg0, te, pe, rfl⟩
      case inr =>
        have HG0 := Lib.hid (HTP2.out.trans (if_pos hg0))
        clear hg0
        go_upto_region 14 with fail
        obtain ⟨w5, hw5⟩ : ∃ w5 : World, w5 = w4.alloc (.cells #[.int .u64 nk, .int .u32 nc, .bool ng, .slice ad nd.length cd] 48) := ⟨_, rfl⟩
        have hb5 : Below w4.heap.size w4 w5 := by rw [hw5]; exact (by repeat (first | (with_reducible first | exact .refl _ _ | refine .setCell ?_ ?_ _ | refine .alloc ?_ ?_ _ | refine .drewN ?_ _ | refine .drew ?_ | exact Nat.le_refl _) | (focus (simp only [World.size_alloc, World.size_setCell, World.size_drew, World.size_drewN]; omega)) | omega | exact Nat.le_refl _ | (focus (simp; done)) | (focus (simp; omega))))
        have KO5 := Lib.hid (blk_below' KOW4.out hb5)
        have HN5 := Lib.hid (HNW4.out.below hb5)
        have HK5 := Lib.hid (show Keeps (fun b => b = w.heap.size + 1 ∨ w2.heap.size ≤ b) w2 w5 by rw [hw5]; exact HKW4.out.alloc _)
        rw [← hw5]
        clear hw5 hb5 o0 o1 o2 o3 f0 f1 f2 f3
        obtain ⟨o0, o1, o2, o3⟩ := ncells KO5.out
        obtain ⟨f0, f1, f2, f3⟩ := nfree KO5.out
        have hlo5 := blk_lt KO5.out
        go_wp2_with fail
        obtain ⟨w7, hw7⟩ : ∃ w7 : World, w7 = w5.setCell ⟨w.heap.size + 1, 3, none⟩ (.int .i64 ((bad : Int) + 1)) := ⟨_, rfl⟩
        have hk7 : Keeps (fun k => k = w.heap.size + 1) w5 w7 := by rw [hw7]; exact (Keeps.refl (fun k => k = w.heap.size + 1) w5).setCell ⟨w.heap.size + 1, 3, none⟩ _ (fun _ => rfl)
        have KO7 := Lib.hid (show w7.heap[w.heap.size + 1]? = some (.cells #[.slice aL nL cL, .int .u64 0, .bool false, .int .i64 ((bad + 1 : Nat) : Int)] 35 (0, 0)) by
          rw [hw7]
          simpa using heap_setCell_same w5 (w.heap.size + 1) 3 _ _ (.int .i64 ((bad : Int) + 1)) KO5.out)
        rw [← hw7]
        clear hw7
        go_roundw
        case rel =>
          refine ⟨k + 1, .slice aL nL cL, xs, bad + 1, by omega, by have := HKN.out; omega, by go_num, Keeps.trans HK5.out hk7 (fun i _ e => .inl e), KO7.out, HN5.out.keeps hk7 (fun k h1 _ e => by omega), ?_, ?_⟩
          · rw [HP1.out, HXS.out, HG0.out]
            simp
          · rw [HP2.out, ← HBAD.out, HG0.out]
            rfl
        case measure => simp [intOf]; omega
      have HG0 := Lib.hid (HTP2.out.trans (if_neg (by simpa using hg0)))
      clear hg0
      go_upto_region 14 with fail
      obtain ⟨w5, hw5⟩ : ∃ w5 : World, w5 = w4.alloc (.cells #[.int .u64 nk, .int .u32 nc, .bool ng, .slice ad nd.length cd] 48) := ⟨_, rfl⟩
      have hb5 : Below w4.heap.size w4 w5 := by rw [hw5]; exact (by repeat (first | (with_reducible first | exact .refl _ _ | refine .setCell ?_ ?_ _ | refine .alloc ?_ ?_ _ | refine .drewN ?_ _ | refine .drew ?_ | exact Nat.le_refl _) | (focus (simp only [World.size_alloc, World.size_setCell, World.size_drew, World.size_drewN]; omega)) | omega | exact Nat.le_refl _ | (focus (simp; done)) | (focus (simp; omega))))
      have KOW5 := Lib.hid (blk_below' KOW4.out hb5)
      have HNW5 := Lib.hid (HNW4.out.below hb5)
      have HKW5 := Lib.hid (show Keeps (fun b => b = w.heap.size + 1 ∨ w2.heap.size ≤ b) w2 w5 by rw [hw5]; exact HKW4.out.alloc _)
      have KD5 := Lib.hid (show w5.heap[w4.heap.size]? = some (.cells #[.int .u64 nk, .int .u32 nc, .bool ng, .slice ad nd.length cd] 48 (0, 0)) by rw [hw5]; exact heap_new w4 _)
      have HE5 := Lib.hid (show NdIn w5 w2.heap.size ⟨⟨nk, nc, ng, nd⟩, ad, cd⟩ from (show NdIn w4 w2.heap.size ⟨⟨nk, nc, ng, nd⟩, ad, cd⟩ from ⟨reads_of_owns HO4.out, fun a0 e => by
        simp only at e
        subst e
        have := HO4.out.lt a0.block rfl
        omega⟩).below hb5)
      have HAE := Lib.hid (show ∀ a0, ad = some a0 → (Value.slice aL nL cL).ownBlock ≠ some a0.block from fun a0 e h => by
        subst e
        have h1 := (HNW3.out.row.lt _ h).2
        have h2 := (HO4.out.lt a0.block rfl).1
        omega)
      have hz5 : w4.heap.size < w5.heap.size := by rw [hw5]; simp
      rw [← hw5]
      clear hw5 hb5 o0 o1 o2 o3 f0 f1 f2 f3
      obtain ⟨o0, o1, o2, o3⟩ := ncells KOW5.out
      obtain ⟨f0, f1, f2, f3⟩ := nfree KOW5.out
      obtain ⟨d0, d1, d2, d3⟩ := ncells KD5.out
      have hlo5 := blk_lt KOW5.out
      have hld5 := blk_lt KD5.out
      go_upto_region 16 with fail
      have hrw := HNW5.out.row
      rw [← HNL.out] at hrw
      have HRW := Lib.hid hrw
      have HNEO := Lib.hid (show some (w.heap.size + 1) ≠ (Value.slice aL nL cL).ownBlock from fun e => by have := (HRW.out.lt _ e.symm).1; omega)
      clear hrw
      go_wp2_with (at_builtin; refine wpList_append_lies _ rfl _ _ 33 rfl w2.heap.size 48 i0 (.agg #[.int .u64 0, .int .u32 0, .bool false, .slice none 0 0]) 4 40 Tryz.underlying33 HI.out HZ0.out HZ1.out HZ2.out rfl (by decide) (.slice aL nL cL) nL (xs.flatMap NdE.cs) rfl (ownsRow_below HRW.out (by repeat (first | (with_reducible first | exact .refl _ _ | refine .setCell ?_ ?_ _ | refine .alloc ?_ ?_ _ | refine .drewN ?_ _ | refine .drew ?_ | exact Nat.le_refl _) | (focus (simp only [World.size_alloc, World.size_setCell, World.size_drew, World.size_drewN]; omega)) | omega | exact Nat.le_refl _ | (focus (simp; done)) | (focus (simp; omega))))) ⟨w5.heap.size, 0, none⟩ 1 1 [.int .u64 nk, .int .u32 nc, .bool ng, .slice ad nd.length cd] rfl rfl (World.news_of_block (cs := #[.int .u64 nk, .int .u32 nc, .bool ng, .slice ad nd.length cd]) (t := 48) (fr := (0, 0)) (heap_new w5 _)) (by simp [Value.oneCell']) (by omega) (by unfold maxLen; omega) (by omega) (by simp; omega) _ rfl ?_; intro g' cap' w6 hown hgrow hat hlt6; have KO6 := Lib.hid ((hgrow.block (w.heap.size + 1) (by simp; omega) HNEO.out).trans (alloc_blk KOW5.out _)); have HG6 := Lib.hid hgrow; have HO6 := Lib.hid hown; have HA6 := Lib.hid hat; have hz6 := hgrow.size; simp only [World.size_alloc] at hz6; clear hgrow hown hat; obtain ⟨o0, o1, o2, o3⟩ := ncells KO6.out; obtain ⟨f0, f1, f2, f3⟩ := nfree KO6.out; have hlo6 := blk_lt KO6.out)
      obtain ⟨w7, hw7⟩ : ∃ w7 : World, w7 = w6.setCell ⟨w.heap.size + 1, 0, none⟩ (.slice (some ⟨g', 0, none⟩) (nL + 1) cap') := ⟨_, rfl⟩
      have hk7 : Keeps (fun k => k = w.heap.size + 1) w6 w7 := by rw [hw7]; exact (Keeps.refl (fun k => k = w.heap.size + 1) w6).setCell ⟨w.heap.size + 1, 0, none⟩ _ (fun _ => rfl)
      have KO7 := Lib.hid (show w7.heap[w.heap.size + 1]? = some (.cells #[.slice (some ⟨g', 0, none⟩) (nL + 1) cap', .int .u64 0, .bool false, .int .i64 bad] 35 (0, 0)) by
        rw [hw7]
        simpa using heap_setCell_same w6 (w.heap.size + 1) 0 _ _ (.slice (some ⟨g', 0, none⟩) (nL + 1) cap') KO6.out)
      rw [← hw7]
      clear hw7
      go_roundw
      case rel =>
        have hnw := HNW5.out.below (w' := w5.alloc (.cells #[.int .u64 nk, .int .u32 nc, .bool ng, .slice ad nd.length cd] 48)) (by repeat (first | (with_reducible first | exact .refl _ _ | refine .setCell ?_ ?_ _ | refine .alloc ?_ ?_ _ | refine .drewN ?_ _ | refine .drew ?_ | exact Nat.le_refl _) | (focus (simp only [World.size_alloc, World.size_setCell, World.size_drew, World.size_drewN]; omega)) | omega | exact Nat.le_refl _ | (focus (simp; done)) | (focus (simp; omega))))
        have hpu : NdRow 48 w6 w2.heap.size (.slice (some ⟨g', 0, none⟩) (nL + 1) cap') (xs ++ [⟨⟨nk, nc, ng, nd⟩, ad, cd⟩]) := hnw.push HNL.out HG6.out HO6.out (HA6.out.imp (fun e => e.symm) (fun e => by rw [e]; rfl)) (HE5.out.below (by repeat (first | (with_reducible first | exact .refl _ _ | refine .setCell ?_ ?_ _ | refine .alloc ?_ ?_ _ | refine .drewN ?_ _ | refine .drew ?_ | exact Nat.le_refl _) | (focus (simp only [World.size_alloc, World.size_setCell, World.size_drew, World.size_drewN]; omega)) | omega | exact Nat.le_refl _ | (focus (simp; done)) | (focus (simp; omega))))) HAE.out
        have hkw : Keeps (fun b => b = w.heap.size + 1 ∨ w2.heap.size ≤ b) w2 w6 := by
          refine Keeps.trans (HKW5.out.alloc (.cells #[.int .u64 nk, .int .u32 nc, .bool ng, .slice ad nd.length cd] 48)) ((grown_keeps HG6.out)) (fun i _ e => .inr ?_)
          exact (HRW.out.lt i e).1
        refine ⟨k + 1, .slice (some ⟨g', 0, none⟩) (nL + 1) cap', xs ++ [⟨⟨nk, nc, ng, nd⟩, ad, cd⟩], bad, by omega, by have := HKN.out; omega, by go_num, Keeps.trans hkw hk7 (fun i _ e => .inl e), KO7.out, hpu.keeps hk7 (fun k h1 _ e => by omega), ?_, ?_⟩
        · rw [HP1.out, List.map_append, HXS.out, HG0.out]
          rfl
        · rw [HP2.out, ← HBAD.out, HG0.out]
          rfl
      case measure => simp [intOf]; omega
    · have hj1 : ¬ (k : Int) < (LN : Int) := by omega
      have hj2 : decide ((k : Int) < (LN : Int)) = false := by simp; omega
      have hj3 : decide (k < LN) = false := by simp; omega
      obtain ⟨o0, o1, o2, o3⟩ := ncells KO.out
      obtain ⟨z0, z1, z2, z3⟩ := ncells KR.out
      obtain ⟨f0, f1, f2, f3⟩ := nfree KR.out
      have hlr := blk_lt KR.out
      have hlo := blk_lt KO.out
      go_wp2
      obtain ⟨wf, hwf⟩ : ∃ wf, wf = set4 wr w.heap.size (.slice aL nL cL) (.int .u64 0) (.bool false) (.int .i64 bad) := ⟨_, rfl⟩
      have HBF := Lib.hid (show Below w.heap.size w wf by rw [hwf]; exact HBR.out.trans (set4_below (Nat.le_refl _) _ _ _ _))
      have kbf := store4 (KR.out) (.slice aL nL cL) (.int .u64 0) (.bool false) (.int .i64 bad)
      have HNF := Lib.hid (show NdRow 48 wf w.heap.size (.slice aL nL cL) xs by
        rw [hwf]
        exact ((HNR.out).keeps (set4_keeps wr _ _ _ _ _) (fun k h1 _ e => by omega)).low hz2)
      rw [← hwf] at kbf
      obtain ⟨s0, s1, s2, s3⟩ := ncells kbf
      unfold set4 at hwf
      rw [← hwf]
      refine bodyPost_ret (v := ?_) ?_ rfl ?_
      rotate_left; (focus (simp [results, Tryz.results12, go_sem, s0, s1, s2, s3]; exact rfl))
      rw [HL.out]
      refine ⟨_, xs, ?_, ?_, HNF.out, HBF.out⟩
      · have h9 : ks[n]? = none := List.getElem?_eq_none (by rw [← HLN.out]; omega)
        have h8 : ks.take n = ks.take k := by rw [List.take_of_length_le (by rw [← HLN.out]; omega), List.take_of_length_le (by rw [← HLN.out]; omega)]
        rw [h9, h8, HBAD.out, show decide (n < ks.length) = false by rw [← HLN.out]; simp; omega]
        exact rfl
      · have h8 : ks.take n = ks.take k := by rw [List.take_of_length_le (by rw [← HLN.out]; omega), List.take_of_length_le (by rw [← HLN.out]; omega)]
        rw [h8]
        exact HXS.out
end Go.Proofs.YtmaalbbclldnpaaGreatDoor
