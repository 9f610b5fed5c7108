/- Joined texts: Scrub3, Scrub4. -/
import Derived.Test.YtnhangmcnciffaaGreatDoorSw17
import Derived.Test.YtnhangmcnciffaaGreatDoorSw19
import Derived.Test.YtnhangmcnciffaaGreatDoorSw15
import Derived.Test.YtnhangmcnciffaaGreatDoorSwStat2
/- Package scrub: Step at a volume in which nothing is wrong. -/
namespace Go.Proofs.YtnhangmcnciffaaGreatDoor
set_option maxRecDepth 100000
set_option maxHeartbeats 8000000
open Go.RowKit
def ScrAt (w : World) (sb vp : Nat) (nx : Int) (ov : Bool) (seen : Int) : Prop := w.heap[sb]? = some (.cells #[(.pointer (some ⟨vp, 0, none⟩)), .int .u64 nx, .bool ov, .int .i64 seen, .slice none 0 0] 131 (0, 0))
theorem ScrAt.over {w : World} {sb vp : Nat} {nx seen : Int} {ov : Bool} (h : ScrAt w sb vp nx ov seen) (b : Bool) : ScrAt (w.setCell ⟨sb, 2, none⟩ (.bool b)) sb vp nx b seen := by
  have := heap_setCell_same w sb 2 _ _ (.bool b) h
  simpa [ScrAt] using this
theorem ScrAt.next {w : World} {sb vp : Nat} {nx seen : Int} {ov : Bool} (h : ScrAt w sb vp nx ov seen) (x : Int) : ScrAt (w.setCell ⟨sb, 1, none⟩ (.int .u64 x)) sb vp x ov seen := by
  have := heap_setCell_same w sb 1 _ _ (.int .u64 x) h
  simpa [ScrAt] using this
structure VGood (w : World) (vp dp : Nat) (F : Nat → Prop) (K : Nat) (d : Dk) (v : Vl) : Prop where
  vf : VF w vp dp F K d v
  ok : ∀ p ∈ v.idx, v.wrong d p = 0
  le : ∀ p ∈ v.idx, p.len ≤ 4096 ∧ p.off ≤ 100000000
theorem VGood.keeps {w w' : World} {vp dp K : Nat} {F R : Nat → Prop} {d : Dk} {v : Vl} (h : VGood w vp dp F K d v) (hk : Keeps R w w') (hR : ∀ k, F k → ¬ R k) : VGood w' vp dp F K d v := ⟨h.vf.keeps hk hR, h.ok, h.le⟩
theorem VGood.look {w : World} {vp dp K : Nat} {F : Nat → Prop} {d : Dk} {v : Vl} (h : VGood w vp dp F K d v) {p : Ps} (hp : p ∈ v.idx) :
    Calls Tryz.prog 26 #[(.pointer (some ⟨vp, 0, none⟩)), psV p] w fun e w' => e = .returned .nilIface ∧ Below w.heap.size w w' := by
  obtain ⟨ix, vx, P, g1, g2, g4⟩ := h.vf.at'
  refine (look_any g1 g2 g4.names g4.long.1 p (h.le p hp).1 (by have := (h.le p hp).2; omega)).mono ?_
  rintro e w' ⟨ev, rfl, he, hb⟩
  refine ⟨?_, hb⟩
  rw [h.ok p hp] at he
  rcases he with ⟨-, rfl⟩ | ⟨h1, -⟩
  · rfl
  · cases h1
def StepTo (w : World) (sb vp : Nat) (n : Int) (LN : Nat) (e : Ending) (w' : World) : Prop := ∃ ov nx, e = .returned (.tuple #[.bool ov, .nilIface]) ∧ ((LN : Int) < n → ov = true) ∧ ScrAt w' sb vp nx ov LN ∧ Keeps (fun b => b = sb) w w'
theorem step_good {w : World} {vp dp sb K : Nat} {F : Nat → Prop} {d : Dk} {v : Vl} (h : VGood w vp dp F K d v) (hs : ScrAt w sb vp 0 false 0) (hF : ¬ F sb) (n : Int) (hn : 1 ≤ n) (hl : (v.keys 0 n).length ≤ 4096) :
    Calls Tryz.prog 23 #[(.pointer (some ⟨sb, 0, none⟩)), .int .i64 n] w (StepTo w sb vp n (v.keys 0 n).length) := by
  have HV := Lib.hid h
  have HKY := Lib.hid (show ∀ w0 : World, Below w.heap.size w w0 → Calls Tryz.prog 45 #[(.pointer (some ⟨vp, 0, none⟩)), .int .u64 0, .int .i64 n] w0 fun e w' => ∃ v', e = .returned v' ∧ w'.ownsRow w0.heap.size 71 5 v' (v.keys 0 n).length ((v.keys 0 n).flatMap psC) ∧ Below w0.heap.size w0 w' from fun w0 hb => by
    obtain ⟨ix, vx, P, g1, g2, g4⟩ := h.vf.at'
    exact keys_any (g1.below hb) 0 n)
  have HMEM := Lib.hid (fun (p : Ps) (hp : p ∈ v.keys 0 n) => keys_mem hp)
  obtain ⟨ks, hks⟩ : ∃ ks, ks = v.keys 0 n := ⟨_, rfl⟩
  rw [← hks] at HKY HMEM hl
  rw [← hks]
  obtain ⟨LN, hLN⟩ : ∃ LN, LN = ks.length := ⟨_, rfl⟩
  have HLN := Lib.hid hLN
  rw [← hLN] at HKY hl
  rw [← hLN]
  have HS := Lib.hid hs
  have hsw : sb < w.heap.size := blk_lt hs
  obtain ⟨s0, s1, s2, s3, s4⟩ := cells5t hs
  obtain ⟨f0, f1, f2, f3, f4⟩ := free5 hs
  clear h hs hks hLN
  have d1 : decide (n < 1) = false := by simp; omega
  go_enter Tryz.func23, Tryz.ntmps23
  go_upto_region 7 with fail
  refine wp_region_now [3, 7] [(0, 0), (1, 0), (2, 0), (3, 2), (4, 0), (5, 0), (6, 0), (7, 2), (8, 0), (9, 1), (10, 0)] (by kernel_rfl) (by kernel_rfl) rfl (by kernel_rfl) (fun c a d v w h => by cases d <;> exact h) ?_
  refine stepE0 rfl rfl fun K hK => ?_; go_simp; refine hK _ ?_; clear hK K; refine stepE0 rfl rfl fun K hK => ?_; go_simp; refine hK _ ?_; clear hK K; refine stepE0 rfl rfl fun K hK => ?_; go_simp; refine hK _ ?_; clear hK K; refine stepE2 rfl rfl ?_ (fun w1 hS => ?_) fun K hK => ?_; rotate_left; (focus (obtain rfl : w1 = _ := hS; go_simp; rfl)); go_simp; refine hK _ ?_; clear hK K; refine stepE0 rfl rfl fun K hK => ?_; go_simp; refine hK _ ?_; clear hK K; refine stepE0 rfl rfl fun K hK => ?_; go_simp; refine hK _ ?_; clear hK K; refine stepE0 rfl rfl fun K hK => ?_; go_simp; refine hK _ ?_; clear hK K; refine stepE2 rfl rfl ?_ (fun w1 hS => ?_) fun K hK => ?_; rotate_left; (focus (obtain rfl : w1 = _ := hS; go_simp; rfl)); go_simp; refine hK _ ?_; clear hK K; refine stepE0 rfl rfl fun K hK => ?_; go_simp; refine hK _ ?_; clear hK K; refine stepE1 rfl rfl (by kernel_rfl) fun K hK => ?_
  go_wp2_with fail; refine (HKY.out _ (Below.drew (Below.refl _ _))).mono ?_; rintro e w2 ⟨vk, rfl, hok, hb⟩; go_wp2
  refine stepE0 rfl rfl fun K hK => ?_; go_simp; refine hK _ ?_; clear hK K
  try refine stepEnil ?_
  have HB2 := Lib.hid (show Below w.heap.size w w2 from (Below.drew (Below.refl _ _)).trans hb)
  have HKR := Lib.hid hok
  have HS2 := Lib.hid (show ScrAt w2 sb vp 0 false 0 from blk_below' HS.out HB2.out)
  obtain ⟨ak, ck, rfl, hck⟩ := slice_of hok
  have hz2 := HB2.out.size
  clear hb hok s0 s1 s2 s3 s4 f0 f1 f2 f3 f4
  go_wp2_with fail
  go_loopw [37] (fun i wr => ∃ k : Nat, k ≤ LN ∧ i = .int .i64 k ∧ Keeps (fun b => b = sb) w2 wr ∧ ScrAt wr sb vp 0 false k) (fun i _ => LN - (intOf i).toNat)
  case atStart => exact ⟨0, Nat.zero_le _, rfl, Keeps.refl _ _, HS2.out⟩
  case round =>
    obtain ⟨k, hk, rfl, hkp, hsr⟩ := hrel
    have HKP := Lib.hid hkp
    have HSR := Lib.hid hsr
    have hzr := hkp.size
    have hsr' : sb < wr.heap.size := blk_lt hsr
    obtain ⟨s0, s1, s2, s3, s4⟩ := cells5t hsr
    obtain ⟨f0, f1, f2, f3, f4⟩ := free5 hsr
    have HKW := Lib.hid (show Keeps (fun b => b = sb) w wr from (keeps_below (fun b => b = sb) HB2.out).trans hkp (fun _ _ e => e))
    clear hkp hsr
    by_cases hlt : k < LN
    · obtain ⟨⟨pk, po, pl, pc, pg⟩, hp⟩ : ∃ p, ks[k]? = some p := ⟨_, List.getElem?_eq_getElem (by rw [← HLN.out]; exact hlt)⟩
      have hkr : wr.ownsRow w.drew.heap.size 71 5 (.slice ak LN ck) LN (ks.flatMap psC) := ownsRow_keeps HKR.out HKP.out (fun g e e' => by have := HKR.out.lt g e; have h0 : w.heap.size ≤ g ∧ g < w2.heap.size := (by simpa using this); have e2 : g = sb := e'; omega)
      obtain ⟨g, hg⟩ : ∃ g, ak = some ⟨g, 0, none⟩ := by
        rcases hkr.2 with ⟨_, h0⟩ | ⟨g, cap, cur, e, _⟩
        · omega
        · exact ⟨g, (sl_inj e).1⟩
      subst hg
      obtain ⟨r0, r1, r2, r3, r4⟩ := row_at hkr hp
      have HIN := Lib.hid (HMEM.out _ (List.mem_of_getElem? hp))
      have hj0 : (0 : Int) ≤ (k : Int) := by omega
      have hj1 : (k : Int) < (LN : Int) := by omega
      clear hp hkr
      go_upto_region 11 with fail
      obtain ⟨w3, hw3⟩ : ∃ w3 : World, w3 = wr.alloc (.cells #[.int .u64 pk, .int .i64 po, .int .i64 pl, .int .u32 pc, .bool pg] 71) := ⟨_, rfl⟩
      have hb3 : Below wr.heap.size wr w3 := by rw [hw3]; exact (by repeat (first | (with_reducible first | exact .refl _ _ | refine .setCell ?_ ?_ _ | refine .alloc ?_ ?_ _ | refine .drewN ?_ _ | refine .drew ?_ | exact Nat.le_refl _) | (focus (simp only [World.size_alloc, World.size_setCell, World.size_drew, World.size_drewN]; omega)) | omega | exact Nat.le_refl _ | (focus (simp; done)) | (focus (simp; omega))))
      have KP3 := Lib.hid (show w3.heap[wr.heap.size]? = some (.cells #[.int .u64 pk, .int .i64 po, .int .i64 pl, .int .u32 pc, .bool pg] 71 (0, 0)) by rw [hw3]; exact heap_new wr _)
      have HS3 := Lib.hid (show ScrAt w3 sb vp 0 false k from blk_below' HSR.out hb3)
      have HK3 := Lib.hid (show Keeps (fun b => b = sb) w2 w3 from HKP.out.trans (keeps_below (fun b => b = sb) hb3) (fun _ _ e => e))
      rw [← hw3]
      clear hw3 hb3 s0 s1 s2 s3 s4 f0 f1 f2 f3 f4 r0 r1 r2 r3 r4
      obtain ⟨PB, hPB⟩ : ∃ PB, PB = wr.heap.size := ⟨_, rfl⟩
      rw [← hPB] at KP3 ⊢
      have hPS : sb < PB := by omega
      clear hPB
      obtain ⟨s0, s1, s2, s3, s4⟩ := cells5t HS3.out
      obtain ⟨f0, f1, f2, f3, f4⟩ := free5 HS3.out
      have hs3 : sb < w3.heap.size := blk_lt HS3.out
      have hwk : IntKind.i64.wrap ((k : Int) + 1) = ((k + 1 : Nat) : Int) := by rw [IntKind.wrap_i64]; omega
      go_upto_region 12 with fail
      obtain ⟨w4, hw4⟩ : ∃ w4 : World, w4 = w3.setCell ⟨sb, 3, none⟩ (.int .i64 ((k : Int) + 1)) := ⟨_, rfl⟩
      have hk4 : Keeps (fun b => b = sb) w3 w4 := by rw [hw4]; exact (Keeps.refl (fun b => b = sb) w3).setCell ⟨sb, 3, none⟩ (.int .i64 ((k : Int) + 1)) (fun _ => rfl)
      have HS4 := Lib.hid (show ScrAt w4 sb vp 0 false ((k : Int) + 1) by
        have := heap_setCell_same w3 sb 3 _ _ (.int .i64 ((k : Int) + 1)) HS3.out
        rw [hw4]
        simpa [ScrAt] using this)
      have KP4 := Lib.hid ((hk4.block PB (blk_lt KP3.out) (by omega)).trans KP3.out)
      have HK4 := Lib.hid (show Keeps (fun b => b = sb) w2 w4 from HK3.out.trans hk4 (fun _ _ e => e))
      have HV4 := Lib.hid (HV.out.keeps (w' := w4.drew) (((keeps_below (fun b => b = sb) HB2.out).trans HK4.out (fun _ _ e => e)).drew) (fun k hk e => hF (e ▸ hk)))
      rw [← hw4]
      clear hw4 hk4 s0 s1 s2 s3 s4 f0 f1 f2 f3 f4
      obtain ⟨s0, s1, s2, s3, s4⟩ := cells5t HS4.out
      obtain ⟨t0, t1, t2, t3, t4⟩ := pcells KP4.out
      have hs4 : sb < w4.heap.size := blk_lt HS4.out
      have hp4 : PB < w4.heap.size := blk_lt KP4.out
      have HLK := Lib.hid (HV4.out.look HIN.out)
      unfold psV at HLK
      simp only at HLK
      refine wp_region_now [3, 4] [(0, 0), (1, 0), (2, 0), (3, 2), (4, 2), (5, 1), (6, 0)] (by kernel_rfl) (by kernel_rfl) rfl (by kernel_rfl) (fun c a d v w h => by cases d <;> exact h) ?_
      refine stepE0 rfl rfl fun K hK => ?_; go_simp; refine hK _ ?_; clear hK K; refine stepE0 rfl rfl fun K hK => ?_; go_simp; refine hK _ ?_; clear hK K; refine stepE0 rfl rfl fun K hK => ?_; go_simp; refine hK _ ?_; clear hK K; refine stepE2 rfl rfl ?_ (fun w1 hS => ?_) fun K hK => ?_; rotate_left; (focus (obtain rfl : w1 = _ := hS; go_simp; rfl)); go_simp; refine hK _ ?_; clear hK K; refine stepE2 rfl rfl ?_ (fun w1 hS => ?_) fun K hK => ?_; rotate_left; (focus (obtain rfl : w1 = _ := hS; go_simp; rfl)); go_simp; refine hK _ ?_; clear hK K; refine stepE1 rfl rfl (by kernel_rfl) fun K hK => ?_
      go_wp2_with fail; refine HLK.out.mono ?_; rintro e w5 ⟨rfl, hb⟩; go_wp2
      refine stepE0 rfl rfl fun K hK => ?_; go_simp; refine hK _ ?_; clear hK K
      try refine stepEnil ?_
      have HK5 := Lib.hid (show Keeps (fun b => b = sb) w2 w5 from HK4.out.trans ((keeps_below (fun b => b = sb) ((Below.drew (Below.refl _ _)).trans hb))) (fun _ _ e => e))
      have HS5 := Lib.hid (show ScrAt w5 sb vp 0 false ((k : Int) + 1) from blk_below' HS4.out ((Below.drew (Below.refl _ _)).trans hb))
      clear hb
      go_wp2_with fail
      go_roundw
      case rel =>
        refine ⟨k + 1, by omega, by go_num, HK5.out, ?_⟩
        have := HS5.out
        push_cast
        exact this
      case measure => simp [intOf]; omega
    · have hj1 : ¬ (k : Int) < (LN : Int) := by omega
      obtain rfl : k = LN := by omega
      have hj2 : decide ((k : Int) < (k : Int)) = false := by simp
      have hsn : ∀ (w0 : World) (u : Value) (o : Nat), Keeps (fun b => b = sb) w0 (w0.setCell ⟨sb, o, none⟩ u) := fun w0 u o => (Keeps.refl (fun b => b = sb) w0).setCell ⟨sb, o, none⟩ u (fun _ => rfl)
      have HSN := Lib.hid hsn
      have hkr : wr.ownsRow w.drew.heap.size 71 5 (.slice ak k ck) k (ks.flatMap psC) := ownsRow_keeps HKR.out HKP.out (fun g e e' => by have := HKR.out.lt g e; have h0 : w.heap.size ≤ g ∧ g < w2.heap.size := (by simpa using this); have e2 : g = sb := e'; omega)
      have HKRR := Lib.hid hkr
      have hkb : ∀ g, (Value.slice ak k ck).ownBlock = some g → g ≠ sb := fun g e e2 => by
        have := HKR.out.lt g e
        have h0 : w.heap.size ≤ g ∧ g < w2.heap.size := (by simpa using this)
        omega
      have HKB := Lib.hid hkb
      clear hsn hkr hkb
      rcases Nat.eq_zero_or_pos k with hk0 | hk0
      · subst hk0
        by_cases hov : (0 : Int) < n
        · go_wp2_with fail
          refine bodyPost_ret (v := ?_) ?_ rfl ?_
          rotate_left; (focus (simp [results, Tryz.results23, go_sem]; exact rfl))
          refine ⟨true, 0, rfl, fun _ => rfl, HSR.out.over true, HKW.out.trans (HSN.out wr _ 2) (fun _ _ e => e)⟩
        · omega
      · obtain ⟨m, rfl⟩ : ∃ m, k = m + 1 := ⟨k - 1, by omega⟩
        obtain ⟨⟨pk, po, pl, pc, pg⟩, hp⟩ : ∃ p, ks[m]? = some p := ⟨_, List.getElem?_eq_getElem (by rw [← HLN.out]; omega)⟩
        have hkr := HKRR.out
        obtain ⟨g, hg⟩ : ∃ g, ak = some ⟨g, 0, none⟩ := by
          rcases hkr.2 with ⟨_, h0⟩ | ⟨g, cap, cur, e, _⟩
          · omega
          · exact ⟨g, (sl_inj e).1⟩
        subst hg
        obtain ⟨r0, r1, r2, r3, r4⟩ := row_at hkr hp
        have hgs : ¬ g = sb := HKB.out g rfl
        have hm0 : (0 : Int) ≤ (m : Int) := by omega
        have hm1 : (m : Int) < (m : Int) + 1 := by omega
        have hm2 : (0 : Int) < (m : Int) + 1 := by omega
        clear hp hkr
        by_cases hov : ((m : Int) + 1 < n)
        · go_wp2_with fail
          refine bodyPost_ret (v := ?_) ?_ rfl ?_
          rotate_left; (focus (simp [results, Tryz.results23, go_sem]; exact rfl))
          refine ⟨true, IntKind.u64.wrap ((pk : Int) + 1), rfl, fun _ => rfl, ((HSR.out.over true).over true).next (IntKind.u64.wrap ((pk : Int) + 1)), ((HKW.out.trans (HSN.out _ _ 2) (fun _ _ e => e)).trans (HSN.out _ _ 2) (fun _ _ e => e)).trans (HSN.out _ _ 1) (fun _ _ e => e)⟩
        · have hov2 : n ≤ (m : Int) + 1 := by omega
          by_cases hpm : (pk : Int) = 18446744073709551615
          · have hpm2 : ((pk : Int) == 18446744073709551615) = true := by simpa using hpm
            clear hpm
            go_wp2_with fail
            refine bodyPost_ret (v := ?_) ?_ rfl ?_
            rotate_left; (focus (simp [results, Tryz.results23, go_sem]; exact rfl))
            refine ⟨true, IntKind.u64.wrap ((pk : Int) + 1), rfl, fun _ => rfl, ((HSR.out.over false).over true).next (IntKind.u64.wrap ((pk : Int) + 1)), ((HKW.out.trans (HSN.out _ _ 2) (fun _ _ e => e)).trans (HSN.out _ _ 2) (fun _ _ e => e)).trans (HSN.out _ _ 1) (fun _ _ e => e)⟩
          · have hpm2 : ((pk : Int) == 18446744073709551615) = false := by simpa using hpm
            clear hpm
            go_wp2_with fail
            refine bodyPost_ret (v := ?_) ?_ rfl ?_
            rotate_left; (focus (simp [results, Tryz.results23, go_sem]; exact rfl))
            refine ⟨false, IntKind.u64.wrap ((pk : Int) + 1), rfl, fun h => absurd h (by omega), ((HSR.out.over false).over false).next (IntKind.u64.wrap ((pk : Int) + 1)), ((HKW.out.trans (HSN.out _ _ 2) (fun _ _ e => e)).trans (HSN.out _ _ 2) (fun _ _ e => e)).trans (HSN.out _ _ 1) (fun _ _ e => e)⟩
end Go.Proofs.YtnhangmcnciffaaGreatDoor

/- Package scrub: New, Bad, Seen, All at a volume in which nothing is wrong. -/
namespace Go.Proofs.YtnhangmcnciffaaGreatDoor
set_option maxRecDepth 100000
set_option maxHeartbeats 8000000
open Go.RowKit
theorem scrnew_any (vp : Nat) (w : World) : Calls Tryz.prog 22 #[(.pointer (some ⟨vp, 0, none⟩))] w fun e w' => e = .returned (.tuple #[(.pointer (some ⟨w.heap.size, 0, none⟩)), .nilIface]) ∧ ScrAt w' w.heap.size vp 0 false 0 ∧ Below w.heap.size w w' := by
  go_enter Tryz.func22, Tryz.ntmps22
  go_wp2_with fail
  refine bodyPost_ret (v := ?_) ?_ rfl ?_
  rotate_left; (focus (simp [results, Tryz.results22, go_sem]; exact rfl))
  exact ⟨rfl, heap_new w _, (Below.refl _ _).alloc (Nat.le_refl _) _⟩
theorem scrnew_nil (w : World) : Calls Tryz.prog 22 #[.pointer none] w fun e w' => e = .returned (.tuple #[.pointer none, errV 15]) ∧ w = w' := by
  go_enter Tryz.func22, Tryz.ntmps22
  go_wp2_with fail
  refine bodyPost_ret (v := ?_) ?_ rfl ?_
  rotate_left; (focus (simp [results, Tryz.results22, go_sem]; exact rfl))
  exact ⟨rfl, rfl⟩
theorem cloneBad_nil (w : World) : Calls Tryz.prog 66 #[.slice none 0 0] w fun e w' => e = .returned (.slice none 0 0) ∧ w = w' := by
  have hne := fun (wx : World) => Lib.run_eql_slice_nil (P := Tryz.prog) wx 66 133 none 0 0 0 0 Tryz.underlying66
  go_enter Tryz.func66, Tryz.ntmps66
  go_wp2
  go_ret
  exact ⟨rfl, rfl⟩
theorem scrbad_any {w : World} {sb vp : Nat} {nx seen : Int} {ov : Bool} (h : ScrAt w sb vp nx ov seen) : Calls Tryz.prog 27 #[(.pointer (some ⟨sb, 0, none⟩))] w fun e w' => e = .returned (.slice none 0 0) ∧ w = w' := by
  obtain ⟨s0, s1, s2, s3, s4⟩ := cells5t h
  have hlt : sb < w.heap.size := blk_lt h
  go_enter Tryz.func27, Tryz.ntmps27
  go_wp2_with fail
  refine (cloneBad_nil w).mono ?_
  rintro e wx ⟨rfl, rfl⟩
  go_wp2_with fail
  go_ret
  exact ⟨rfl, rfl⟩
theorem scrseen_any {w : World} {sb vp : Nat} {nx seen : Int} {ov : Bool} (h : ScrAt w sb vp nx ov seen) : Calls Tryz.prog 24 #[(.pointer (some ⟨sb, 0, none⟩))] w fun e w' => e = .returned (.int .i64 seen) ∧ w = w' := by
  obtain ⟨s0, s1, s2, s3, s4⟩ := cells5t h
  have hlt : sb < w.heap.size := blk_lt h
  go_enter Tryz.func24, Tryz.ntmps24
  go_wp2_with fail
  go_ret
  exact ⟨rfl, rfl⟩
theorem step_bad {w : World} {sb vp : Nat} {nx seen : Int} (h : ScrAt w sb vp nx false seen) (n : Int) (hn : n < 1) : Calls Tryz.prog 23 #[(.pointer (some ⟨sb, 0, none⟩)), .int .i64 n] w fun e w' => e = .returned (.tuple #[.bool false, errV 1]) ∧ w = w' := by
  obtain ⟨s0, s1, s2, s3, s4⟩ := cells5t h
  have hlt : sb < w.heap.size := blk_lt h
  have d1 : decide (n < 1) = true := by simp; omega
  go_enter Tryz.func23, Tryz.ntmps23
  go_wp2_with fail
  refine bodyPost_ret (v := ?_) ?_ rfl ?_
  rotate_left; (focus (simp [results, Tryz.results23, go_sem]; exact rfl))
  exact ⟨rfl, rfl⟩
theorem scrall_any {w : World} {vp dp K : Nat} {F : Nat → Prop} {d : Dk} {v : Vl} (h : VGood w vp dp F K d v) (hl : v.idx.length ≤ 100) : Calls Tryz.prog 25 #[(.pointer (some ⟨vp, 0, none⟩))] w fun e w' => e = .returned (.tuple #[.slice none 0 0, .nilIface]) ∧ Below w.heap.size w w' := by
  have HV := Lib.hid h
  have hkl : (v.keys 0 4096).length ≤ 100 := by
    unfold Vl.keys
    rw [if_neg (by omega)]
    simp only [List.length_take, List.length_drop]
    omega
  have HKL := Lib.hid hkl
  clear h hkl
  go_enter Tryz.func25, Tryz.ntmps25
  go_wp2_with fail
  refine (scrnew_any vp w).mono ?_
  rintro e w1 ⟨rfl, hs, hb⟩
  have HS1 := Lib.hid hs
  have HB1 := Lib.hid hb
  have hz1 := hb.size
  clear hs hb
  obtain ⟨sb, hsb⟩ : ∃ sb, sb = w.heap.size := ⟨_, rfl⟩
  rw [← hsb] at HS1 ⊢
  have HST := Lib.hid (step_good (HV.out.keeps (w' := w1) (R := fun _ => False) (keeps_below _ HB1.out) (fun _ _ h => h)) HS1.out (fun e => by have := HV.out.vf.lt sb e; omega) 4096 (by omega) (by have := HKL.out; omega))
  have HSB := Lib.hid hsb
  clear hsb
  go_upto_region 3 with fail
  refine wp_loop_rounds 2 ?_
  rw [rounds_succ]
  go_wp2_with fail
  refine HST.out.mono ?_
  rintro e w2 ⟨ov, nx, rfl, hov, hs, hk⟩
  obtain rfl : ov = true := hov (by have := HKL.out; omega)
  have HS2 := Lib.hid hs
  have HB2 := Lib.hid (show Below w.heap.size w w2 from HB1.out.trans (hk.below hz1 (fun k e => by have := HSB.out; have e' : k = sb := e; omega)))
  clear hov hs hk
  go_wp2_with fail
  rw [rounds_succ]
  go_wp2_with fail
  refine (scrbad_any HS2.out).mono ?_
  rintro e wx ⟨rfl, rfl⟩
  go_wp2_with fail
  refine bodyPost_ret (v := ?_) ?_ rfl ?_
  rotate_left; (focus (simp [results, Tryz.results25, go_sem]; exact rfl))
  exact ⟨rfl, HB2.out⟩
end Go.Proofs.YtnhangmcnciffaaGreatDoor
