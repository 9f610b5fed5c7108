/- The directory's map: Replay, and what many commands come to. -/
import Derived.Test.YtigkcbnlbdiimaaDirs5
namespace Go.Proofs.Ytigkcbnlbdiimaa
open Go.RowKit
def doAll (es : List Ent) (cs : List Cmd) : List Ent := cs.foldl doEs es
def okN (k : Nat) : Nat := if k = 0 then 1 else 0
theorem okN_le (k : Nat) : okN k ≤ 1 := by unfold okN; split <;> omega
def cntAll (es : List Ent) : List Cmd → Nat
  | [] => 0
  | c :: cs => okN (doK es c) + cntAll (doEs es c) cs
theorem doAll_snoc (es : List Ent) (cs : List Cmd) (c : Cmd) : doAll es (cs ++ [c]) = doEs (doAll es cs) c := by simp [doAll]
theorem cntAll_snoc (es : List Ent) (cs : List Cmd) (c : Cmd) : cntAll es (cs ++ [c]) = cntAll es cs + okN (doK (doAll es cs) c) := by
  induction cs generalizing es with
  | nil => simp [cntAll, doAll]
  | cons d cs ih => simp only [List.cons_append, cntAll, ih]; simp only [doAll, List.foldl_cons]; omega
theorem doAll_append (es : List Ent) (cs ds : List Cmd) : doAll es (cs ++ ds) = doAll (doAll es cs) ds := by simp [doAll]
theorem cntAll_append (es : List Ent) (cs ds : List Cmd) : cntAll es (cs ++ ds) = cntAll es cs + cntAll (doAll es cs) ds := by
  induction cs generalizing es with
  | nil => simp [cntAll, doAll]
  | cons d cs ih => simp only [List.cons_append, cntAll, ih]; simp only [doAll, List.foldl_cons]; omega
theorem cntAll_le (es : List Ent) (cs : List Cmd) : cntAll es cs ≤ cs.length := by
  induction cs generalizing es with
  | nil => exact Nat.le_refl _
  | cons d cs ih =>
    have := ih (doEs es d)
    have := okN_le (doK es d)
    simp only [cntAll, List.length_cons]
    omega
theorem good_all (cs : List Cmd) : ∀ (E : Int) (es : List Ent), Good E es → 1 ≤ E → E + cs.length ≤ 1000000 → Good (E + cs.length) (doAll es cs) := by
  induction cs with
  | nil => intro E es h _ _; simpa [doAll] using h
  | cons c cs ih =>
    intro E es h h1 h2
    simp only [List.length_cons] at h2 ⊢
    have := ih (E + 1) (doEs es c) (good_do E es c h h1 (by omega)) (by omega) (by omega)
    rw [show E + ((cs.length + 1 : Nat) : Int) = E + 1 + cs.length by omega]
    exact this
theorem take_snoc_get {α : Type} (l : List α) (k : Nat) (x : α) (hx : l[k]? = some x) : l.take (k + 1) = l.take k ++ [x] := by
  obtain ⟨hk, hx'⟩ := List.getElem?_eq_some_iff.1 hx
  rw [List.take_succ_eq_append_getElem hk, hx']
theorem Keeps.of_low {F : Nat → Prop} {w0 w w' : World} (h : Keeps F w w') (hb : Below w0.heap.size w0 w) (hF : ∀ k, F k → w0.heap.size ≤ k) : Below w0.heap.size w0 w' :=
  hb.trans (h.below hb.size hF)
set_option maxRecDepth 100000 in
set_option maxHeartbeats 2000000 in
theorem replay_any (ao : Option Addr) (n cap : Nat) (cs : List Cmd) (w : World) (hl : cs.length = n) (hn : n ≤ 1000000) (hA : 0 < n → ∃ b off, ao = some ⟨b, off, none⟩ ∧ b < w.heap.size ∧ CmdsAt w b off cs) :
    Calls Try.prog 22 #[.slice ao n cap] w fun e w' => e = .returned (.tuple #[.pointer (some ⟨w.heap.size, 0, none⟩), .int .i64 (cntAll [] cs : Nat)]) ∧ (∃ v, MapAt w' w.heap.size w.heap.size v (doAll [] cs)) ∧ Below w.heap.size w w' := by
  have HL := Lib.hid hl
  have HA := Lib.hid hA
  clear hl hA
  go_enter Try.func22, Try.ntmps22
  go_wp2_with fail
  refine (new_any _).mono ?_
  rintro e w2 ⟨rfl, rfl⟩
  have HM0 := Lib.hid (MapAt.made w w.heap.size (Nat.le_refl _))
  go_wp2_with fail
  go_loopw [5, 13] (fun t i wr => ∃ k : Nat, k ≤ n ∧ i = .int .i64 k ∧ t = .int .i64 (cntAll [] (cs.take k) : Nat) ∧ (∃ v, MapAt wr w.heap.size w.heap.size v (doAll [] (cs.take k))) ∧ Below w.heap.size w wr) (fun _ i _ => n - (intOf i).toNat)
  case atStart => exact ⟨0, Nat.zero_le _, rfl, rfl, ⟨_, HM0.out⟩, (by repeat (first | (with_reducible exact Below.refl _ _) | (with_reducible refine Below.setCell ?_ ?_ _) | (with_reducible refine Below.alloc ?_ ?_ _) | (with_reducible refine Below.drewN ?_ _) | (with_reducible refine Below.drew ?_) | (with_reducible exact Nat.le_refl _) | (focus (simp only [World.size_alloc, World.size_setCell, World.size_drew, World.size_drewN]; omega)) | omega | exact Nat.le_refl _ | (focus (simp; done)) | (focus (simp; omega))))⟩
  case round =>
    obtain ⟨k, hk, rfl, rfl, ⟨v, hm⟩, hbw⟩ := hrel
    have HM := Lib.hid hm
    have HBW := Lib.hid hbw
    have hzr := hbw.size
    clear hm hbw
    by_cases hlt : k < n
    · obtain ⟨c, hc⟩ : ∃ c, cs[k]? = some c := ⟨_, List.getElem?_eq_getElem (by rw [HL.out]; exact hlt)⟩
      obtain ⟨b, off, rfl, hb, hC⟩ := HA.out (by omega)
      obtain ⟨q0, q1, q2, q3, q4, q5, q6, q7⟩ := hC k c hc
      clear hC
      have k0 := (HBW.out.cell (p := ⟨b, off + k * 8, none⟩) hb).trans q0
      have k1 := (HBW.out.cell (p := ⟨b, off + k * 8 + 1, none⟩) hb).trans q1
      have k2 := (HBW.out.cell (p := ⟨b, off + k * 8 + 2, none⟩) hb).trans q2
      have k3 := (HBW.out.cell (p := ⟨b, off + k * 8 + 3, none⟩) hb).trans q3
      have k4 := (HBW.out.cell (p := ⟨b, off + k * 8 + 4, none⟩) hb).trans q4
      have k5 := (HBW.out.cell (p := ⟨b, off + k * 8 + 5, none⟩) hb).trans q5
      have k6 := (HBW.out.cell (p := ⟨b, off + k * 8 + 6, none⟩) hb).trans q6
      have k7 := (HBW.out.cell (p := ⟨b, off + k * 8 + 7, none⟩) hb).trans q7
      have hbr : b < wr.heap.size := by omega
      have HT := Lib.hid (take_snoc_get cs k c hc)
      have HCS := Lib.hid (cntAll_snoc [] (cs.take k) c)
      have HDS := Lib.hid (doAll_snoc [] (cs.take k) c)
      have HLE := Lib.hid (cntAll_le [] (cs.take k))
      have hcl : (cntAll [] (cs.take k) : Int) ≤ 1000000 := by
        have := HLE.out
        simp at this
        omega
      have hcl0 : (0 : Int) ≤ (cntAll [] (cs.take k) : Int) := by omega
      clear hc q0 q1 q2 q3 q4 q5 q6 q7
      generalize cntAll [] (cs.take k) = t at *
      generalize doAll [] (cs.take k) = es at *
      by_cases hk0 : doK es c = 0
      · have HK0 := Lib.hid hk0
        clear hk0
        obtain ⟨nd, hnd⟩ : ∃ nd, doN es c = nd := ⟨_, rfl⟩
        have HND := Lib.hid hnd
        clear hnd
        go_wp2_with fail
        refine (do_at w.heap.size w.heap.size v es _ c nd 0 _ (HM.out.below (by repeat (first | (with_reducible exact Below.refl _ _) | (with_reducible refine Below.setCell ?_ ?_ _) | (with_reducible refine Below.alloc ?_ ?_ _) | (with_reducible refine Below.drewN ?_ _) | (with_reducible refine Below.drew ?_) | (with_reducible exact Nat.le_refl _) | (focus (simp only [World.size_alloc, World.size_setCell, World.size_drew, World.size_drewN]; omega)) | omega | exact Nat.le_refl _ | (focus (simp; done)) | (focus (simp; omega))))) rfl HND.out (by rw [HK0.out]; rfl)).mono ?_
        rintro e w4 hd
        have HU := Lib.hid (hd.under (w0 := w) (HM.out.below (by repeat (first | (with_reducible exact Below.refl _ _) | (with_reducible refine Below.setCell ?_ ?_ _) | (with_reducible refine Below.alloc ?_ ?_ _) | (with_reducible refine Below.drewN ?_ _) | (with_reducible refine Below.drew ?_) | (with_reducible exact Nat.le_refl _) | (focus (simp only [World.size_alloc, World.size_setCell, World.size_drew, World.size_drewN]; omega)) | omega | exact Nat.le_refl _ | (focus (simp; done)) | (focus (simp; omega))))) (Nat.le_refl _) (HBW.out.alloc hzr _))
        obtain ⟨rfl, v4, hm4, _, _⟩ := hd
        have HM4 := Lib.hid hm4
        clear hm4
        rw [errV_zero]
        go_wp2_with fail
        go_roundw
        case rel => exact ⟨k + 1, by omega, by go_num, by rw [HT.out, HCS.out, okN, if_pos HK0.out]; go_num, ⟨v4, by rw [HT.out, HDS.out]; exact HM4.out⟩, HU.out⟩
        case measure => simp [intOf]; omega
      · have hkz : (doK es c : Int) ≠ 0 := by omega
        have HK0 := Lib.hid hk0
        clear hk0
        obtain ⟨nd, hnd⟩ : ∃ nd, doN es c = nd := ⟨_, rfl⟩
        have HND := Lib.hid hnd
        obtain ⟨kd, hkd⟩ : ∃ kd : Int, (doK es c : Int) = kd := ⟨_, rfl⟩
        rw [hkd] at hkz
        have HKD := Lib.hid hkd
        have HKZ := Lib.hid hkz
        clear hnd hkd hkz
        go_wp2_with fail
        refine (do_at w.heap.size w.heap.size v es _ c nd kd _ (HM.out.below (by repeat (first | (with_reducible exact Below.refl _ _) | (with_reducible refine Below.setCell ?_ ?_ _) | (with_reducible refine Below.alloc ?_ ?_ _) | (with_reducible refine Below.drewN ?_ _) | (with_reducible refine Below.drew ?_) | (with_reducible exact Nat.le_refl _) | (focus (simp only [World.size_alloc, World.size_setCell, World.size_drew, World.size_drewN]; omega)) | omega | exact Nat.le_refl _ | (focus (simp; done)) | (focus (simp; omega))))) rfl HND.out HKD.out).mono ?_
        rintro e w4 hd
        have HU := Lib.hid (hd.under (w0 := w) (HM.out.below (by repeat (first | (with_reducible exact Below.refl _ _) | (with_reducible refine Below.setCell ?_ ?_ _) | (with_reducible refine Below.alloc ?_ ?_ _) | (with_reducible refine Below.drewN ?_ _) | (with_reducible refine Below.drew ?_) | (with_reducible exact Nat.le_refl _) | (focus (simp only [World.size_alloc, World.size_setCell, World.size_drew, World.size_drewN]; omega)) | omega | exact Nat.le_refl _ | (focus (simp; done)) | (focus (simp; omega))))) (Nat.le_refl _) (HBW.out.alloc hzr _))
        obtain ⟨rfl, v4, hm4, _, _⟩ := hd
        have HM4 := Lib.hid hm4
        clear hm4
        rw [errV_ne HKZ.out]
        go_wp2_with fail
        go_roundw
        case rel => exact ⟨k + 1, by omega, by go_num, by rw [HT.out, HCS.out, okN, if_neg HK0.out]; rfl, ⟨v4, by rw [HT.out, HDS.out]; exact HM4.out⟩, HU.out⟩
        case measure => simp [intOf]; omega
    · have HK := Lib.hid (show cs.take k = cs from List.take_of_length_le (by rw [HL.out]; omega))
      have h2 := HK.out
      rw [h2] at HM ⊢
      clear h2
      go_wp2_with fail
      go_ret2
      exact ⟨rfl, ⟨v, HM.out⟩, HBW.out⟩
end Go.Proofs.Ytigkcbnlbdiimaa
