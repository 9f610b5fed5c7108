/- corncriblaw27.made; place.New. -/
import Derived.Test.YtigkcbnlbdiimaaPlace5
namespace Go.Proofs.Ytigkcbnlbdiimaa
open Go.RowKit
/-- What made gives. -/
def MadeOut (w : World) (cs : List Cmd) (e : Ending) (w' : World) : Prop :=
  ∃ bm v xv, e = .returned (.tuple #[.pointer (some ⟨bm, 0, none⟩), xv]) ∧ MapAt w' w.heap.size bm v (doAll [] cs) ∧ w'.ownsRow w.heap.size 128 6 xv (doAll [] cs).length ((doAll [] cs).flatMap Ent.row) ∧ Below w.heap.size w w'
set_option maxRecDepth 100000 in
set_option maxHeartbeats 4000000 in
theorem made_any (ao : Option Addr) (n cap : Nat) (cs : List Cmd) (w : World) (hl : cs.length = n) (hn : n ≤ 60) (hA : 0 < n → ∃ b off, ao = some ⟨b, off, none⟩ ∧ b < w.heap.size ∧ CmdsAt w b off cs) :
    Calls Try.prog 42 #[.slice ao n cap] w (MadeOut w cs) := by
  have HL := Lib.hid hl
  have HA := Lib.hid hA
  clear hl hA
  go_enter Try.func42, Try.ntmps42
  go_wp2_with fail
  refine (new_any _).mono ?_
  rintro e w1 ⟨rfl, rfl⟩
  go_wp2_with fail
  go_loopw [5, 6] (fun x i wr => ∃ (k : Nat) (xv v : Value), k ≤ n ∧ i = .int .i64 k ∧ x = xv ∧ MapAt wr w.heap.size w.heap.size v (doAll [] (cs.take k)) ∧ wr.ownsRow w.heap.size 128 6 xv (doAll [] (cs.take k)).length ((doAll [] (cs.take k)).flatMap Ent.row) ∧ Below w.heap.size w wr) (fun _ i _ => n - (intOf i).toNat)
  case atStart => exact ⟨0, _, .slice none 0 0, Nat.zero_le _, rfl, rfl, ⟨heap_alloc_new _ _, World.ownsRow_nil _ _ _ _, Nat.le_refl _, by simp [Value.ownBlock], by simp [doAll]⟩, World.ownsRow_nil _ _ _ _, (by repeat (first | (with_reducible exact Below.refl _ _) | (with_reducible refine Below.setCell ?_ ?_ _) | (with_reducible refine Below.alloc ?_ ?_ _) | (with_reducible refine Below.drewN ?_ _) | (with_reducible refine Below.drew ?_) | (with_reducible exact Nat.le_refl _) | (focus (simp only [World.size_alloc, World.size_setCell, World.size_drew, World.size_drewN]; omega)) | omega | exact Nat.le_refl _ | (focus (simp; done)) | (focus (simp; omega))))⟩
  case round =>
    obtain ⟨i, x, v, hi, rfl, hx, hmap, hown, hb⟩ := hrel
    have hx' := hx.symm
    clear hx
    subst hx'
    have HM := Lib.hid hmap
    have HX := Lib.hid hown
    have HB := Lib.hid hb
    have hzr := hb.size
    clear hmap hown hb
    by_cases hlt : i < n
    · obtain ⟨c, hc⟩ : ∃ c, cs[i]? = some c := ⟨_, List.getElem?_eq_getElem (by rw [HL.out]; exact hlt)⟩
      have HTK := Lib.hid (take_snoc_get cs i c hc)
      obtain ⟨b, off, rfl, hbb, hC⟩ := HA.out (by omega)
      obtain ⟨q0, q1, q2, q3, q4, q5, q6, q7⟩ := hC i c hc
      have eb := fun o => HB.out.cell (p := ⟨b, o, none⟩) hbb
      have k0 := (eb _).trans q0
      have k1 := (eb _).trans q1
      have k2 := (eb _).trans q2
      have k3 := (eb _).trans q3
      have k4 := (eb _).trans q4
      have k5 := (eb _).trans q5
      have k6 := (eb _).trans q6
      have k7 := (eb _).trans q7
      have hdl : (doAll [] (cs.take i)).length ≤ 4096 := by have := doAll_few (cs.take i) []; simp at this; omega
      obtain ⟨es, hes⟩ : ∃ es, es = doAll [] (cs.take i) := ⟨_, rfl⟩
      have HES := Lib.hid hes
      rw [← hes] at HM HX hdl
      have HDL := Lib.hid hdl
      clear hc hC eb hes hdl
      have hi0 : (0 : Int) ≤ (i : Int) := by omega
      have hi1 : (i : Int) < (n : Int) := by omega
      obtain ⟨ck, cv, ce, cp, cn, c0, c1, c2⟩ := c
      go_wp2_with fail
      refine (do_any _ _ v es ⟨ck, cv, ce, cp, cn, c0, c1, c2⟩ _ HM.out).mono ?_
      rintro e w5 hdo
      have hu := hdo.under HM.out (Nat.le_refl _) HB.out
      have hbs := hdo.beside HM.out HX.out
      obtain ⟨rfl, v5, hm5, _, _⟩ := hdo
      have HM5 := Lib.hid hm5
      have HX5 := Lib.hid hbs
      have HB5 := Lib.hid hu
      have hz5 := hu.size
      have eb := fun o => hu.cell (p := ⟨b, o, none⟩) hbb
      have j0 := (eb _).trans q0
      have j1 := (eb _).trans q1
      have j2 := (eb _).trans q2
      have j3 := (eb _).trans q3
      have j4 := (eb _).trans q4
      have j5 := (eb _).trans q5
      have j6 := (eb _).trans q6
      have j7 := (eb _).trans q7
      clear hm5 hbs hu eb q0 q1 q2 q3 q4 q5 q6 q7
      go_wp2_with fail
      refine (ref_do_any w.heap.size x es ⟨ck, cv, ce, cp, cn, c0, c1, c2⟩ _ HX5.out HDL.out (by omega)).mono ?_
      rintro e w6 ⟨v6, rfl, hr6, hb6⟩
      have HX6 := Lib.hid hr6
      have HM6 := Lib.hid (HM5.out.below hb6)
      have HB6 := Lib.hid (HB5.out.trans (hb6.mono hz5))
      clear hr6 hb6
      go_wp2_with fail
      go_roundw
      case rel =>
        have hs : doAll [] (cs.take (i + 1)) = doEs es ⟨ck, cv, ce, cp, cn, c0, c1, c2⟩ := by rw [HTK.out, doAll_snoc, ← HES.out]
        refine ⟨i + 1, v6, v5, by omega, by go_num, rfl, ?_, ?_, HB6.out⟩
        · rw [hs]; exact HM6.out
        · rw [hs]; exact HX6.out
      case measure => simp [intOf]; omega
    · have hcs : cs.take i = cs := List.take_of_length_le (by rw [HL.out]; omega)
      rw [hcs] at HM HX
      clear hcs
      go_wp2_with fail
      go_ret2
      exact ⟨_, v, _, rfl, HM.out, HX.out, HB.out⟩
set_option maxHeartbeats 1000000 in
theorem pnew_bad (base bm : Nat) (v va : Value) (es : List Ent) (ns : List Int) (w : World) (h : MapAt w base bm v es) (hr : Reads w 1 va ns.length (ns.map (Value.int .i64))) (hcap : ∀ a n c, va = .slice a n c → n ≤ c) (hok : rightB ns = false) :
    Calls Try.prog 48 #[.pointer (some ⟨bm, 0, none⟩), va] w fun e w' => e = .returned (.tuple #[.int .i64 0, errV 1]) ∧ Below w.heap.size w w' := by
  have HN := Lib.hid (errV_ne (k := 1) (by omega))
  have HO := Lib.hid (pick_bad base bm v va es ns w h hr hcap hok)
  clear h hr hcap hok
  go_enter Try.func48, Try.ntmps48
  go_wp2_with fail
  refine HO.out.mono ?_
  rintro e w1 ⟨rfl, hb1⟩
  have HB := Lib.hid hb1
  have hz := hb1.size
  clear hb1
  rw [HN.out]
  go_wp2_with fail
  go_ret2
  exact ⟨by rw [HN.out]; rfl, HB.out.alloc hz _⟩
set_option maxHeartbeats 1000000 in
theorem pnew_few (base bm : Nat) (v va : Value) (es : List Ent) (ns : List Int) (w : World) (h : MapAt w base bm v es) (hno : NodesOk es) (hr : Reads w 1 va ns.length (ns.map (Value.int .i64))) (hcap : ∀ a n c, va = .slice a n c → n ≤ c) (hok : rightB ns = true) (hl : ns.length < 3) :
    Calls Try.prog 48 #[.pointer (some ⟨bm, 0, none⟩), va] w fun e w' => e = .returned (.tuple #[.int .i64 0, errV 11]) ∧ Below w.heap.size w w' := by
  have HN := Lib.hid (errV_ne (k := 11) (by omega))
  have HO := Lib.hid (pick_any base bm v va es ns w h hno hr hcap hok)
  have HL := Lib.hid hl
  clear h hr hcap hok hno hl
  go_enter Try.func48, Try.ntmps48
  go_wp2_with fail
  refine HO.out.mono ?_
  rintro e w1 ⟨a, b, c, rfl, _, hb1⟩
  have HB := Lib.hid hb1
  have hz := hb1.size
  clear hb1
  rw [if_pos HL.out, HN.out]
  go_wp2_with fail
  go_ret2
  exact ⟨by rw [HN.out]; rfl, HB.out.alloc hz _⟩
set_option maxRecDepth 100000 in
set_option maxHeartbeats 1000000 in
theorem pnew_any (base bm : Nat) (v va : Value) (es : List Ent) (ns : List Int) (w : World) (h : MapAt w base bm v es) (hno : NodesOk es) (hr : Reads w 1 va ns.length (ns.map (Value.int .i64))) (hcap : ∀ a n c, va = .slice a n c → n ≤ c) (hok : rightB ns = true) (hl : 3 ≤ ns.length) :
    Calls Try.prog 48 #[.pointer (some ⟨bm, 0, none⟩), va] w fun e w' => ∃ a b c w1, [a, b, c] = (sortI (fun k => (loadN es k : Int)) ns).take 3 ∧ Below w.heap.size w w1 ∧ DoOut w1 base bm v (doEs es ⟨1, 0, 0, 0, 0, a, b, c⟩) (doN es ⟨1, 0, 0, 0, 0, a, b, c⟩) (doK es ⟨1, 0, 0, 0, 0, a, b, c⟩) e w' := by
  have HO := Lib.hid (pick_any base bm v va es ns w h hno hr hcap hok)
  have HL := Lib.hid (show ¬ ns.length < 3 by omega)
  have H := Lib.hid h
  clear h hr hcap hok hno hl
  go_enter Try.func48, Try.ntmps48
  go_wp2_with fail
  refine HO.out.mono ?_
  rintro e w1 ⟨a, b, c, rfl, habc, hb1⟩
  rw [if_neg HL.out] at habc
  have HABC := Lib.hid habc
  have HB := Lib.hid hb1
  have hz := hb1.size
  clear hb1 habc
  rw [if_neg HL.out, show errV 0 = .nilIface from rfl]
  go_wp2_with fail
  refine (do_any base bm v es ⟨1, 0, 0, 0, 0, a, b, c⟩ _ ((H.out.below HB.out).below (by repeat (first | (with_reducible exact Below.refl _ _) | (with_reducible refine Below.setCell ?_ ?_ _) | (with_reducible refine Below.alloc ?_ ?_ _) | (with_reducible refine Below.drewN ?_ _) | (with_reducible refine Below.drew ?_) | (with_reducible exact Nat.le_refl _) | (focus (simp only [World.size_alloc, World.size_setCell, World.size_drew, World.size_drewN]; omega)) | omega | exact Nat.le_refl _ | (focus (simp; done)) | (focus (simp; omega)))))).mono ?_
  rintro e w2 hdo
  obtain ⟨rfl, hrest⟩ := hdo
  have HR := Lib.hid hrest
  clear hrest
  go_wp2_with fail
  go_ret2
  exact ⟨a, b, c, _, HABC.out, HB.out.alloc hz _, rfl, HR.out⟩
end Go.Proofs.Ytigkcbnlbdiimaa
