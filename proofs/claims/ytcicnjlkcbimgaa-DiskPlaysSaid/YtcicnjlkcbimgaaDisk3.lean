/- Package disk: did, the deeds of names, turn. -/
import Derived.Test.YtcicnjlkcbimgaaDisk2
import Derived.Deep.RegionLaw
namespace Go.Proofs.Ytcicnjlkcbimgaa
open Go.RowKit Go.Maps
set_option maxRecDepth 100000 in
theorem did_any (d : Nat) (F : Nat → Prop) (q : DW) (st : Dk) (w : World) (h : DiskAt w d F q st) (ha : -1 ≤ st.armed) (hb : st.armed ≤ 9223372036854775807) :
    Calls Try.prog 35 #[(.pointer (some ⟨d, 0, none⟩))] w fun e w' => e = .returned (.tuple #[]) ∧ DiskAt w' d F q st.did ∧ Keeps (fun k => k = d) w w' := by
  have H := Lib.hid h
  obtain ⟨c0, c1, c2, c3, c4, c5, cf⟩ := cells6 h.blk
  clear c0 c1 c2 c3 c4 h
  by_cases h0 : 0 < st.armed
  · have e : st.did = { st with armed := st.armed - 1 } := by unfold Dk.did; rw [if_pos h0]
    rw [e]
    clear e
    go_enter Try.func35, Try.ntmps35
    go_wp2
    go_end0
    exact ⟨rfl, H.out.armTo _, keeps_set _ _⟩
  · have e : st.did = st := by unfold Dk.did; rw [if_neg h0]
    rw [e]
    clear e
    go_enter Try.func35, Try.ntmps35
    go_wp2
    go_end0
    exact ⟨rfl, H.out, Keeps.refl _ _⟩
theorem keeps_grown {w w' : World} {b : Nat} (h : w.grownBy w' (some b)) : Keeps (fun k => k = b) w w' := ⟨h.os, h.tape, h.output, h.size, fun k hk hn => h.block k hk fun e => hn (Option.some.inj e)⟩
theorem keeps_own {w w' : World} {v : Value} (h : w.grownBy w' v.ownBlock) : Keeps (fun k => v.ownBlock = some k) w w' := ⟨h.os, h.tape, h.output, h.size, fun k hk hn => h.block k hk fun e => hn e.symm⟩
set_option maxRecDepth 100000 in
theorem create1_any (b bf bt f : Nat) (g : Nat → Nat) (l : Dir) (s : Nm) (w : World) (h : DirAt w b g l) (hl : l.length ≤ 64) (h1 : BoxP w bf (g f)) (h2 : BoxS w bt s) :
    Calls Try.prog 33 #[.map (some b), (.pointer (some ⟨bf, 0, none⟩)), (.pointer (some ⟨bt, 0, none⟩))] w fun e w' => e = .returned (.tuple #[]) ∧ DirAt w' b g (dirPut l s f) ∧ Keeps (fun k => k = b) w w' := by
  have H := Lib.hid h
  have HK := Lib.hid (key_str h2.2)
  obtain ⟨c1, -⟩ := cells1 h1
  obtain ⟨c2, -⟩ := cells1 h2.1
  clear h h1 h2
  go_enter Try.func33, Try.ntmps33
  go_wp2_with (at_mapUpdate; refine wpList_mapUpdate_own _ rfl _ _ _ 79 rfl 9 84 law_str Try.underlying79 ptrR b l.length (dirD g l) rfl H.out (by unfold maxLen; omega) _ _ (.string s) rfl rfl HK.out _ [] (ptrR_mk (g f)) ?_; intro w1 hown1 hg1)
  go_end0
  rw [← dirD_put] at hown1
  exact ⟨rfl, DirAt.of hown1, keeps_grown hg1⟩
theorem keeps_turned {w w' : World} {b : Nat} (h : w.mapTurned w' b) : Keeps (fun k => k = b) w w' := keeps_grown h.grown
set_option maxRecDepth 100000 in
theorem rename1_any (b bs bf bt f : Nat) (g : Nat → Nat) (l : Dir) (s t : Nm) (w : World) (h : DirAt w b g l) (hl : l.length ≤ 64) (h0 : BoxS w bs s) (h1 : BoxP w bf (g f)) (h2 : BoxS w bt t) :
    Calls Try.prog 38 #[.map (some b), (.pointer (some ⟨bs, 0, none⟩)), (.pointer (some ⟨bf, 0, none⟩)), (.pointer (some ⟨bt, 0, none⟩))] w fun e w' => e = .returned (.tuple #[]) ∧ DirAt w' b g (dirPut (dirDel l s) t f) ∧ Keeps (fun k => k = b) w w' := by
  have H := Lib.hid h
  have HK := Lib.hid (key_str h2.2)
  have HKS := Lib.hid (key_str h0.2)
  have HB := Lib.hid (And.intro h0 (And.intro h1 h2))
  obtain ⟨c0, -⟩ := cells1 h0.1
  clear h h1 h2 h0
  go_enter Try.func38, Try.ntmps38
  go_wp2_with (first | (at_delete; refine wpList_delete_own _ rfl _ _ 79 9 rfl 84 law_str Try.underlying79 ptrR b l.length (dirD g l) rfl H.out _ (.string s) rfl HKS.out ?_; intro w1 hown1 hg1; have hk1 := keeps_turned hg1; rw [← dirD_del] at hown1; have H1 := Lib.hid (DirAt.of hown1); have hh := hits_dir H.out; obtain ⟨c1, -⟩ := cells1 (keep_blk hk1 hh HB.out.2.1 (by simp [kindO])); obtain ⟨c2, -⟩ := cells1 (keep_blk hk1 hh HB.out.2.2.1 (by simp [kindO])); have HK1 := Lib.hid hk1; clear hown1 hg1 hk1 hh) | (at_mapUpdate; refine wpList_mapUpdate_own _ rfl _ _ _ 79 rfl 9 84 law_str Try.underlying79 ptrR b (dirDel l s).length (dirD g (dirDel l s)) rfl H1.out (by have := len_del l s; unfold maxLen; omega) _ _ (.string t) rfl rfl HK.out _ [] (ptrR_mk (g f)) ?_; intro w2 hown2 hg2))
  go_end0
  rw [← dirD_put] at hown2
  exact ⟨rfl, DirAt.of hown2, HK1.out.trans (keeps_grown hg2) (fun _ _ h => h)⟩
set_option maxRecDepth 100000 in
theorem remove1_any (b bs : Nat) (g : Nat → Nat) (l : Dir) (s : Nm) (w : World) (h : DirAt w b g l) (h0 : BoxS w bs s) :
    Calls Try.prog 56 #[.map (some b), (.pointer (some ⟨bs, 0, none⟩))] w fun e w' => e = .returned (.tuple #[]) ∧ DirAt w' b g (dirDel l s) ∧ Keeps (fun k => k = b) w w' := by
  have H := Lib.hid h
  have HKS := Lib.hid (key_str h0.2)
  obtain ⟨c0, -⟩ := cells1 h0.1
  clear h h0
  go_enter Try.func56, Try.ntmps56
  go_wp2_with (at_delete; refine wpList_delete_own _ rfl _ _ 79 9 rfl 84 law_str Try.underlying79 ptrR b l.length (dirD g l) rfl H.out _ (.string s) rfl HKS.out ?_; intro w1 hown1 hg1)
  go_end0
  rw [← dirD_del] at hown1
  exact ⟨rfl, DirAt.of hown1, keeps_turned hg1⟩
end Go.Proofs.Ytcicnjlkcbimgaa
