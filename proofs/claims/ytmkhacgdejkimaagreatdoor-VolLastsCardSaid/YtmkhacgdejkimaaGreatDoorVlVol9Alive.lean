import Derived.Test.YtmkhacgdejkimaaGreatDoorVl19
import Derived.Test.YtmkhacgdejkimaaGreatDoorVl10
import Derived.Test.YtmkhacgdejkimaaGreatDoorVlDiskNames
import Derived.Test.YtmkhacgdejkimaaGreatDoorVl18
import Derived.Test.YtmkhacgdejkimaaGreatDoorVl11
import Derived.Test.YtmkhacgdejkimaaGreatDoorVl20
namespace Go.Proofs.YtmkhacgdejkimaaGreatDoor
set_option maxRecDepth 100000
set_option maxHeartbeats 8000000
open Go.RowKit
theorem belVlVol9Alive {B : Nat} {w w2 : World} (h : Go.RowKit.Below B w w2 := by repeat (first | (with_reducible first | exact .refl _ _ | refine .setCell ?_ ?_ _ | refine .alloc ?_ ?_ _ | refine .drewN ?_ _ | refine .drew ?_ | exact Nat.le_refl _) | (focus (simp only [World.size_alloc, World.size_setCell, World.size_drew, World.size_drewN]; omega)) | omega | exact Nat.le_refl _ | (focus (simp; done)) | (focus (simp; omega)))) : Go.RowKit.Below B w w2 := h
theorem mem_namesOf {l : Dir} {s : Nm} : s ∈ namesOf l ↔ s ∈ l.map (·.1) := (List.mergeSort_perm _ _).mem_iff
theorem tidyL_skip {o : Nm → Bool} {m : Bool} {d : Dk} {r : List Nm} : ∀ {a : List Nm}, (∀ s ∈ a, o s = false) → Dk.tidyL o (a ++ r) m d = Dk.tidyL o r m d
  | [], _ => rfl
  | s :: a, h => by
    show Dk.tidyL o (s :: (a ++ r)) m d = _
    rw [Dk.tidyL, if_neg (by rw [h s List.mem_cons_self]; simp)]
    exact tidyL_skip fun x hx => h x (List.mem_cons_of_mem _ hx)
theorem tidyL_one {S : Nm} {d : Dk} {l : List Nm} (hS : S ∈ l) (hnd : l.Nodup) (hr : (d.remove S).1 = 0) : Dk.tidyL (fun s => s == S) l false d = (d.remove S).2.syncNames := by
  obtain ⟨a, b, rfl⟩ := List.append_of_mem hS
  have hn := List.nodup_append.1 hnd
  have ha : ∀ s ∈ a, (s == S) = false := fun s hs => by
    have := hn.2.2 s hs S List.mem_cons_self
    simpa using this
  have hb : ∀ s ∈ b, (s == S) = false := fun s hs => by
    have := (List.nodup_cons.1 hn.2.1).1
    simp
    rintro rfl
    exact this hs
  rw [tidyL_skip (o := fun s => s == S) ha, Dk.tidyL, if_pos (by simp), if_neg (by rw [hr]; simp)]
  have := tidyL_skip (o := fun s => s == S) (m := true) (d := (d.remove S).2) (r := []) hb
  rw [List.append_nil] at this
  rw [this, Dk.tidyL, if_pos rfl]
def isShadow (v : Vl) (s : Nm) : Bool := s == sName v.num
theorem VD.tidied {x : Dk} {v : Vl} {ns : List Nd} (h : VD x v ns) : Dk.tidyL (isShadow v) (namesOf x.now) false x = (0, x) := by
  obtain ⟨f, g, hp⟩ := h.parts
  refine tidyL_none fun s hs => ?_
  have hs' := mem_namesOf.1 hs
  obtain ⟨p, hp1, rfl⟩ := List.mem_map.1 hs'
  have := hp.noS p hp1
  simpa [isShadow] using this
theorem cut_ok {c : Dk} {s : Nm} {f n : Nat} (ha : c.armed = -1) (hg : dirGet c.now s = some f) (hn : n ≤ (c.fileAt f).b.length) : c.cut s n = (0, c.setF f ⟨(c.fileAt f).b.take n, n⟩) := by
  have hf : c.fnd s = (0, f) := by unfold Dk.fnd; rw [if_neg (by rw [ha]; decide), hg]
  unfold Dk.cut
  rw [hf, if_neg (by simp), if_neg (by show ¬ ((n : Int) < 0 ∨ ((c.fileAt f).b.length : Int) < n); omega), did_off (by show c.armed = -1; exact ha)]
  simp
theorem Ends.cut {c : Dk} {v : Vl} {ns : List Nd} {t : List UInt8} (h : Ends c v ns t) : (c.cut v.file v.size).1 = 0 ∧ (c.mendT v t).now = c.now ∧ (c.mendT v t).armed = -1 := by
  obtain ⟨f, hf, hb⟩ := h.opens.data
  have hl : v.size ≤ (c.fileAt f).b.length := by
    rw [hb, List.length_append, superB_len, List.length_append, h.opens.size]
    omega
  have e := cut_ok h.armed hf hl
  refine ⟨by rw [e], ?_, ?_⟩
  · unfold Dk.mendT
    split
    · rfl
    · rw [e]; rfl
  · unfold Dk.mendT
    split
    · exact h.armed
    · rw [e]; exact h.armed
theorem nodup_names (v : Vl) : [v.file, mName v.num, sName v.num].Nodup := by
  have h1 : v.file ≠ mName v.num := v_ne_m _ _ _
  have h2 : v.file ≠ sName v.num := v_ne_s _ _ _
  have h3 := s_ne_m v.num
  simp [h1, h2, Ne.symm h3]
theorem Ends.tidied {c : Dk} {v : Vl} {ns : List Nd} {t : List UInt8} (h : Ends c v ns t) : ∃ c', Dk.tidyL (isShadow v) (namesOf (c.mendT v t).now) false (c.mendT v t) = (0, c') ∧ c'.now.length = 2 ∧ ∀ s ∈ namesOf (c.mendT v t).now, s = v.file ∨ s = mName v.num ∨ s = sName v.num := by
  obtain ⟨-, h2, h3⟩ := h.cut
  obtain ⟨y, hy⟩ : ∃ y, y = c.mendT v t := ⟨_, rfl⟩
  rw [← hy] at h2 h3 ⊢
  have hvs : v.file ≠ sName v.num := v_ne_s _ _ _
  have hsm := s_ne_m v.num
  rw [h2]
  rcases h.names with hn | hn
  · refine ⟨y, tidyL_none fun s hs => ?_, by rw [h2]; simpa using hn.length_eq, fun s hs => ?_⟩
    · have := hn.mem_iff.1 (mem_namesOf.1 hs)
      simp only [List.mem_cons, List.not_mem_nil, or_false] at this
      rcases this with rfl | rfl
      · simpa [isShadow] using hvs
      · simpa [isShadow] using Ne.symm hsm
    · have := hn.mem_iff.1 (mem_namesOf.1 hs)
      simp only [List.mem_cons, List.not_mem_nil, or_false] at this
      rcases this with e | e
      · exact .inl e
      · exact .inr (.inl e)
  · have hin : sName v.num ∈ c.now.map (·.1) := hn.mem_iff.2 (by simp)
    obtain ⟨p, hp1, hp2⟩ := List.mem_map.1 hin
    have hget : ∃ i, dirGet y.now (sName v.num) = some i := by
      cases hg : dirGet y.now (sName v.num) with
      | some i => exact ⟨i, rfl⟩
      | none => exact absurd hp2 (get_none hg p (by rw [h2]; exact hp1))
    obtain ⟨i, hi⟩ := hget
    have hf : y.fnd (sName v.num) = (0, i) := by unfold Dk.fnd; rw [if_neg (by rw [h3]; decide), hi]
    have hr : y.remove (sName v.num) = (0, { y with now := dirDel y.now (sName v.num), deeds := y.deeds ++ [⟨2, sName v.num, [], 0⟩] }) := by
      unfold Dk.remove
      rw [hf, if_neg (by simp)]
      congr 1
      unfold Dk.turn
      rw [did_off (by show y.armed = -1; exact h3)]
      rfl
    have hnd : (namesOf c.now).Nodup := by
      have h1 : (namesOf c.now).Perm (c.now.map (·.1)) := List.mergeSort_perm _ _
      exact (h1.trans hn).nodup_iff.2 (nodup_names v)
    refine ⟨{ y with now := dirDel y.now (sName v.num), lasting := dirDel y.now (sName v.num), deeds := [] }, ?_, ?_, fun s hs => ?_⟩
    · show Dk.tidyL (fun s => s == sName v.num) _ false y = _
      rw [tidyL_one (mem_namesOf.2 hin) hnd (by rw [hr]), hr]
      unfold Dk.syncNames
      rw [if_neg (by show ¬ y.armed = 0; rw [h3]; decide), did_off (by show y.armed = -1; exact h3)]
    · show (dirDel y.now (sName v.num)).length = 2
      have h5 : ((dirDel y.now (sName v.num)).map (·.1)).Perm [v.file, mName v.num] := by
        have h6 : (dirDel y.now (sName v.num)).map (·.1) = (y.now.map (·.1)).filter (fun s => !(s == sName v.num)) := by
          unfold dirDel
          rw [List.filter_map]
          rfl
        rw [h6, h2]
        refine (hn.filter _).trans ?_
        have e1 : (v.file == sName v.num) = false := by simpa using hvs
        have e2 : (mName v.num == sName v.num) = false := by simpa using Ne.symm hsm
        simp [e1, e2]
      simpa using h5.length_eq
    · have := hn.mem_iff.1 (mem_namesOf.1 hs)
      simpa using this
theorem c_len (v g : Nat) : (cName v g).length = (vName v g).length := by simp [cName, vName]
theorem cName_no {x : Dk} {v : Vl} (ha : x.armed ≠ 0) (hn : ∀ p ∈ x.now, p.1 = v.file ∨ p.1 = mName v.num ∨ p.1 = sName v.num) : (x.whole (cName v.num v.gen)).1 ≠ 0 := by
  have : dirGet x.now (cName v.num v.gen) = none := by
    cases e : dirGet x.now (cName v.num v.gen) with
    | none => rfl
    | some i =>
      rcases hn _ (get_mem e) with h | h | h
      · exact absurd h.symm (v_ne_c _ _ _ _)
      · exact absurd h (c_ne_m _ _ _)
      · exact absurd h (c_ne_s _ _ _)
  rw [whole_none ha this]
  simp
theorem ours_all {v : Vl} (hok : VOk v) {s : Nm} (hs : s = v.file ∨ s = mName v.num ∨ s = sName v.num) : OursAt v s (isShadow v s) ∧ s.length ≤ maxLen := by
  have h1 : v.file ≠ sName v.num := v_ne_s _ _ _
  have h2 := s_ne_m v.num
  rcases hs with rfl | rfl | rfl
  · have e : isShadow v v.file = false := by simpa [isShadow] using h1
    rw [e]
    exact ⟨ours_own hok.names (.inl ⟨rfl, .inl rfl⟩), hok.long.1⟩
  · have e : isShadow v (mName v.num) = false := by simpa [isShadow] using Ne.symm h2
    rw [e]
    exact ⟨ours_own hok.names (.inl ⟨rfl, .inr (.inr rfl)⟩), hok.long.2.2⟩
  · have e : isShadow v (sName v.num) = true := by simp [isShadow]
    rw [e]
    exact ⟨ours_own hok.names (.inr ⟨rfl, rfl⟩), hok.long.2.1⟩
def OpenTo (w : World) (dp : Nat) (P : Nat → Prop) (K : Nat) (d : Dk) (v : Vl) (e : Ending) (w' : World) : Prop :=
  ∃ vp, e = .returned (.tuple #[(.pointer (some ⟨vp, 0, none⟩)), .nilIface]) ∧ VS w' vp dp P K d v ∧ w.heap.size ≤ vp ∧ KP P w w'
theorem reopen {w : World} {dp K : Nat} {P : Nat → Prop} {x : Dk} {v : Vl} {ns : List Nd} (h : DS w dp P K x) (hP : ∀ k, P k → k < w.heap.size) (hK : K + 64 < 1099511627776) (hvd : VD x v ns) (hok : VOk v) (hn1 : NamesAt v.num 1) (hlen : v.idx.length ≤ 4096) :
    Calls Tryz.prog 39 #[(.pointer (some ⟨dp, 0, none⟩)), .int .i64 v.num, .int .i64 v.most] w (OpenTo w dp P (K + 64) x v) := by
  obtain ⟨f, g, hp⟩ := hvd.parts
  have hnm : ∀ p ∈ x.now, p.1 = v.file ∨ p.1 = mName v.num ∨ p.1 = sName v.num := fun p hq => by
    rcases hp.two with e | e <;> rw [e] at hq <;> simp only [List.mem_cons, List.not_mem_nil, or_false] at hq <;> rcases hq with rfl | rfl
    · exact .inl rfl
    · exact .inr (.inl rfl)
    · exact .inr (.inl rfl)
    · exact .inl rfl
  have hm : x.mendT v [] = x := if_pos rfl
  have ht := hvd.tidied
  have := open_none h hP hK hvd.opens hok hn1 (by rw [c_len]; exact hok.long.1) (cName_no hvd.opens.armed hnm) hvd.vi.ixOf hlen (fun e => absurd rfl e) (isShadow v) (fun s hs => ours_all hok (by
    rw [hm] at hs
    obtain ⟨p, hp1, rfl⟩ := List.mem_map.1 (mem_namesOf.1 hs)
    exact hnm p hp1)) (by rw [hm, ht])
  rw [hm, ht] at this
  exact this
theorem reopen_ends {w : World} {dp K : Nat} {P : Nat → Prop} {c : Dk} {v : Vl} {ns : List Nd} {t : List UInt8} (h : DS w dp P K c) (hP : ∀ k, P k → k < w.heap.size) (hK : K + 64 < 1099511627776) (he : Ends c v ns t) (hok : VOk v) (hn1 : NamesAt v.num 1) (hlen : (ixOf ns).length ≤ 4096) :
    ∃ c', c'.now.length = 2 ∧ Calls Tryz.prog 39 #[(.pointer (some ⟨dp, 0, none⟩)), .int .i64 v.num, .int .i64 v.most] w (OpenTo w dp P (K + 64) c' { v with idx := ixOf ns }) := by
  obtain ⟨c', h1, h2, h3⟩ := he.tidied
  obtain ⟨g1, g2, g3⟩ := he.cut
  refine ⟨c', h2, ?_⟩
  have ho : Opens c { v with idx := ixOf ns } ns t := ⟨he.opens.armed, he.opens.num, he.opens.gen, he.opens.epoch, he.opens.man, he.opens.data, he.opens.tail, he.opens.ok, he.opens.size⟩
  have hok2 : VOk { v with idx := ixOf ns } := ⟨hok.names, hok.right, hok.size, hok.most, hok.long⟩
  have hm : c.mendT { v with idx := ixOf ns } t = c.mendT v t := rfl
  have hnm : ∀ p ∈ c.now, p.1 = v.file ∨ p.1 = mName v.num ∨ p.1 = sName v.num := fun p hq => by
    have := h3 p.1 (mem_namesOf.2 (by rw [g2]; exact List.mem_map_of_mem hq))
    exact this
  have := open_none (v := { v with idx := ixOf ns }) h hP hK ho hok2 hn1 (by rw [c_len]; exact hok.long.1) (cName_no (v := v) he.opens.armed hnm) rfl hlen (fun _ => g1) (isShadow v) (fun s hs => by
    rw [hm] at hs
    exact ours_all (v := { v with idx := ixOf ns }) hok2 (h3 s hs)) (by rw [hm, h1])
  rw [hm, h1] at this
  exact this
theorem make_nil (w : World) : Calls Tryz.prog 32 #[.pointer none, .int .i64 1, .int .i64 1000, .int .i64 0] w fun e w' => e = .returned (.tuple #[.pointer none, errV 15]) ∧ w = w' := by
  have HN := Lib.hid (namesAt9 (v := 1) (g := 1) (by omega) (by omega))
  have HNV := Lib.hid (show namesV 1 1 = .tuple #[.string ⟨(vName 1 1).toArray⟩, .string ⟨(cName 1 1).toArray⟩, .string ⟨(mName 1).toArray⟩, .string ⟨(sName 1).toArray⟩] from rfl)
  go_enter Tryz.func32, Tryz.ntmps32
  go_wp2_with fail
  refine Calls.mono (show Calls Tryz.prog 67 #[.int .i64 1, .int .i64 1] w _ from HN.out _) ?_
  rintro e wx ⟨rfl, rfl⟩
  rw [HNV.out]
  go_wp2_with fail
  go_ret2
  exact ⟨rfl, rfl⟩
theorem alive_plain : ∃ d0 v0 d1 v1, (Dk.new 1048576).make 1 1000 0 = (0, d0, v0) ∧ v0.put d0 ⟨5, 0, false, [7]⟩ = (0, d1, v1) ∧ VD d1 v1 [⟨5, 0, false, [7]⟩] ∧ v1.num = 1 ∧ v1.most = 1000 ∧ v1.get d1 5 0 = (0, false, ⟨5, 0, false, [7]⟩) ∧ v1.idx.length ≤ 4096 ∧ (v1.find 5 0).2.len ≤ 4096 ∧ (v1.find 5 0).2.off ≤ 1000000000 := by
  obtain ⟨d0, h1, h2⟩ := VD.make (num := 1) (most := 1000) (epoch := 0) (by omega) (by omega) (by omega) (by omega)
  obtain ⟨d1, v1, ns1, e1, e2, e3, e4, e5⟩ := h2.vi.act ⟨0, 0, ⟨5, 0, false, [7]⟩⟩ (by decide) (by decide) (by decide)
  have hc : ((Rv.of ⟨1, 1, 0, false, 1000, 16, []⟩ []).act ⟨0, 0, ⟨5, 0, false, [7]⟩⟩) = (0, ⟨1, 1000, 0, 56, false, [⟨5, 16, 1, 0, false⟩], [⟨5, 0, false, [7]⟩]⟩) := by simp [Rv.act, Rv.put, Rv.of, lastOf, Rv.write, ndCheck, ndSize, padN, ixFind, ixPut, posOf]
  rw [hc] at e1 e3
  have hns : ns1 = [⟨5, 0, false, [7]⟩] := congrArg Rv.d e3
  have hnum : v1.num = 1 := congrArg Rv.num e3
  have hmost : v1.most = 1000 := congrArg Rv.most e3
  have hidx : v1.idx = [⟨5, 16, 1, 0, false⟩] := congrArg Rv.l e3
  subst hns
  have hvd := h2.act ⟨0, 0, ⟨5, 0, false, [7]⟩⟩ (by decide) e1 e2 hnum
  have hput : (⟨1, 1, 0, false, 1000, 16, []⟩ : Vl).put d0 ⟨5, 0, false, [7]⟩ = (0, d1, v1) := e1
  obtain ⟨g1, g2⟩ := e2.gets 5 0
  have hl : (Rv.of v1 [⟨5, 0, false, [7]⟩]).look 5 0 = 0 := by rfl
  obtain ⟨n, q1, -, -, q2⟩ := g2 hl
  have hn : (⟨5, 0, false, [7]⟩ : Nd) = n := Option.some.inj q1
  subst hn
  have hf : v1.find 5 0 = (0, ⟨5, 16, 1, 0, false⟩) := by
    unfold Vl.find
    rw [hidx]
    rfl
  exact ⟨d0, _, d1, v1, h1, hput, hvd, hnum, hmost, q2, by rw [hidx]; decide, by rw [hf]; decide, by rw [hf]; decide⟩
theorem alive09 (w : World) : Calls Tryz.prog 30 #[] w fun e w' => e = .returned (.bool true) ∧ Below w.heap.size w w' := by
  obtain ⟨d0, v0, d1, v1, h1, h2, h3, h4, h5, h6, h7, h8, h9⟩ := alive_plain
  have HVD := Lib.hid h3
  have HP := Lib.hid h2
  have H4 := Lib.hid h4
  have H5 := Lib.hid h5
  have H6 := Lib.hid h6
  have H7 := Lib.hid h7
  have H8 := Lib.hid h8
  have H9 := Lib.hid h9
  have HN := Lib.hid (namesAt9 (v := 1) (g := 1) (by omega) (by omega))
  have HMK := Lib.hid (fun (w1 : World) (dp : Nat) (P : Nat → Prop) (h : DS w1 dp P 0 (Dk.new 1048576)) (hP : ∀ k, P k → k < w1.heap.size) => make_ds h hP (by omega) 1 1000 0 (by omega) ⟨by omega, by omega⟩ (by omega) HN.out (long_names (by omega)))
  rw [h1] at HMK
  unfold MadeV at HMK
  clear h1 h2 h3 h4 h5 h6 h7 h8 h9
  go_enter Tryz.func30, Tryz.ntmps30
  go_wp2_with fail
  refine (new_ds 1048576 (by omega) w).mono ?_
  rintro e w1 ⟨rfl, hds, hb, hlt1⟩
  have HDS := Lib.hid hds
  have HB1 := Lib.hid hb
  have hz1 := hb.size
  clear hds hb
  obtain ⟨dp, hdp⟩ : ∃ dp, dp = w.heap.size + 2 := ⟨_, rfl⟩
  rw [← hdp] at HDS hlt1 ⊢
  clear hdp
  go_wp2_with fail
  refine (show Calls Tryz.prog 32 #[(.pointer (some ⟨dp, 0, none⟩)), .int .i64 1, .int .i64 1000, .int .i64 0] w1 _ from HMK.out w1 dp _ HDS.out (fun k hk => Nat.lt_of_lt_of_le hk hz1)).mono ?_
  rintro e w2 hmd
  obtain ⟨_, vp, rfl, hvt⟩ | ⟨h, _⟩ := hmd
  case inr => exact absurd rfl h
  have HVS := Lib.hid hvt.1
  have HB2 := Lib.hid (HB1.out.trans (hvt.2.below (B := w.heap.size) hz1 (fun k hk => hk)))
  clear hvt
  have hz2 := HB2.out.size
  go_upto_region 3 with fail
  go_wp2_with fail
  obtain ⟨w3, hw3⟩ : ∃ w3 : World, w3 = w2.alloc (.cells #[.int .u8 7] 5) := ⟨_, rfl⟩
  have hb23 : Below w2.heap.size w2 w3 := by rw [hw3]; exact belVlVol9Alive
  have HB3 := Lib.hid (HB2.out.trans (hb23.mono hz2))
  have HV3 := Lib.hid (HVS.out.below hb23)
  have HR3 := Lib.hid (show Reads w3 1 (.slice (some ⟨w2.heap.size, 0, none⟩) 1 1) 1 (([7] : List UInt8).map bv) by
    refine ⟨rfl, .inr ⟨_, _, rfl, by unfold maxLen; omega, fun j u hu => ?_⟩⟩
    match j, hu with
    | 0, hu =>
      cases hu
      rw [hw3]
      exact cell_of_row _ _ _ _ _ _ (heap_new w2 _)
    | k + 1, hu => simp at hu)
  rw [← hw3]
  clear hw3 hb23
  have hz3 := HB3.out.size
  have HPT := Lib.hid (put_vs HV3.out (fun k hk => Nat.lt_of_lt_of_le hk hz3) ⟨5, 0, false, [7]⟩ (some ⟨w2.heap.size, 0, none⟩) 1 (by decide) (by decide) (by decide) HR3.out)
  rw [HP.out] at HPT
  refine (show Calls Tryz.prog 65 #[(.pointer (some ⟨vp, 0, none⟩)), .agg #[.int .u64 5, .int .u32 0, .bool false, .slice (some ⟨w2.heap.size, 0, none⟩) 1 1]] w3 _ from HPT.out).mono ?_
  rintro e w4 ⟨rfl, hvt⟩
  obtain ⟨ix, vx, -, hd4, -, hok⟩ := hvt.1
  have HD4 := Lib.hid (hd4.less (fun k hk => .inl hk) : DS w4 dp (fun k => k < w.heap.size) _ _)
  have HOK := Lib.hid hok
  have HB4 := Lib.hid (HB3.out.trans (hvt.2.below (B := w.heap.size) hz3 (fun k hk => hk)))
  clear hvt hd4 hok HPT
  have hz4 := HB4.out.size
  rw [show errV ((0 : Nat) : Int) = .nilIface from rfl]
  go_wp2_with fail
  have HCR := Lib.hid (crash_ds HD4.out (fun k hk => Nat.lt_of_lt_of_le hk hz4) (by omega) ⟨0, []⟩ none 0 (reads_none _ _) (fun a h => by cases h) (by decide) (by decide) (fun x h => absurd h List.not_mem_nil))
  rw [HVD.out.crash] at HCR
  refine (show Calls Tryz.prog 37 #[(.pointer (some ⟨dp, 0, none⟩)), .agg #[.int .i64 0, .slice none 0 0]] w4 _ from HCR.out).mono ?_
  rintro e w5 ⟨rfl, ht⟩
  have HD5 := Lib.hid ht.1
  have HB5 := Lib.hid (HB4.out.trans (ht.2.below (B := w.heap.size) hz4 (fun k hk => hk)))
  clear ht HCR
  have hz5 := HB5.out.size
  have HOP := Lib.hid (reopen HD5.out (fun k hk => Nat.lt_of_lt_of_le hk hz5) (by omega) HVD.out HOK.out (by rw [H4.out]; exact HN.out) H7.out)
  rw [H4.out, H5.out] at HOP
  go_wp2_with fail
  refine (show Calls Tryz.prog 39 #[(.pointer (some ⟨dp, 0, none⟩)), .int .i64 1, .int .i64 1000] w5 _ from HOP.out).mono ?_
  rintro e w6 ⟨vp2, rfl, hv6, -, hk6⟩
  have HV6 := Lib.hid hv6
  have HB6 := Lib.hid (HB5.out.trans (hk6.below (B := w.heap.size) hz5 (fun k hk => hk)))
  clear hv6 hk6 HOP
  obtain ⟨ix2, vx2, hva, hds6, -, hok6⟩ := HV6.out
  have HGT := Lib.hid (vget_any hva hds6 hok6.names hok6.long.1 5 0 H8.out H9.out)
  rw [H6.out] at HGT
  clear hva hds6 hok6
  go_wp2_with fail
  refine (show Calls Tryz.prog 66 #[(.pointer (some ⟨vp2, 0, none⟩)), .int .u64 5, .int .u32 0] w6 _ from HGT.out).mono ?_
  rintro e w7 ⟨vd, ev, rfl, her, ho7, hb7⟩
  obtain ⟨-, rfl⟩ := her.resolve_right (fun h => by cases h.1)
  obtain ⟨ad, cd, rfl, -⟩ := slice_of ho7
  have HB7 := Lib.hid (HB6.out.trans (hb7.mono HB6.out.size))
  clear her ho7 hb7
  rw [show errV ((0 : Nat) : Int) = .nilIface from rfl]
  simp only [List.length_cons, List.length_nil]
  go_wp2_with fail
  refine (make_nil _).mono ?_
  rintro e wx ⟨rfl, rfl⟩
  rw [errV_ne (show (15 : Int) ≠ 0 by decide)]
  go_wp2_with fail
  refine (code0 _).mono ?_
  rintro e wx ⟨rfl, rfl⟩
  go_wp2_with fail
  refine (code0 _).mono ?_
  rintro e wx ⟨rfl, rfl⟩
  go_wp2_with fail
  refine (code0 _).mono ?_
  rintro e wx ⟨rfl, rfl⟩
  go_wp2_with fail
  refine (code0 _).mono ?_
  rintro e wx ⟨rfl, rfl⟩
  go_wp2_with fail
  refine (show Calls Tryz.prog 14 #[.iface 106 (.int .i64 15)] _ _ from code_some 15 (by decide) (by decide) _).mono ?_
  rintro e wx ⟨rfl, rfl⟩
  go_wp2_with fail
  go_ret
  have hz7 := HB7.out.size
  refine ⟨rfl, HB7.out.trans belVlVol9Alive⟩
end Go.Proofs.YtmkhacgdejkimaaGreatDoor
