/- Law ShipAll: the walk. -/
import Derived.Test.YtmaalbbclldnpaaGreatDoorAl19
import Derived.Test.YtmaalbbclldnpaaGreatDoorAlShipPages
import Derived.Test.YtmaalbbclldnpaaGreatDoorAlRef03s
import Derived.Test.YtmaalbbclldnpaaGreatDoorAl16
namespace Go.Proofs.YtmaalbbclldnpaaGreatDoor
set_option maxRecDepth 100000
set_option maxHeartbeats 8000000
open Go.RowKit
def TwoQ (Q : Nat → Prop) (K B : Nat) (w : World) (vpa dpa vpb dpb : Nat) (da : Dk) (va : Vl) (db : Dk) (vb : Vl) : Prop :=
  ∃ FA FB, VF w vpa dpa FA K da va ∧ VF w vpb dpb FB K db vb ∧ (∀ j, FA j → ¬ FB j ∧ B ≤ j) ∧ (∀ j, FB j → B ≤ j ∧ ¬ Q j) ∧ B ≤ w.heap.size ∧ (∀ j, Q j → j < w.heap.size)
theorem TwoQ.below {Q : Nat → Prop} {K B : Nat} {w w' : World} {vpa dpa vpb dpb : Nat} {da db : Dk} {va vb : Vl} (h : TwoQ Q K B w vpa dpa vpb dpb da va db vb) (hb : Below w.heap.size w w') : TwoQ Q K B w' vpa dpa vpb dpb da va db vb := by
  obtain ⟨FA, FB, h1, h2, h3, h4, h5, h6⟩ := h
  have hk : Keeps (fun _ => False) w w' := Keeps.of_below hb fun k hk _ => hk
  exact ⟨FA, FB, h1.keeps hk (fun _ _ e => e), h2.keeps hk (fun _ _ e => e), h3, h4, Nat.le_trans h5 hb.size, fun j hj => Nat.lt_of_lt_of_le (h6 j hj) hb.size⟩
theorem TwoQ.one {Q : Nat → Prop} {K B : Nat} {w : World} {vpa dpa vpb dpb : Nat} {da db : Dk} {va vb : Vl} (h : TwoQ Q K B w vpa dpa vpb dpb da va db vb) : ∃ P FA : Nat → Prop, VS w vpb dpb P K db vb ∧ VF w vpa dpa FA K da va ∧ (∀ k, P k → k < w.heap.size) ∧ (∀ k, FA k → P k) ∧
    ∀ w' db' vb', VTo w w' vpb dpb P K db' vb' → TwoQ Q K B w' vpa dpa vpb dpb da va db' vb' ∧ Below B w w' ∧ KP Q w w' := by
  obtain ⟨FA, FB, h1, h2, h3, h4, h5, h6⟩ := h
  have hlt := h1.lt
  refine ⟨fun k => ¬ FB k ∧ k < w.heap.size, FA, h2.vs (fun k hk e => e.1 hk), h1, fun k hk => hk.2, fun k hk => ⟨(h3 k hk).1, hlt k hk⟩, fun w' db' vb' ht => ?_⟩
  obtain ⟨FB', g1, g2⟩ := ht.1.foot
  have g3 : ∀ j, FB' j → FB j ∨ w.heap.size ≤ j := fun j hj => by
    by_cases hF : FB j
    · exact .inl hF
    · right
      apply Classical.byContradiction
      intro e
      exact g2 j hj ⟨hF, by omega⟩
  have hkq : KP Q w w' := KP.mono ht.2 fun k hk hq => ⟨fun e => (h4 k e).2 hq, hk⟩
  refine ⟨⟨FA, FB', h1.kp ht.2 (fun k hk => ⟨(h3 k hk).1, hlt k hk⟩), g1, fun j hj => ⟨fun e => g2 j e ⟨(h3 j hj).1, hlt j hj⟩, (h3 j hj).2⟩, fun j hj => ?_, Nat.le_trans h5 ht.2.size, fun j hj => Nat.lt_of_lt_of_le (h6 j hj) ht.2.size⟩, ht.2.below h5 (fun k hk => ⟨fun e => by have := (h4 k e).1; omega, by omega⟩), hkq⟩
  rcases g3 j hj with e | e
  · exact h4 j e
  · exact ⟨by omega, fun hq => by have := h6 j hq; omega⟩
theorem TwoQ.at' {Q : Nat → Prop} {K B : Nat} {w : World} {vpa dpa vpb dpb : Nat} {da db : Dk} {va vb : Vl} (h : TwoQ Q K B w vpa dpa vpb dpb da va db vb) : ∃ ixa vxa ixb vxb, VolAt w vpa dpa ixa vxa va ∧ VolAt w vpb dpb ixb vxb vb := by
  obtain ⟨FA, FB, ⟨ixa, vxa, _, _, h1, _⟩, ⟨ixb, vxb, _, _, h2, _⟩, _⟩ := h
  exact ⟨ixa, vxa, ixb, vxb, h1, h2⟩
theorem all_nil (vp : Nat) (w : World) : Calls Tryz.prog 25 #[.pointer none, (.pointer (some ⟨vp, 0, none⟩))] w fun e w' => e = .returned (.tuple #[.int .i64 0, errV 15]) ∧ Below w.heap.size w w' := by
  go_enter Tryz.func25, Tryz.ntmps25
  go_wp2
  refine bodyPost_ret (v := ?_) ?_ rfl ?_
  rotate_left; (focus (simp [results, Tryz.results25, go_sem]; exact rfl))
  exact ⟨rfl, (by repeat (first | (with_reducible first | exact .refl _ _ | refine .setCell ?_ ?_ _ | refine .alloc ?_ ?_ _ | refine .drewN ?_ _ | refine .drew ?_ | exact Nat.le_refl _) | (focus (simp only [World.size_alloc, World.size_setCell, World.size_drew, World.size_drewN]; omega)) | omega | exact Nat.le_refl _ | (focus (simp; done)) | (focus (simp; omega))))⟩
theorem lay_nil (w : World) : Calls Tryz.prog 22 #[.pointer none, .slice none 0 0] w fun e w' => e = .returned (.tuple #[.int .i64 0, errV 15]) ∧ Below w.heap.size w w' := by
  go_enter Tryz.func22, Tryz.ntmps22
  go_wp2
  refine bodyPost_ret (v := ?_) ?_ rfl ?_
  rotate_left; (focus (simp [results, Tryz.results22, go_sem]; exact rfl))
  exact ⟨rfl, (by repeat (first | (with_reducible first | exact .refl _ _ | refine .setCell ?_ ?_ _ | refine .alloc ?_ ?_ _ | refine .drewN ?_ _ | refine .drew ?_ | exact Nat.le_refl _) | (focus (simp only [World.size_alloc, World.size_setCell, World.size_drew, World.size_drewN]; omega)) | omega | exact Nat.le_refl _ | (focus (simp; done)) | (focus (simp; omega))))⟩
theorem behind_nil (vp : Nat) (w : World) : Calls Tryz.prog 24 #[(.pointer (some ⟨vp, 0, none⟩)), .pointer none] w fun e w' => e = .returned (.tuple #[.slice none 0 0, errV 15]) ∧ Below w.heap.size w w' := by
  go_enter Tryz.func24, Tryz.ntmps24
  go_wp2
  refine bodyPost_ret (v := ?_) ?_ rfl ?_
  rotate_left; (focus (simp [results, Tryz.results24, go_sem]; exact rfl))
  exact ⟨rfl, (by repeat (first | (with_reducible first | exact .refl _ _ | refine .setCell ?_ ?_ _ | refine .alloc ?_ ?_ _ | refine .drewN ?_ _ | refine .drew ?_ | exact Nat.le_refl _) | (focus (simp only [World.size_alloc, World.size_setCell, World.size_drew, World.size_drewN]; omega)) | omega | exact Nat.le_refl _ | (focus (simp; done)) | (focus (simp; omega))))⟩
theorem reads_take {w : World} {sz n c q : Nat} {a : Option Addr} {α : Type} {row : α → List Value} (hrow : ∀ x, (row x).length = sz) {l : List α} (h : Reads w sz (.slice a n c) n (l.flatMap row)) (hn : l.length = n) (hq : q ≤ n) : Reads w sz (.slice a q c) q ((l.take q).flatMap row) := by
  have hl : ((l.take q).flatMap row).length = q * sz := by rw [length_flatMap_row row sz hrow, List.length_take, Nat.min_eq_left (by omega)]
  refine ⟨hl, ?_⟩
  rcases h.2 with ⟨e, h0⟩ | ⟨ad, c', e, h1, h2⟩
  · simp only [Value.slice.injEq] at e
    obtain ⟨rfl, _, rfl⟩ := e
    exact .inl ⟨by rw [show q = 0 by omega], by omega⟩
  · simp only [Value.slice.injEq] at e
    obtain ⟨rfl, _, rfl⟩ := e
    refine .inr ⟨ad, c, rfl, by omega, fun j u hu => h2 j u ?_⟩
    have hsplit : l.flatMap row = (l.take q).flatMap row ++ (l.drop q).flatMap row := by rw [← List.flatMap_append, List.take_append_drop]
    rw [hsplit, List.getElem?_append_left (List.getElem?_eq_some_iff.1 hu).1]
    exact hu
theorem shipAll_walk (a : Option Addr) (len cap : Nat) (l : List ActE) (n1 : Nat) (w : World) (hl : l.length = len) (hr : Reads w 6 (.slice a len cap) len (l.flatMap ActE.cs)) (ho : ∀ x ∈ l, ActArg w x) (hcap : len ≤ cap) (h1 : n1 ≤ 255) :
    Calls Tryz.prog 7 #[.slice a len cap, .int .u8 n1] w fun e w' => e = .returned (.bool true) ∧ Below w.heap.size w w' := by
  have HL := Lib.hid hl
  have HR := Lib.hid hr
  have HO := Lib.hid ho
  clear hl hr ho
  go_enter Tryz.func7, Tryz.ntmps7
  go_wp2_with fail
  refine (alive13 w).mono ?_
  rintro e w1 ⟨rfl, hb⟩
  have HB1 := Lib.hid hb
  have hz1 := hb.size
  clear hb
  go_wp2_with fail
  refine (far9_any a len cap l w1 HL.out (HR.out.below HB1.out)).mono ?_
  rintro e wx ⟨rfl, rfl⟩
  cases hf : far9 l
  case true =>
    go_wp2_with fail
    go_ret
    exact ⟨rfl, HB1.out⟩
  have HF9 := Lib.hid (far9_no hf)
  clear hf
  have h60 : len ≤ 60 := by rw [← HL.out]; exact HF9.out.1
  have HMD := Lib.hid (show Calls Tryz.prog 11 #[.int .i64 1, .int .i64 1048576, .slice a len cap] w1 (MadeL w1 1 1048576 l) from made_any 1 1048576 (.inl rfl) (by omega) (by omega) a len cap l w1 HL.out (HR.out.below HB1.out) (fun x hx => (HO.out x hx).below HB1.out) h60 HF9.out.2)
  go_wp2_with fail
  refine HMD.out.mono ?_
  rintro e w2 ⟨vp, dp, F, val, d, v, ns, rfl, hvf, hfb, hvi, hrv, hac, hsz, hns, hb⟩
  have HVI := Lib.hid hvi
  have HAC := Lib.hid hac
  have HNS := Lib.hid hns
  have HFB := Lib.hid hfb
  have HB2 := Lib.hid (HB1.out.trans (hb.mono hz1))
  obtain ⟨al, cl, ad, cd, xs, rfl, hat⟩ := hrv
  obtain ⟨N, hN⟩ : ∃ N, N = v.idx.length := ⟨_, rfl⟩
  have HN := Lib.hid hN
  have hN60 : N ≤ 60 := by
    have := hvi.len
    have := HL.out
    omega
  have hv9 : v.size ≤ 1000000000 := by have := HL.out; omega
  have HV9 := Lib.hid hv9
  have HRL := Lib.hid (show Reads w2 5 (.slice al N cl) N (v.idx.flatMap psC) by rw [hN]; exact hat.rl)
  have HBL := Lib.hid (show ∀ ad, al = some ad → ad.block < w2.heap.size from fun ad e => (hat.bl ad e).2)
  have HVF := Lib.hid hvf
  have hlv : vp < w2.heap.size := by
    obtain ⟨ix, vx, _, _, h1, _⟩ := hvf
    exact h1.lt
  obtain ⟨i0, i1, i2, i3, i4, i6n, hrvv⟩ : ∃ (i0 i1 i2 i3 : Int) (i4 : Bool) (i6n : Nat), rvV (Rv.of v ns) al cl ad cd = .agg #[.int .i64 i0, .int .i64 i1, .int .i64 i2, .int .i64 i3, .bool i4, .slice al N cl, .slice ad i6n cd] := ⟨_, _, _, _, _, _, by rw [hN]; rfl⟩
  rw [hrvv]
  have hz2 := hb.size
  clear hrvv hvf hfb hvi hac hsz hns hb hat hN hv9
  go_upto_region 6 with fail
  obtain ⟨w3, hw3⟩ : ∃ w3 : World, w3 = w2.alloc (.cells #[.int .i64 i0, .int .i64 i1, .int .i64 i2, .int .i64 i3, .bool i4, .slice al N cl, .slice ad i6n cd] 30) := ⟨_, rfl⟩
  have HB23 := Lib.hid (show Below w2.heap.size w2 w3 by rw [hw3]; exact (by repeat (first | (with_reducible first | exact .refl _ _ | refine .setCell ?_ ?_ _ | refine .alloc ?_ ?_ _ | refine .drewN ?_ _ | refine .drew ?_ | exact Nat.le_refl _) | (focus (simp only [World.size_alloc, World.size_setCell, World.size_drew, World.size_drewN]; omega)) | omega | exact Nat.le_refl _ | (focus (simp; done)) | (focus (simp; omega)))))
  have KM3 := Lib.hid (show w3.heap[w2.heap.size]? = some (.cells #[.int .i64 i0, .int .i64 i1, .int .i64 i2, .int .i64 i3, .bool i4, .slice al N cl, .slice ad i6n cd] 30 (0, 0)) by rw [hw3]; exact heap_new w2 _)
  rw [← hw3]
  clear hw3
  obtain ⟨MB, hMB⟩ : ∃ MB, MB = w2.heap.size := ⟨_, rfl⟩
  rw [← hMB] at KM3 ⊢
  have HMB := Lib.hid hMB
  clear hMB
  obtain ⟨q, hq, hql⟩ : ∃ q : Nat, (n1 : Int) % ((len : Int) + 1) = (q : Int) ∧ q ≤ len := ⟨n1 % (len + 1), by simp, by have := Nat.mod_lt n1 (show 0 < len + 1 by omega); omega⟩
  have hdv : ((len : Int) + 1) ≠ 0 := by omega
  have hz3 := HB23.out.size
  have HB3 := Lib.hid (HB2.out.trans (HB23.out.mono (by have := HB2.out.size; omega)))
  have hlm3 := blk_lt KM3.out
  have HMD2 := Lib.hid (show Calls Tryz.prog 11 #[.int .i64 2, .int .i64 1048576, .slice a q cap] w3 (MadeL w3 2 1048576 (l.take q)) from made_any 2 1048576 (.inr rfl) (by omega) (by omega) a q cap (l.take q) w3 (by rw [List.length_take, HL.out]; omega) (reads_take ActE.cs_len (HR.out.below HB3.out) HL.out hql) (fun x hx => (HO.out x (List.mem_of_mem_take hx)).below HB3.out) (by omega) (fun x hx => HF9.out.2 x (List.mem_of_mem_take hx)))
  have HQL := Lib.hid hql
  have hqc : (q : Int) ≤ (cap : Int) := by omega
  have hq0 : (0 : Int) ≤ (q : Int) := by omega
  clear hql
  go_wp2_with fail
  refine HMD2.out.mono ?_
  rintro e w4 ⟨vpb, dpb, FB, valb, db, vb, nb, rfl, hvfb, hfbb, hvib, hrvb, hacb, hszb, hnsb, hb⟩
  obtain ⟨u0, u1, u2, u3, u4, u5a, u5n, u5c, u6a, u6n, u6c, rfl⟩ := RvIn.agg hrvb
  have HLAW := Lib.hid (show Pre nb ns ∧ ns.length ≤ 60 ∧ nb.length ≤ 60 ∧ (∀ n ∈ ns, n.data.length ≤ 300) ∧ vb.size ≤ 30000 ∧ vb.most = 1048576 from by
    have hL := HL.out
    have hNS := HNS.out
    have e1 : ns = ((rv0 1 1048576).acts (l.map ActE.act)).d := by rw [← HAC.out]; rfl
    have e2 : nb = ((rv0 2 1048576).acts ((l.take q).map ActE.act)).d := by rw [← hacb]; rfl
    have e3 : rv0 2 1048576 = (rv0 1 1048576).under 2 := rfl
    have hlq : (l.take q).length ≤ 60 := by rw [List.length_take]; omega
    refine ⟨?_, by omega, by omega, fun n hn => ?_, by omega, ?_⟩
    · rw [e2, e3, Rv.acts_under, e1]
      show Pre ((rv0 1 1048576).acts ((l.take q).map ActE.act)).d _
      have e4 : l.map ActE.act = (l.take q).map ActE.act ++ (l.drop q).map ActE.act := by rw [← List.map_append, List.take_append_drop]
      rw [e4, Rv.acts_append]
      exact Pre.acts _ (Pre.refl _)
    · rw [e1] at hn
      rcases Rv.acts_mem (m := 300) (l.map ActE.act) (fun a ha => by
        obtain ⟨x, hx, rfl⟩ := List.mem_map.1 ha
        exact HF9.out.2 x hx) hn with h | h
      · exact absurd h List.not_mem_nil
      · exact h
    · have : (Rv.of vb nb).most = 1048576 := by rw [hacb, Rv.acts_most]; rfl
      exact this)
  obtain ⟨hp1, hp2, hp3, hp4, hp5, hp6⟩ := HLAW.out
  obtain ⟨hld, hil, hnd, hok, db1, vb1, nb1, hl1, hvb1, hl2, hok2, hbh1, hbh2, hget, hsz1⟩ := all_pre HVI.out hvib hp1 hp2 hp3 hp4 hp5 hp6
  have HLD := Lib.hid hld
  have HND := Lib.hid hnd
  have HOK := Lib.hid hok
  have HL1 := Lib.hid hl1
  have HVB1 := Lib.hid hvb1
  have HL2 := Lib.hid hl2
  have HOK2 := Lib.hid hok2
  have HBH1 := Lib.hid hbh1
  have HBH2 := Lib.hid hbh2
  have HGET := Lib.hid hget
  have HSZ1 := Lib.hid hsz1
  have hIB := hvib.idx_pos (by omega)
  have HIB := Lib.hid hIB
  have HIB1 := Lib.hid (hvb1.idx_pos (by omega))
  obtain ⟨Q, hQ⟩ : ∃ Q : Nat → Prop, Q = fun k => k = MB ∨ ∃ ad, al = some ad ∧ k = ad.block := ⟨_, rfl⟩
  have HQ := Lib.hid hQ
  clear hQ
  have HTW := Lib.hid (show TwoQ Q 245 w.heap.size w4 vp dp vpb dpb d v db vb by
    have hlt := HVF.out.lt
    have hsz := HB2.out.size
    have hQM : ∀ k, Q k → k < w3.heap.size := fun k hk => by
      rw [HQ.out] at hk
      rcases hk with e | ⟨ad, e, e2⟩
      · rw [e]; exact hlm3
      · have := HBL.out ad e; rw [e2]; omega
    refine ⟨F, FB, HVF.out.keeps (R := fun k => w2.heap.size ≤ k) (Keeps.of_below (HB23.out.trans (hb.mono hz3)) fun k _ hk => by omega) (fun k hf e => by have := hlt k hf; omega), hvfb, fun j hj => ⟨fun e => ?_, ?_⟩, fun j hj => ⟨?_, fun e => ?_⟩, Nat.le_trans hsz (Nat.le_trans hz3 hb.size), fun j hj => Nat.lt_of_lt_of_le (hQM j hj) hb.size⟩
    · have h1 := hlt j hj
      have h2 := hfbb j e
      omega
    · have h1 := HFB.out j hj
      omega
    · have h2 := hfbb j hj
      omega
    · have h2 := hfbb j hj
      have := hQM j e
      omega)
  have KM4 := Lib.hid (blk_below' KM3.out hb)
  have HRL4 := Lib.hid ((HRL.out.below HB23.out).below hb)
  have HB4 := Lib.hid (HB3.out.trans (hb.mono HB3.out.size))
  have hz4 := hb.size
  clear hvfb hfbb hvib hrvb hacb hszb hnsb hb hld hil hnd hok hl1 hvb1 hl2 hok2 hbh1 hbh2 hget hsz1 hIB hp1 hp2 hp3 hp4 hp5 hp6 hdv hq
  go_upto_region 7 with fail
  obtain ⟨w5, hw5⟩ : ∃ w5 : World, w5 = w4.alloc (.cells #[.int .i64 u0, .int .i64 u1, .int .i64 u2, .int .i64 u3, .bool u4, .slice u5a u5n u5c, .slice u6a u6n u6c] 30) := ⟨_, rfl⟩
  have hb5 : Below w4.heap.size w4 w5 := by rw [hw5]; exact (by repeat (first | (with_reducible first | exact .refl _ _ | refine .setCell ?_ ?_ _ | refine .alloc ?_ ?_ _ | refine .drewN ?_ _ | refine .drew ?_ | exact Nat.le_refl _) | (focus (simp only [World.size_alloc, World.size_setCell, World.size_drew, World.size_drewN]; omega)) | omega | exact Nat.le_refl _ | (focus (simp; done)) | (focus (simp; omega))))
  have HTW5 := Lib.hid (HTW.out.below hb5)
  have KM5 := Lib.hid (blk_below' KM4.out hb5)
  have HRL5 := Lib.hid (HRL4.out.below hb5)
  have HB5 := Lib.hid (HB4.out.trans (hb5.mono HB4.out.size))
  have hz5 := hb5.size
  rw [← hw5]
  clear hw5 hb5
  have HBE := Lib.hid (show Calls Tryz.prog 24 #[(.pointer (some ⟨vp, 0, none⟩)), (.pointer (some ⟨vpb, 0, none⟩))] w5 (BehindTo w5 (behindL vb v.idx)) by
    obtain ⟨ixa, vxa, ixb, vxb, h1, h2⟩ := HTW5.out.at'
    exact behind_any h1 h2)
  unfold BehindTo at HBE
  obtain ⟨lk, hlk⟩ : ∃ lk, lk = (behindL vb v.idx).length := ⟨_, rfl⟩
  have hlkN : lk ≤ N := by
    rw [hlk, HN.out]
    unfold behindL
    rw [List.length_map]
    exact List.length_filter_le _ _
  rw [← hlk] at HBE
  clear hlk
  go_wp2_with fail
  refine HBE.out.mono ?_
  rintro e w6 ⟨vl6, rfl, hr6, hb⟩
  obtain ⟨a6, c6, rfl, -⟩ := slice_of hr6
  have HT6 := Lib.hid (HTW5.out.below hb)
  have KM6 := Lib.hid (blk_below' KM5.out hb)
  have HRL6 := Lib.hid (HRL5.out.below hb)
  have HB6 := Lib.hid (HB5.out.trans (hb.mono HB5.out.size))
  have hz6 := hb.size
  clear hr6 hb HBE
  -- a laid on b
  obtain ⟨P1, FA1, hv1, hf1, hP1, hfP1, hto1⟩ := HT6.out.one
  have HTO1 := Lib.hid hto1
  have HC1 := Lib.hid (show Calls Tryz.prog 25 #[(.pointer (some ⟨vp, 0, none⟩)), (.pointer (some ⟨vpb, 0, none⟩))] w6 fun e w' => e = .returned (.tuple #[.int .i64 N, .nilIface]) ∧ VTo w6 w' vpb dpb P1 245 db1 vb1 by
    have h9 := shall_vs hv1 hP1 hf1 hfP1 (HVI.out.idx_pos HV9.out) (by rw [HLD.out]) (fun n hn => by
      rw [HLD.out] at hn
      have := HND.out n hn
      exact ⟨this.1.1, this.1.2.1, by omega⟩) (by rw [HLD.out]; exact HOK.out) (by rw [HLD.out]; simp only [List.length_map]; have := HN.out; omega)
    rw [HLD.out] at h9
    simp only at h9
    rw [HL1.out, ← HN.out] at h9
    exact h9)
  clear hv1 hf1 hP1 hfP1 hto1
  go_wp2_with fail
  refine HC1.out.mono ?_
  rintro e w7 ⟨rfl, ht⟩
  have HX7 := Lib.hid (HTO1.out _ _ _ ht)
  clear ht HC1 HTO1
  have HT7 := Lib.hid HX7.out.1
  have HB7 := Lib.hid (HB6.out.trans HX7.out.2.1)
  have KM7 := Lib.hid (HX7.out.2.2.blk KM6.out (by rw [HQ.out]; exact .inl rfl))
  have HRL7 := Lib.hid (show Reads w7 5 (.slice al N cl) N (v.idx.flatMap psC) from HRL6.out.keepsN (by omega) HX7.out.2.2 fun ad e => ⟨by have := HBL.out ad e; omega, fun f => f (by rw [HQ.out]; exact .inr ⟨ad, e, rfl⟩)⟩)
  have hz7 := HX7.out.2.2.size
  -- behind, once more
  have HBE := Lib.hid (show Calls Tryz.prog 24 #[(.pointer (some ⟨vp, 0, none⟩)), (.pointer (some ⟨vpb, 0, none⟩))] w7 (BehindTo w7 []) by
    obtain ⟨ixa, vxa, ixb, vxb, h1, h2⟩ := HT7.out.at'
    have := behind_any h1 h2
    rwa [HBH1.out] at this)
  unfold BehindTo at HBE
  go_wp2_with fail
  refine HBE.out.mono ?_
  rintro e w8 ⟨vl8, rfl, hr8, hb⟩
  obtain ⟨a8, c8, rfl, -⟩ := slice_of hr8
  have HT8 := Lib.hid (HT7.out.below hb)
  have KM8 := Lib.hid (blk_below' KM7.out hb)
  have HRL8 := Lib.hid (HRL7.out.below hb)
  have HB8 := Lib.hid (HB7.out.trans (hb.mono HB7.out.size))
  have hz8 := hb.size
  clear hr8 hb HBE
  have HIF := Lib.hid (fun (w0 : World) (ix : Nat) (vx : Value) (h : VolAt w0 vpb dpb ix vx vb1) => show Calls Tryz.prog 26 #[(.pointer (some ⟨vpb, 0, none⟩))] w0 fun e w' => e = .returned (infoV vb1) ∧ Below w0.heap.size w0 w' from info_any h)
  unfold infoV at HIF
  obtain ⟨il1, hil1⟩ : ∃ il1, il1 = vb1.idx.length - goneN vb1.idx := ⟨_, rfl⟩
  obtain ⟨ig1, hig1⟩ : ∃ ig1, ig1 = goneN vb1.idx := ⟨_, rfl⟩
  rw [← hil1, ← hig1] at HIF
  clear hil1 hig1
  have hfd : ∀ w : World, (Instr.field 78 (.agg #[.int .i64 vb1.num, .int .i64 vb1.gen, .int .i64 vb1.epoch, .int .i64 vb1.size, .int .i64 il1, .int .i64 ig1, .bool vb1.shut]) 3).run Tryz.prog w = .ok (.int .i64 vb1.size) w := fun _ => by kernel_rfl
  have HI8 := Lib.hid (show ∃ ix vx, VolAt w8 vpb dpb ix vx vb1 by obtain ⟨_, _, ix, vx, _, h⟩ := HT8.out.at'; exact ⟨ix, vx, h⟩)
  go_wp2_with fail
  refine (show Calls _ _ _ _ _ from by obtain ⟨ix, vx, h⟩ := HI8.out; exact HIF.out w8 ix vx h).mono ?_
  rintro e w9 ⟨rfl, hb⟩
  have HT9 := Lib.hid (HT8.out.below hb)
  have KM9 := Lib.hid (blk_below' KM8.out hb)
  have HRL9 := Lib.hid (HRL8.out.below hb)
  have HB9 := Lib.hid (HB8.out.trans (hb.mono HB8.out.size))
  have hz9 := hb.size
  clear hb
  -- laid once more
  obtain ⟨P2, FA2, hv2, hf2, hP2, hfP2, hto2⟩ := HT9.out.one
  have HTO2 := Lib.hid hto2
  have HC2 := Lib.hid (show Calls Tryz.prog 25 #[(.pointer (some ⟨vp, 0, none⟩)), (.pointer (some ⟨vpb, 0, none⟩))] w9 fun e w' => e = .returned (.tuple #[.int .i64 N, .nilIface]) ∧ VTo w9 w' vpb dpb P2 245 db1 vb1 by
    have h9 := shall_vs hv2 hP2 hf2 hfP2 (HVI.out.idx_pos HV9.out) (by rw [HLD.out]) (fun n hn => by
      rw [HLD.out] at hn
      have := HND.out n hn
      exact ⟨this.1.1, this.1.2.1, by omega⟩) (by rw [HLD.out]; exact HOK2.out) (by rw [HLD.out]; simp only [List.length_map]; have := HN.out; omega)
    rw [HLD.out] at h9
    simp only at h9
    rw [HL2.out, ← HN.out] at h9
    exact h9)
  clear hv2 hf2 hP2 hfP2 hto2
  go_wp2_with fail
  refine HC2.out.mono ?_
  rintro e w10 ⟨rfl, ht⟩
  have HX10 := Lib.hid (HTO2.out _ _ _ ht)
  clear ht HC2 HTO2
  have HT10 := Lib.hid HX10.out.1
  have HB10 := Lib.hid (HB9.out.trans HX10.out.2.1)
  have KM10 := Lib.hid (HX10.out.2.2.blk KM9.out (by rw [HQ.out]; exact .inl rfl))
  have HRL10 := Lib.hid (show Reads w10 5 (.slice al N cl) N (v.idx.flatMap psC) from HRL9.out.keepsN (by omega) HX10.out.2.2 fun ad e => ⟨by have := HBL.out ad e; omega, fun f => f (by rw [HQ.out]; exact .inr ⟨ad, e, rfl⟩)⟩)
  have hz10 := HX10.out.2.2.size
  have HBE := Lib.hid (show Calls Tryz.prog 24 #[(.pointer (some ⟨vpb, 0, none⟩)), (.pointer (some ⟨vp, 0, none⟩))] w10 (BehindTo w10 []) by
    obtain ⟨ixa, vxa, ixb, vxb, h1, h2⟩ := HT10.out.at'
    have := behind_any h2 h1
    rwa [HBH2.out] at this)
  unfold BehindTo at HBE
  go_wp2_with fail
  refine HBE.out.mono ?_
  rintro e w11 ⟨vl11, rfl, hr11, hb⟩
  obtain ⟨a11, c11, rfl, -⟩ := slice_of hr11
  have HT11 := Lib.hid (HT10.out.below hb)
  have KM11 := Lib.hid (blk_below' KM10.out hb)
  have HRL11 := Lib.hid (HRL10.out.below hb)
  have HB11 := Lib.hid (HB10.out.trans (hb.mono HB10.out.size))
  have hz11 := hb.size
  clear hr11 hb HBE
  go_wp2_with fail
  refine (code0 _).mono ?_
  rintro e wx ⟨rfl, rfl⟩
  go_wp2_with fail
  refine (code0 _).mono ?_
  rintro e wx ⟨rfl, rfl⟩
  go_wp2_with fail
  refine (code0 _).mono ?_
  rintro e wx ⟨rfl, rfl⟩
  go_wp2_with fail
  refine (code0 _).mono ?_
  rintro e wx ⟨rfl, rfl⟩
  go_wp2_with fail
  refine (code0 _).mono ?_
  rintro e wx ⟨rfl, rfl⟩
  obtain ⟨m0, m1, m2, m3, m4, m5, m6⟩ := cells7' KM11.out
  have hlm11 := blk_lt KM11.out
  have d1 : decide ((N : Int) < (lk : Int)) = false := by simp; omega
  have d2 : decide (N < lk) = false := by simp; omega
  have HI11 := Lib.hid (show ∃ ix vx, VolAt w11 vpb dpb ix vx vb1 by obtain ⟨_, _, ix, vx, _, h⟩ := HT11.out.at'; exact ⟨ix, vx, h⟩)
  go_wp2_with fail
  refine (show Calls _ _ _ _ _ from by obtain ⟨ix, vx, h⟩ := HI11.out; exact HIF.out w11 ix vx h).mono ?_
  rintro e w12 ⟨rfl, hb⟩
  have HT12 := Lib.hid (HT11.out.below hb)
  have KM12 := Lib.hid (blk_below' KM11.out hb)
  have HRL12 := Lib.hid (HRL11.out.below hb)
  have HB12 := Lib.hid (HB11.out.trans (hb.mono HB11.out.size))
  have hz12 := hb.size
  clear hb m0 m1 m2 m3 m4 m5 m6
  go_wp2_with fail
  go_loopg [22] N (fun g i wr => ∃ k : Nat, k ≤ N ∧ g = N - k ∧ i = .int .i64 k ∧ Below w12.heap.size w12 wr)
  case atStart => exact ⟨0, Nat.zero_le _, rfl, rfl, Below.refl _ _⟩
  case round =>
    obtain ⟨k, hk, rfl, rfl, hbr⟩ := hrel
    have HBR := Lib.hid hbr
    have HTR := Lib.hid (HT12.out.below hbr)
    have KMX := Lib.hid (blk_below' KM12.out hbr)
    have HRLR := Lib.hid (HRL12.out.below hbr)
    have hzr := hbr.size
    clear hbr
    obtain ⟨m0, m1, m2, m3, m4, m5, m6⟩ := cells7' KMX.out
    have hlmr := blk_lt KMX.out
    by_cases hlt : k < N
    · obtain ⟨p, hp⟩ : ∃ p, v.idx[k]? = some p := ⟨_, List.getElem?_eq_getElem (by rw [← HN.out]; exact hlt)⟩
      obtain ⟨b, o, c', e, hblt, r0, r1, r2, r3, r4⟩ := ps_cells HRLR.out hp (by omega)
      obtain ⟨rfl, -, rfl⟩ := sl_inj e
      have hj0 : (0 : Int) ≤ (k : Int) := by omega
      have hj1 : (k : Int) < (N : Int) := by omega
      clear hp e r1 r2 r4
      obtain ⟨pk, po, pl, pc, pg⟩ := p
      simp only at r0 r3
      obtain ⟨G, hG⟩ : ∃ G, G = v.get d pk pc := ⟨_, rfl⟩
      have HGE := Lib.hid hG
      have htl : G.2.1 = false := by rw [hG]; exact HVI.out.told _ _
      have h17 : G.1 ≤ 17 := by rw [hG, (HVI.out.gets pk pc).1]; exact Rv.look_17 _ _ _
      clear hG
      obtain ⟨C, tl, nk, nc, ng, nd⟩ := G
      simp only at htl h17
      subst htl
      have HGB := Lib.hid (fun (w0 : World) (hb : Below wr.heap.size wr w0) => show Calls Tryz.prog 27 #[(.pointer (some ⟨vpb, 0, none⟩)), .int .u64 pk, .int .u32 pc] w0 (GotV w0 (C, false, ⟨nk, nc, ng, nd⟩)) by
        rw [HGE.out, ← HGET.out]
        obtain ⟨FA, FB, g1, g2, _⟩ := HTR.out.below hb
        obtain ⟨ix, vx, P, h1, h2, h4⟩ := g2.at'
        exact vget_any h1 h2 h4.names h4.long.1 _ _ (find_in HIB1.out).1 (find_in HIB1.out).2)
      have HGA := Lib.hid (fun (w0 : World) (hb : Below wr.heap.size wr w0) => show Calls Tryz.prog 27 #[(.pointer (some ⟨vp, 0, none⟩)), .int .u64 pk, .int .u32 pc] w0 (GotV w0 (C, false, ⟨nk, nc, ng, nd⟩)) by
        rw [HGE.out]
        obtain ⟨FA, FB, g1, g2, _⟩ := HTR.out.below hb
        obtain ⟨ix, vx, P, h1, h2, h4⟩ := g1.at'
        exact vget_any h1 h2 h4.names h4.long.1 _ _ (find_in (HVI.out.idx_pos HV9.out)).1 (find_in (HVI.out.idx_pos HV9.out)).2)
      unfold GotV at HGB HGA
      obtain ⟨ndl, hndl⟩ : ∃ ndl, ndl = nd.length := ⟨_, rfl⟩
      have HDL := Lib.hid hndl
      clear hndl
      go_upto_region 22 with fail
      clear m0 m1 m2 m3 m4 m5 m6
      go_cut [23, 24] (fun x1 x2 wx => ∃ (bx : Nat) (da : Option Addr) (dc : Nat), x1 = .pointer (some ⟨bx, 0, none⟩) ∧ x2 = errV C ∧ wr.heap.size ≤ bx ∧ Below wr.heap.size wr wx ∧ wx.heap[bx]? = some (.cells #[.int .u64 nk, .int .u32 nc, .bool ng, .slice da ndl dc] 48 (0, 0)) ∧ Reads wx 1 (.slice da ndl dc) ndl (nd.map bv))
      case first =>
        focus
          obtain ⟨SS, HSD⟩ : ∃ SS : World → Prop, Hid (SS = fun w' => Below wr.heap.size wr w') := ⟨_, Lib.hid rfl⟩
          refine wp_region_mask0 SS [2, 6, 8, 12] [0, 0, 2, 0, 14, 30, 62, 0, 128, 0, 896, 1920, 3968, 8191, 16383, 32767, 32767, 0, 196607, 524287] (.op 0 0 (.op 1 0 (.op 2 2 (.op 3 0 (.op 4 0 (.op 5 0 (.op 6 2 (.op 7 0 (.op 8 2 (.op 9 0 (.op 10 0 (.op 11 0 (.op 12 2 (.two 13 (.op 14 0 (.op 15 0 (.op 16 0 (.op 17 1 (.op 18 1 (.op 19 0 .nil)))))) 17 (.op 13 1 (.op 14 0 (.op 15 0 (.op 16 0 (.op 18 1 (.op 19 0 .nil)))))))))))))))))))) (by kernel_rfl) (by kernel_rfl) rfl (by kernel_rfl) (by kernel_rfl) ?_ ?_
          (focus (rw [HSD.out]; exact Below.drew (Below.refl _ _))); refine stepM0 rfl rfl fun K hK => ?_; go_simp; refine hK _ ?_; clear hK K; refine stepM0 rfl rfl fun K hK => ?_; go_simp; refine hK _ ?_; clear hK K; refine stepM2 rfl rfl ?_ (fun w1 hS => ?_) fun K hK => ?_; rotate_left; (focus (rw [HSD.out] at hS; obtain ⟨z0, z1, z2, z3, z4, z5, z6⟩ := cells7' (blk_below' KMX.out hS); have q0 := ((bcell hS).1 b (o + k * 5) hblt).trans r0; have q3 := ((bcell hS).1 b (o + k * 5 + 3) hblt).trans r3; go_simp; rfl)); go_simp; refine hK _ ?_; clear hK K; refine stepM0 rfl rfl fun K hK => ?_; go_simp; refine hK _ ?_; clear hK K; refine stepM0 rfl rfl fun K hK => ?_; go_simp; refine hK _ ?_; clear hK K; refine stepM0 rfl rfl fun K hK => ?_; go_simp; refine hK _ ?_; clear hK K; refine stepM2 rfl rfl ?_ (fun w1 hS => ?_) fun K hK => ?_; rotate_left; (focus (rw [HSD.out] at hS; obtain ⟨z0, z1, z2, z3, z4, z5, z6⟩ := cells7' (blk_below' KMX.out hS); have q0 := ((bcell hS).1 b (o + k * 5) hblt).trans r0; have q3 := ((bcell hS).1 b (o + k * 5 + 3) hblt).trans r3; go_simp; rfl)); go_simp; refine hK _ ?_; clear hK K; refine stepM0 rfl rfl fun K hK => ?_; go_simp; refine hK _ ?_; clear hK K; refine stepM2 rfl rfl ?_ (fun w1 hS => ?_) fun K hK => ?_; rotate_left; (focus (rw [HSD.out] at hS; obtain ⟨z0, z1, z2, z3, z4, z5, z6⟩ := cells7' (blk_below' KMX.out hS); have q0 := ((bcell hS).1 b (o + k * 5) hblt).trans r0; have q3 := ((bcell hS).1 b (o + k * 5 + 3) hblt).trans r3; go_simp; rfl)); go_simp; refine hK _ ?_; clear hK K; refine stepM0 rfl rfl fun K hK => ?_; go_simp; refine hK _ ?_; clear hK K; refine stepM0 rfl rfl fun K hK => ?_; go_simp; refine hK _ ?_; clear hK K; refine stepM0 rfl rfl fun K hK => ?_; go_simp; refine hK _ ?_; clear hK K; refine stepM2 rfl rfl ?_ (fun w1 hS => ?_) fun K hK => ?_; rotate_left; (focus (rw [HSD.out] at hS; obtain ⟨z0, z1, z2, z3, z4, z5, z6⟩ := cells7' (blk_below' KMX.out hS); have q0 := ((bcell hS).1 b (o + k * 5) hblt).trans r0; have q3 := ((bcell hS).1 b (o + k * 5 + 3) hblt).trans r3; go_simp; rfl)); go_simp; refine hK _ ?_; clear hK K
          refine stepMtwo ?_ ?_ (by kernel_rfl) (by kernel_rfl)
          ·
            refine stepM1 rfl rfl (by kernel_rfl) fun K hK => ?_
            (go_wp2_with fail; refine (HGB.out wr.drew (by repeat (first | (with_reducible first | exact .refl _ _ | refine .setCell ?_ ?_ _ | refine .alloc ?_ ?_ _ | refine .drewN ?_ _ | refine .drew ?_ | exact Nat.le_refl _) | (focus (simp only [World.size_alloc, World.size_setCell, World.size_drew, World.size_drewN]; omega)) | omega | exact Nat.le_refl _ | (focus (simp; done)) | (focus (simp; omega))))).mono ?_; rintro e w5 ⟨vd, ev, rfl, her, hown, hb5⟩; have hev : ev = errV C := (by rcases her with ⟨_, e⟩ | ⟨e, _⟩; exact e; cases e); subst hev; obtain ⟨da, dc, rfl, -⟩ := slice_of hown; have HOW := Lib.hid (show w5.ownsRow wr.drew.heap.size 5 1 (.slice da nd.length dc) nd.length (nd.map bv) from hown); rw [← HDL.out] at HOW; simp only; rw [← HDL.out]; have HB5 := Lib.hid (show Below wr.heap.size wr w5 from Below.trans (Below.drew (Below.refl _ _)) (hb5.mono (Nat.le_refl _))); have hz5 := HB5.out.size; clear her hown hb5; go_wp2)
            refine stepM0 rfl rfl fun K hK => ?_; go_simp; refine hK _ ?_; clear hK K; refine stepM0 rfl rfl fun K hK => ?_; go_simp; refine hK _ ?_; clear hK K; refine stepM0 rfl rfl fun K hK => ?_; go_simp; refine hK _ ?_; clear hK K; refine stepM1S rfl rfl fun K hK => ?_; go_wp2
            refine ⟨by rw [HSD.out]; exact ((by first | exact HB5.out.alloc hz5 _ | exact (by repeat (first | (with_reducible first | exact .refl _ _ | refine .setCell ?_ ?_ _ | refine .alloc ?_ ?_ _ | refine .drewN ?_ _ | refine .drew ?_ | exact Nat.le_refl _) | (focus (simp only [World.size_alloc, World.size_setCell, World.size_drew, World.size_drewN]; omega)) | omega | exact Nat.le_refl _ | (focus (simp; done)) | (focus (simp; omega)))))), ?_⟩
            refine stepM1 rfl rfl (by kernel_rfl) fun K hK => ?_; go_wp2; refine stepM0 rfl rfl fun K hK => ?_; go_simp; refine hK _ ?_; clear hK K
            try refine stepMnil0 ?_
            clear HSD SS
            go_wp2_with fail
            go_meet
            exact ⟨w5.heap.size, da, dc, rfl, rfl, hz5, HB5.out.alloc hz5 _, heap_new w5 _, reads_of_owns (ownsRow_below HOW.out (by repeat (first | (with_reducible first | exact .refl _ _ | refine .setCell ?_ ?_ _ | refine .alloc ?_ ?_ _ | refine .drewN ?_ _ | refine .drew ?_ | exact Nat.le_refl _) | (focus (simp only [World.size_alloc, World.size_setCell, World.size_drew, World.size_drewN]; omega)) | omega | exact Nat.le_refl _ | (focus (simp; done)) | (focus (simp; omega)))))⟩
          ·
            refine stepM1S rfl rfl fun K hK => ?_; go_wp2
            refine ⟨by rw [HSD.out]; exact ((by first | exact HB5.out.alloc hz5 _ | exact (by repeat (first | (with_reducible first | exact .refl _ _ | refine .setCell ?_ ?_ _ | refine .alloc ?_ ?_ _ | refine .drewN ?_ _ | refine .drew ?_ | exact Nat.le_refl _) | (focus (simp only [World.size_alloc, World.size_setCell, World.size_drew, World.size_drewN]; omega)) | omega | exact Nat.le_refl _ | (focus (simp; done)) | (focus (simp; omega)))))), ?_⟩
            refine stepM1 rfl rfl (by kernel_rfl) fun K hK => ?_
            (go_wp2_with fail; refine (HGB.out _ (by repeat (first | (with_reducible first | exact .refl _ _ | refine .setCell ?_ ?_ _ | refine .alloc ?_ ?_ _ | refine .drewN ?_ _ | refine .drew ?_ | exact Nat.le_refl _) | (focus (simp only [World.size_alloc, World.size_setCell, World.size_drew, World.size_drewN]; omega)) | omega | exact Nat.le_refl _ | (focus (simp; done)) | (focus (simp; omega))))).mono ?_; rintro e w5 ⟨vd, ev, rfl, her, hown, hb5⟩; have hev : ev = errV C := (by rcases her with ⟨_, e⟩ | ⟨e, _⟩; exact e; cases e); subst hev; obtain ⟨da, dc, rfl, -⟩ := slice_of hown; have HOW := Lib.hid (show w5.ownsRow (wr.drew.alloc (.cells #[.int .u64 0, .int .u32 0, .bool false, .slice none 0 0] 48)).heap.size 5 1 (.slice da nd.length dc) nd.length (nd.map bv) from hown); rw [← HDL.out] at HOW; simp only; rw [← HDL.out]; have HB5 := Lib.hid (show Below wr.heap.size wr w5 from Below.trans (show Below wr.heap.size wr (wr.drew.alloc (.cells #[.int .u64 0, .int .u32 0, .bool false, .slice none 0 0] 48)) from (by repeat (first | (with_reducible first | exact .refl _ _ | refine .setCell ?_ ?_ _ | refine .alloc ?_ ?_ _ | refine .drewN ?_ _ | refine .drew ?_ | exact Nat.le_refl _) | (focus (simp only [World.size_alloc, World.size_setCell, World.size_drew, World.size_drewN]; omega)) | omega | exact Nat.le_refl _ | (focus (simp; done)) | (focus (simp; omega))))) (hb5.mono (by simp))); have KX5 := Lib.hid (show w5.heap[wr.heap.size]? = some (.cells #[.int .u64 0, .int .u32 0, .bool false, .slice none 0 0] 48 (0, 0)) from blk_below' (show (wr.drew.alloc (.cells #[.int .u64 0, .int .u32 0, .bool false, .slice none 0 0] 48)).heap[wr.heap.size]? = _ from heap_new _ _) hb5); have hz5 := HB5.out.size; obtain ⟨n0, n1', n2', n3'⟩ := ncells KX5.out; obtain ⟨o0, o1, o2, o3⟩ := nfree KX5.out; have hlx := blk_lt KX5.out; clear her hown hb5; go_wp2)
            refine stepM0 rfl rfl fun K hK => ?_; go_simp; refine hK _ ?_; clear hK K; refine stepM0 rfl rfl fun K hK => ?_; go_simp; refine hK _ ?_; clear hK K; refine stepM0 rfl rfl fun K hK => ?_; go_simp; refine hK _ ?_; clear hK K; refine stepM1 rfl rfl (by kernel_rfl) fun K hK => ?_; go_wp2; refine stepM0 rfl rfl fun K hK => ?_; go_simp; refine hK _ ?_; clear hK K
            try refine stepMnil0 ?_
            clear HSD SS
            go_wp2_with fail
            go_meet
            exact ⟨wr.heap.size, da, dc, rfl, rfl, Nat.le_refl _, HB5.out.trans ((set4_keeps w5 wr.heap.size _ _ _ _).below hz5 fun j e => by rw [e]; exact Nat.le_refl _), store4 KX5.out _ _ _ _, reads_of_owns (ownsRow_keeps HOW.out (set4_keeps w5 wr.heap.size _ _ _ _) (fun j hj e => by have h1 := (HOW.out.lt j hj).1; simp only [World.size_alloc, World.size_drew] at h1; omega))⟩
      case rest =>
      obtain ⟨bx, dxa, dxc, rfl, rfl, hbx, hbc, kbx, hrx⟩ := hcut
      obtain ⟨wo, rfl⟩ : ∃ wo : World, wo = wc := ⟨_, rfl⟩
      have HBC := Lib.hid hbc
      have KX := Lib.hid kbx
      have HRX := Lib.hid hrx
      have KMX := Lib.hid (blk_below' KMX.out hbc)
      have r0 := ((bcell hbc).1 b (o + k * 5) hblt).trans r0
      have r3 := ((bcell hbc).1 b (o + k * 5 + 3) hblt).trans r3
      have hzo := hbc.size
      have hblt := Nat.lt_of_lt_of_le hblt hzo
      have HGA := Lib.hid (fun (w0 : World) (hb : Below wo.heap.size wo w0) => HGA.out w0 (HBC.out.trans (hb.mono hzo)))
      have hlx0 := blk_lt kbx
      clear hbc kbx hrx
      go_upto_region 23 with fail
      go_cut [25, 26] (fun x1 x2 wx => ∃ (bx : Nat) (da : Option Addr) (dc : Nat), x1 = .pointer (some ⟨bx, 0, none⟩) ∧ x2 = errV C ∧ wo.heap.size ≤ bx ∧ Below wo.heap.size wo wx ∧ wx.heap[bx]? = some (.cells #[.int .u64 nk, .int .u32 nc, .bool ng, .slice da ndl dc] 48 (0, 0)) ∧ Reads wx 1 (.slice da ndl dc) ndl (nd.map bv))
      case first =>
        focus
          obtain ⟨SS, HSD⟩ : ∃ SS : World → Prop, Hid (SS = fun w' => Below wo.heap.size wo w') := ⟨_, Lib.hid rfl⟩
          refine wp_region_mask0 SS [2, 6, 8, 12] [0, 0, 2, 0, 14, 30, 62, 0, 128, 0, 896, 1920, 3968, 8191, 16383, 32767, 32767, 0, 196607, 524287] (.op 0 0 (.op 1 0 (.op 2 2 (.op 3 0 (.op 4 0 (.op 5 0 (.op 6 2 (.op 7 0 (.op 8 2 (.op 9 0 (.op 10 0 (.op 11 0 (.op 12 2 (.two 13 (.op 14 0 (.op 15 0 (.op 16 0 (.op 17 1 (.op 18 1 (.op 19 0 .nil)))))) 17 (.op 13 1 (.op 14 0 (.op 15 0 (.op 16 0 (.op 18 1 (.op 19 0 .nil)))))))))))))))))))) (by kernel_rfl) (by kernel_rfl) rfl (by kernel_rfl) (by kernel_rfl) ?_ ?_
          (focus (rw [HSD.out]; exact Below.drew (Below.refl _ _))); refine stepM0 rfl rfl fun K hK => ?_; go_simp; refine hK _ ?_; clear hK K; refine stepM0 rfl rfl fun K hK => ?_; go_simp; refine hK _ ?_; clear hK K; refine stepM2 rfl rfl ?_ (fun w1 hS => ?_) fun K hK => ?_; rotate_left; (focus (rw [HSD.out] at hS; obtain ⟨z0, z1, z2, z3, z4, z5, z6⟩ := cells7' (blk_below' KMX.out hS); have q0 := ((bcell hS).1 b (o + k * 5) hblt).trans r0; have q3 := ((bcell hS).1 b (o + k * 5 + 3) hblt).trans r3; go_simp; rfl)); go_simp; refine hK _ ?_; clear hK K; refine stepM0 rfl rfl fun K hK => ?_; go_simp; refine hK _ ?_; clear hK K; refine stepM0 rfl rfl fun K hK => ?_; go_simp; refine hK _ ?_; clear hK K; refine stepM0 rfl rfl fun K hK => ?_; go_simp; refine hK _ ?_; clear hK K; refine stepM2 rfl rfl ?_ (fun w1 hS => ?_) fun K hK => ?_; rotate_left; (focus (rw [HSD.out] at hS; obtain ⟨z0, z1, z2, z3, z4, z5, z6⟩ := cells7' (blk_below' KMX.out hS); have q0 := ((bcell hS).1 b (o + k * 5) hblt).trans r0; have q3 := ((bcell hS).1 b (o + k * 5 + 3) hblt).trans r3; go_simp; rfl)); go_simp; refine hK _ ?_; clear hK K; refine stepM0 rfl rfl fun K hK => ?_; go_simp; refine hK _ ?_; clear hK K; refine stepM2 rfl rfl ?_ (fun w1 hS => ?_) fun K hK => ?_; rotate_left; (focus (rw [HSD.out] at hS; obtain ⟨z0, z1, z2, z3, z4, z5, z6⟩ := cells7' (blk_below' KMX.out hS); have q0 := ((bcell hS).1 b (o + k * 5) hblt).trans r0; have q3 := ((bcell hS).1 b (o + k * 5 + 3) hblt).trans r3; go_simp; rfl)); go_simp; refine hK _ ?_; clear hK K; refine stepM0 rfl rfl fun K hK => ?_; go_simp; refine hK _ ?_; clear hK K; refine stepM0 rfl rfl fun K hK => ?_; go_simp; refine hK _ ?_; clear hK K; refine stepM0 rfl rfl fun K hK => ?_; go_simp; refine hK _ ?_; clear hK K; refine stepM2 rfl rfl ?_ (fun w1 hS => ?_) fun K hK => ?_; rotate_left; (focus (rw [HSD.out] at hS; obtain ⟨z0, z1, z2, z3, z4, z5, z6⟩ := cells7' (blk_below' KMX.out hS); have q0 := ((bcell hS).1 b (o + k * 5) hblt).trans r0; have q3 := ((bcell hS).1 b (o + k * 5 + 3) hblt).trans r3; go_simp; rfl)); go_simp; refine hK _ ?_; clear hK K
          refine stepMtwo ?_ ?_ (by kernel_rfl) (by kernel_rfl)
          ·
            refine stepM1 rfl rfl (by kernel_rfl) fun K hK => ?_
            (go_wp2_with fail; refine (HGA.out wo.drew (by repeat (first | (with_reducible first | exact .refl _ _ | refine .setCell ?_ ?_ _ | refine .alloc ?_ ?_ _ | refine .drewN ?_ _ | refine .drew ?_ | exact Nat.le_refl _) | (focus (simp only [World.size_alloc, World.size_setCell, World.size_drew, World.size_drewN]; omega)) | omega | exact Nat.le_refl _ | (focus (simp; done)) | (focus (simp; omega))))).mono ?_; rintro e w5 ⟨vd, ev, rfl, her, hown, hb5⟩; have hev : ev = errV C := (by rcases her with ⟨_, e⟩ | ⟨e, _⟩; exact e; cases e); subst hev; obtain ⟨da, dc, rfl, -⟩ := slice_of hown; have HOW := Lib.hid (show w5.ownsRow wo.drew.heap.size 5 1 (.slice da nd.length dc) nd.length (nd.map bv) from hown); rw [← HDL.out] at HOW; simp only; rw [← HDL.out]; have HB5 := Lib.hid (show Below wo.heap.size wo w5 from Below.trans (Below.drew (Below.refl _ _)) (hb5.mono (Nat.le_refl _))); have hz5 := HB5.out.size; clear her hown hb5; go_wp2)
            refine stepM0 rfl rfl fun K hK => ?_; go_simp; refine hK _ ?_; clear hK K; refine stepM0 rfl rfl fun K hK => ?_; go_simp; refine hK _ ?_; clear hK K; refine stepM0 rfl rfl fun K hK => ?_; go_simp; refine hK _ ?_; clear hK K; refine stepM1S rfl rfl fun K hK => ?_; go_wp2
            refine ⟨by rw [HSD.out]; exact ((by first | exact HB5.out.alloc hz5 _ | exact (by repeat (first | (with_reducible first | exact .refl _ _ | refine .setCell ?_ ?_ _ | refine .alloc ?_ ?_ _ | refine .drewN ?_ _ | refine .drew ?_ | exact Nat.le_refl _) | (focus (simp only [World.size_alloc, World.size_setCell, World.size_drew, World.size_drewN]; omega)) | omega | exact Nat.le_refl _ | (focus (simp; done)) | (focus (simp; omega)))))), ?_⟩
            refine stepM1 rfl rfl (by kernel_rfl) fun K hK => ?_; go_wp2; refine stepM0 rfl rfl fun K hK => ?_; go_simp; refine hK _ ?_; clear hK K
            try refine stepMnil0 ?_
            clear HSD SS
            go_wp2_with fail
            go_meet
            exact ⟨w5.heap.size, da, dc, rfl, rfl, hz5, HB5.out.alloc hz5 _, heap_new w5 _, reads_of_owns (ownsRow_below HOW.out (by repeat (first | (with_reducible first | exact .refl _ _ | refine .setCell ?_ ?_ _ | refine .alloc ?_ ?_ _ | refine .drewN ?_ _ | refine .drew ?_ | exact Nat.le_refl _) | (focus (simp only [World.size_alloc, World.size_setCell, World.size_drew, World.size_drewN]; omega)) | omega | exact Nat.le_refl _ | (focus (simp; done)) | (focus (simp; omega)))))⟩
          ·
            refine stepM1S rfl rfl fun K hK => ?_; go_wp2
            refine ⟨by rw [HSD.out]; exact ((by first | exact HB5.out.alloc hz5 _ | exact (by repeat (first | (with_reducible first | exact .refl _ _ | refine .setCell ?_ ?_ _ | refine .alloc ?_ ?_ _ | refine .drewN ?_ _ | refine .drew ?_ | exact Nat.le_refl _) | (focus (simp only [World.size_alloc, World.size_setCell, World.size_drew, World.size_drewN]; omega)) | omega | exact Nat.le_refl _ | (focus (simp; done)) | (focus (simp; omega)))))), ?_⟩
            refine stepM1 rfl rfl (by kernel_rfl) fun K hK => ?_
            (go_wp2_with fail; refine (HGA.out _ (by repeat (first | (with_reducible first | exact .refl _ _ | refine .setCell ?_ ?_ _ | refine .alloc ?_ ?_ _ | refine .drewN ?_ _ | refine .drew ?_ | exact Nat.le_refl _) | (focus (simp only [World.size_alloc, World.size_setCell, World.size_drew, World.size_drewN]; omega)) | omega | exact Nat.le_refl _ | (focus (simp; done)) | (focus (simp; omega))))).mono ?_; rintro e w5 ⟨vd, ev, rfl, her, hown, hb5⟩; have hev : ev = errV C := (by rcases her with ⟨_, e⟩ | ⟨e, _⟩; exact e; cases e); subst hev; obtain ⟨da, dc, rfl, -⟩ := slice_of hown; have HOW := Lib.hid (show w5.ownsRow (wo.drew.alloc (.cells #[.int .u64 0, .int .u32 0, .bool false, .slice none 0 0] 48)).heap.size 5 1 (.slice da nd.length dc) nd.length (nd.map bv) from hown); rw [← HDL.out] at HOW; simp only; rw [← HDL.out]; have HB5 := Lib.hid (show Below wo.heap.size wo w5 from Below.trans (show Below wo.heap.size wo (wo.drew.alloc (.cells #[.int .u64 0, .int .u32 0, .bool false, .slice none 0 0] 48)) from (by repeat (first | (with_reducible first | exact .refl _ _ | refine .setCell ?_ ?_ _ | refine .alloc ?_ ?_ _ | refine .drewN ?_ _ | refine .drew ?_ | exact Nat.le_refl _) | (focus (simp only [World.size_alloc, World.size_setCell, World.size_drew, World.size_drewN]; omega)) | omega | exact Nat.le_refl _ | (focus (simp; done)) | (focus (simp; omega))))) (hb5.mono (by simp))); have KX5 := Lib.hid (show w5.heap[wo.heap.size]? = some (.cells #[.int .u64 0, .int .u32 0, .bool false, .slice none 0 0] 48 (0, 0)) from blk_below' (show (wo.drew.alloc (.cells #[.int .u64 0, .int .u32 0, .bool false, .slice none 0 0] 48)).heap[wo.heap.size]? = _ from heap_new _ _) hb5); have hz5 := HB5.out.size; obtain ⟨n0, n1', n2', n3'⟩ := ncells KX5.out; obtain ⟨o0, o1, o2, o3⟩ := nfree KX5.out; have hlx := blk_lt KX5.out; clear her hown hb5; go_wp2)
            refine stepM0 rfl rfl fun K hK => ?_; go_simp; refine hK _ ?_; clear hK K; refine stepM0 rfl rfl fun K hK => ?_; go_simp; refine hK _ ?_; clear hK K; refine stepM0 rfl rfl fun K hK => ?_; go_simp; refine hK _ ?_; clear hK K; refine stepM1 rfl rfl (by kernel_rfl) fun K hK => ?_; go_wp2; refine stepM0 rfl rfl fun K hK => ?_; go_simp; refine hK _ ?_; clear hK K
            try refine stepMnil0 ?_
            clear HSD SS
            go_wp2_with fail
            go_meet
            exact ⟨wo.heap.size, da, dc, rfl, rfl, Nat.le_refl _, HB5.out.trans ((set4_keeps w5 wo.heap.size _ _ _ _).below hz5 fun j e => by rw [e]; exact Nat.le_refl _), store4 KX5.out _ _ _ _, reads_of_owns (ownsRow_keeps HOW.out (set4_keeps w5 wo.heap.size _ _ _ _) (fun j hj e => by have h1 := (HOW.out.lt j hj).1; simp only [World.size_alloc, World.size_drew] at h1; omega))⟩
      case rest =>
      obtain ⟨bq, dya, dyc, rfl, rfl, hbq, hbd, kbq, hry⟩ := hcut
      have HBD := Lib.hid hbd
      have KQ := Lib.hid kbq
      have HRY := Lib.hid hry
      have KX2 := Lib.hid (blk_below' KX.out hbd)
      have HRX2 := Lib.hid (HRX.out.below hbd)
      have HSM := Lib.hid (fun (w0 : World) (hb : Below wc.heap.size wc w0) => rsame03_any nk nc ng nd dxa dxc nk nc ng nd dya dyc w0 (by rw [← HDL.out]; exact HRX2.out.below hb) (by rw [← HDL.out]; exact HRY.out.below hb))
      rw [decide_eq_true (rfl : (⟨nk, nc, ng, nd⟩ : Nd) = ⟨nk, nc, ng, nd⟩), ← HDL.out] at HSM
      have hzd := hbd.size
      obtain ⟨x0, x1, x2, x3⟩ := ncells KX2.out
      obtain ⟨y0, y1, y2, y3⟩ := ncells KQ.out
      have hlx1 := blk_lt KX2.out
      have hlq1 := blk_lt KQ.out
      clear hbd kbq hry
      go_wp2_with fail
      refine (code_any C (by omega) (by omega) _).mono ?_
      rintro e wx ⟨rfl, rfl⟩
      go_wp2_with fail
      refine (code_any C (by omega) (by omega) _).mono ?_
      rintro e wx ⟨rfl, rfl⟩
      have ecc : ((C : Int) != (C : Int)) = false := by simp
      go_wp2_with fail
      refine (HSM.out wc (Below.refl _ _)).mono ?_
      rintro e wf ⟨rfl, hbf⟩
      have HBF := Lib.hid hbf
      clear hbf
      go_wp2_with fail
      go_roundg (N - (k + 1))
      case measure => omega
      case rel => exact ⟨k + 1, by omega, rfl, by go_num, HBR.out.trans ((HBC.out.trans ((HBD.out.trans (HBF.out.mono hzd)).mono hzo)).mono hzr)⟩
    · have hj1 : ¬ (k : Int) < (N : Int) := by omega
      have hj2 : decide ((k : Int) < (N : Int)) = false := by simp; omega
      have hj3 : decide (k < N) = false := by simp; omega
      have HBW := Lib.hid (HB12.out.trans (HBR.out.mono HB12.out.size))
      go_wp2_with fail
      refine (all_nil vpb _).mono ?_
      rintro e w13 ⟨rfl, hb⟩
      rw [errV_ne (show (15 : Int) ≠ 0 by decide)]
      have HB13 := Lib.hid (HBW.out.trans (hb.mono HBW.out.size))
      clear hb
      go_wp2_with fail
      refine (lay_nil _).mono ?_
      rintro e w14 ⟨rfl, hb⟩
      rw [errV_ne (show (15 : Int) ≠ 0 by decide)]
      have HB14 := Lib.hid (HB13.out.trans (hb.mono HB13.out.size))
      clear hb
      go_wp2_with fail
      refine (behind_nil vp _).mono ?_
      rintro e w15 ⟨rfl, hb⟩
      rw [errV_ne (show (15 : Int) ≠ 0 by decide)]
      have HB15 := Lib.hid (HB14.out.trans (hb.mono HB14.out.size))
      clear hb
      go_wp2_with fail
      refine (take_nil 0 1 _).mono ?_
      rintro e w16 ⟨rfl, hb⟩
      rw [errV_ne (show (15 : Int) ≠ 0 by decide)]
      have HB16 := Lib.hid (HB15.out.trans (hb.mono HB15.out.size))
      clear hb
      go_wp2_with fail
      refine (show Calls Tryz.prog 13 #[.iface 92 (.int .i64 15)] _ _ from code_some 15 (by decide) (by decide) _).mono ?_
      rintro e wx ⟨rfl, rfl⟩
      go_wp2_with fail
      refine (show Calls Tryz.prog 13 #[.iface 92 (.int .i64 15)] _ _ from code_some 15 (by decide) (by decide) _).mono ?_
      rintro e wx ⟨rfl, rfl⟩
      go_wp2_with fail
      refine (show Calls Tryz.prog 13 #[.iface 92 (.int .i64 15)] _ _ from code_some 15 (by decide) (by decide) _).mono ?_
      rintro e wx ⟨rfl, rfl⟩
      go_wp2_with fail
      refine (show Calls Tryz.prog 13 #[.iface 92 (.int .i64 15)] _ _ from code_some 15 (by decide) (by decide) _).mono ?_
      rintro e wx ⟨rfl, rfl⟩
      go_wp2_with fail
      go_ret
      exact ⟨rfl, HB16.out.alloc HB16.out.size _⟩
end Go.Proofs.YtmaalbbclldnpaaGreatDoor
