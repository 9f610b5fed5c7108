/- DiskNil: the walk. -/
import Derived.Test.YtcicnjlkcbimgaaDiskNil
import Derived.Test.YtcicnjlkcbimgaaDiskLasts
import Derived.Test.YtcicnjlkcbimgaaAppReads
namespace Go.Proofs.Ytcicnjlkcbimgaa
open Go.RowKit
theorem DS.keeps {w w' : World} {d K : Nat} {P : Nat → Prop} {st : Dk} (h : DS w d P K st) (hk : Keeps P w w') : DS w' d P K st := by
  obtain ⟨F, q, h1, h2, h3⟩ := h
  exact ⟨F, q, h1.keeps hk (fun k hf => (h3 k hf).1), h2, fun k hf => ⟨(h3 k hf).1, Nat.lt_of_lt_of_le (h3 k hf).2 hk.size⟩⟩
def nl0 : Dk := ((Dk.new 1000).create [97]).2
def nl1 (b : List UInt8) : Dk := (nl0.append [97] b).2
theorem nl0_eq : nl0 = ⟨1000, [([97], 0)], [], [⟨0, [], [97], 0⟩], [⟨[], 0⟩], -1⟩ := rfl
theorem nl1_eq {b : List UInt8} (hb : b.length ≤ 300) : nl1 b = ⟨1000, [([97], 0)], [], [⟨0, [], [97], 0⟩], [⟨b, 0⟩], -1⟩ := by
  unfold nl1
  rw [nl0_eq]
  have h1 : ¬ 16777216 < b.length := by omega
  have h2 : ¬ 1000 < b.length := by omega
  simp [Dk.append, Dk.fnd, Dk.fileAt, Dk.used, Dk.setF, Dk.did, dirGet, h1, h2]
theorem nl_read {b : List UInt8} (hb : b.length ≤ 300) : (nl1 b).read [97] 0 b.length = (0, b) := by
  rw [nl1_eq hb]
  simp [Dk.read, Dk.fnd, Dk.fileAt, dirGet]
set_option maxRecDepth 100000 in
set_option maxHeartbeats 4000000 in
theorem nil_any (ab : Option Addr) (nb cb : Nat) (b : List UInt8) (w : World) (hl : b.length = nb) (hr : Reads w 1 (.slice ab nb cb) nb (b.map bv)) (h0 : 0 < nb) (h1 : nb ≤ 300) :
    Calls Try.prog 6 #[.slice ab nb cb] w fun e w' => e = .returned (.bool true) ∧ Below w.heap.size w w' := by
  have hd1 : decide ((300 : Int) < (nb : Int)) = false := by simp; omega
  have hd2 : decide ((nb : Int) = 0) = false := by simp; omega
  have HL := Lib.hid hl
  have HR := Lib.hid hr
  clear hl hr
  obtain ⟨i0, hi, hz0, hz1, hz2⟩ := info_parts byteT_info
  have HI := Lib.hid hi
  have HZ0 := Lib.hid hz0
  have HZ1 := Lib.hid hz1
  have HZ2 := Lib.hid hz2
  clear hi hz0 hz1 hz2
  go_enter Try.func6, Try.ntmps6
  go_wp2_with fail
  refine (alive07 _).mono ?_
  rintro e w1 ⟨rfl, hb1⟩
  have HB1 := Lib.hid hb1
  have hz1 := hb1.size
  clear hb1
  go_wp2_with fail
  rw [show ((nb : Int) == 0) = false by simp; omega]
  go_loopw [4] (fun i wr => ∃ k : Nat, k ≤ 12 ∧ i = .int .i64 k ∧ Below w1.heap.size w1 wr) (fun i _ => 12 - (intOf i).toNat)
  case atStart => exact ⟨0, Nat.zero_le _, rfl, Below.refl _ _⟩
  case round =>
    obtain ⟨k, hk, rfl, hbr⟩ := hrel
    have HBR := Lib.hid hbr
    have hzr := hbr.size
    clear hbr
    by_cases hlt : k < 12
    · have hk1 : (k : Int) < 12 := by omega
      go_wp2_with fail
      refine (do07n k hlt _).mono ?_
      rintro e w2 ⟨rfl, hb2⟩
      have HB2 := Lib.hid (HBR.out.trans (hb2.mono hzr))
      clear hb2
      go_wp2_with fail
      go_roundw
      case rel => exact ⟨k + 1, by omega, by go_num, HB2.out⟩
      case measure => simp [intOf]; omega
    · have hk1 : decide ((k : Int) < 12) = false := by simp; omega
      obtain ⟨wo, rfl⟩ : ∃ wo : World, wo = wr := ⟨_, rfl⟩
      go_wp2_with fail
      refine (new_ds 1000 (by omega) _).mono ?_
      rintro e w2 ⟨rfl, hd2, hb2, hz2⟩
      have HD2 := Lib.hid hd2
      have HK2 := Lib.hid (show KP (fun k => k < wo.heap.size) wo w2 from KP.of hb2)
      clear hd2 hb2
      go_wp2_with fail
      refine (create_ds HD2.out (fun k hk => by omega) (by omega) [97] (by decide)).mono ?_
      rintro e w3 ⟨rfl, hd3, hk3⟩
      have HD3 := Lib.hid (show DS w3 (wo.heap.size + 2) (fun k => k < wo.heap.size) 1 nl0 from hd3)
      have HK3 := Lib.hid (HK2.out.trans hk3)
      have hz3 := HK3.out.size
      clear hd3 hk3
      have HBA := Lib.hid (HB1.out.trans ((HBR.out.trans ((HK3.out.below (Nat.le_refl _) fun _ e => e).mono hzr)).mono hz1))
      obtain ⟨x, hx⟩ : ∃ x, b[0]? = some x := ⟨_, List.getElem?_eq_getElem (by rw [HL.out]; exact h0)⟩
      have HX := Lib.hid (show (b.map bv)[0]? = some (.int .u8 x.toNat) by rw [List.getElem?_map, hx]; rfl)
      clear hx
      go_wp2_with (at_builtin; refine wpList_append_reads _ rfl _ _ 22 rfl w3.heap.size 5 i0 (.int .u8 0) 1 1 Try.underlying22 HI.out HZ0.out HZ1.out HZ2.out rfl (by decide) (.slice (some ⟨w3.heap.size, 0, none⟩) 0 0) 0 [] rfl (World.ownsRow_lit w3 #[] 0 (Nat.le_refl _) (by unfold maxLen; omega) rfl) (.slice ab nb cb) nb (b.map bv) rfl ((HR.out.below HBA.out).below (by repeat (first | (with_reducible exact Below.refl _ _) | (with_reducible refine Below.setCell ?_ ?_ _) | (with_reducible refine Below.alloc ?_ ?_ _) | (with_reducible refine Below.drewN ?_ _) | (with_reducible refine Below.drew ?_) | (with_reducible exact Nat.le_refl _) | (focus (simp only [World.size_alloc, World.size_setCell, World.size_drew, World.size_drewN]; omega)) | omega | exact Nat.le_refl _ | (focus (simp; done)) | (focus (simp; omega))))) (fun u hu => by obtain ⟨y, _, rfl⟩ := List.mem_map.1 hu; rfl) (by unfold maxLen; omega) (by omega) (by simp) ?_; intro vc w4 hoc hgc _; simp only [Nat.zero_add, List.nil_append] at hoc; have HB34 := Lib.hid (show Below w3.heap.size w3 w4 from Below.grown (Below.alloc (Below.refl _ _) (Nat.le_refl _) _) hgc (by simp) (fun g hg => by simp [Value.ownBlock] at hg; omega)); have HOC := Lib.hid hoc; clear hgc hoc)
      obtain ⟨ac, cc, rfl⟩ := ownsRow_len HOC.out
      obtain ⟨g, rfl⟩ : ∃ g, ac = some ⟨g, 0, none⟩ := by
        rcases row_addr HOC.out with ⟨rfl, _⟩ | h
        · rcases HOC.out.2 with ⟨_, e⟩ | ⟨g, _, _, e, _⟩
          · omega
          · cases e
        · exact h
      have hz34 := HB34.out.size
      have HD4 := Lib.hid (HD3.out.later (R := fun k => k < wo.heap.size ∨ (w3.heap.size ≤ k ∧ k < w4.heap.size)) HB34.out fun k hk => hk.imp id fun hk => hk.1)
      go_wp2_with fail
      refine (append_ds HD4.out (fun k hk => by omega) [97] _ b (by decide) (by rw [HL.out]; exact reads_of_owns HOC.out)).mono ?_
      rintro e w5 ⟨rfl, hd5, hk5⟩
      have HD5 := Lib.hid (show DS w5 (wo.heap.size + 2) (fun k => k < wo.heap.size ∨ (w3.heap.size ≤ k ∧ k < w4.heap.size)) 1 (nl1 b) from hd5)
      have hO5 := hk5.row HOC.out fun k hk => .inr (HOC.out.lt k hk)
      have HK5 := Lib.hid (KP.trans (KP.trans HK3.out (KP.of HB34.out)) (hk5.mono fun k _ hk => .inl hk))
      have hg5 := (hO5.lt g rfl).2
      have kc : w5.cell? ⟨g, 0, none⟩ = some (.int .u8 x.toNat) := (hO5.cellAt 0 (by omega)).trans HX.out
      have kf : w5.frozen? ⟨g, 0, none⟩ = false := hO5.frozenAt _
      have hnb0 : (0 : Int) < (nb : Int) := by omega
      have hgr := (HOC.out.lt g rfl).1
      have hgl := (HOC.out.lt g rfl).2
      have hz5 := hk5.size
      clear hd5 hk5 hO5
      go_wp2_with fail
      obtain ⟨w6, hw6⟩ : ∃ w6, w6 = w5.setCell ⟨g, 0, none⟩ (.int .u8 (((x.toNat : Int) + 1) % 256)) := ⟨_, rfl⟩
      rw [← hw6]
      have hkp : Keeps (fun k => k < wo.heap.size ∨ (w3.heap.size ≤ k ∧ k < w4.heap.size)) w5 w6 := by rw [hw6]; exact (Keeps.refl _ _).setCell _ _ fun _ => .inr ⟨hgr, hgl⟩
      have HD6 := Lib.hid (HD5.out.keeps hkp)
      have HB6 := Lib.hid (show Below wo.heap.size wo w6 by rw [hw6]; exact Below.setCell (HK5.out.below (Nat.le_refl _) fun _ e => e) (by show wo.heap.size ≤ g; omega) _)
      have hz6 := HB6.out.size
      clear hw6 hkp
      refine (read_ds HD6.out [97] 0 nb (by decide) (by omega) (by omega)).mono ?_
      rintro e w7 hR
      have hrd := nl_read (b := b) (by rw [HL.out]; exact h1)
      rw [HL.out] at hrd
      rw [hrd] at hR
      obtain ⟨vy, rfl, hoy, hb7⟩ := hR
      rw [HL.out] at hoy
      obtain ⟨ay, cy, rfl⟩ := ownsRow_len hoy
      obtain ⟨gy, rfl⟩ : ∃ g, ay = some ⟨g, 0, none⟩ := by
        rcases row_addr hoy with ⟨rfl, _⟩ | h
        · rcases hoy.2 with ⟨_, e⟩ | ⟨g, _, _, e, _⟩
          · omega
          · cases e
        · exact h
      have hz67 := hb7.size
      have HD7 := Lib.hid (HD6.out.later (R := fun k => k < wo.heap.size ∨ (w6.heap.size ≤ k ∧ k < w7.heap.size)) hb7 fun k hk => hk.imp .inl fun hk => hk.1)
      have HB7 := Lib.hid (HB6.out.trans (hb7.mono hz6))
      have HOY := Lib.hid hoy
      have HBW7 := Lib.hid (HB1.out.trans ((HBR.out.trans (HB7.out.mono hzr)).mono hz1))
      clear hb7 hoy hrd
      go_wp2_with fail
      refine (code0 _).mono ?_
      rintro e w8 ⟨rfl, rfl⟩
      go_wp2_with fail
      refine (same_any _ _ b b _ (by rw [HL.out]; exact reads_of_owns HOY.out) (by rw [HL.out]; exact HR.out.below HBW7.out)).mono ?_
      rintro e w8 ⟨rfl, hb8⟩
      rw [decide_eq_true (rfl : b = b)]
      have HD8 := Lib.hid (HD7.out.below hb8)
      have HB8 := Lib.hid (HB7.out.trans (hb8.mono (by omega)))
      have HOY8 := Lib.hid (ownsRow_below HOY.out hb8)
      have hgy := HOY.out.lt gy rfl
      have hz8 := hb8.size
      have hg8 : gy < w8.heap.size := by omega
      have kc : w8.cell? ⟨gy, 0, none⟩ = some (.int .u8 x.toNat) := (HOY8.out.cellAt 0 (by omega)).trans HX.out
      have kf : w8.frozen? ⟨gy, 0, none⟩ = false := HOY8.out.frozenAt _
      clear hb8
      go_wp2_with fail
      obtain ⟨w9, hw9⟩ : ∃ w9, w9 = w8.setCell ⟨gy, 0, none⟩ (.int .u8 (((x.toNat : Int) + 1) % 256)) := ⟨_, rfl⟩
      rw [← hw9]
      have hkp : Keeps (fun k => k < wo.heap.size ∨ (w6.heap.size ≤ k ∧ k < w7.heap.size)) w8 w9 := by rw [hw9]; exact (Keeps.refl _ _).setCell _ _ fun _ => .inr hgy
      have HD9 := Lib.hid (HD8.out.keeps hkp)
      have HB9 := Lib.hid (show Below wo.heap.size wo w9 by rw [hw9]; exact Below.setCell HB8.out (by show wo.heap.size ≤ gy; omega) _)
      have hz9 := HB9.out.size
      clear hw9 hkp
      refine (read_ds HD9.out [97] 0 nb (by decide) (by omega) (by omega)).mono ?_
      rintro e wa hR
      have hrd := nl_read (b := b) (by rw [HL.out]; exact h1)
      rw [HL.out] at hrd
      rw [hrd] at hR
      obtain ⟨vz, rfl, hoz, hba⟩ := hR
      rw [HL.out] at hoz
      obtain ⟨az, cz, rfl⟩ := ownsRow_len hoz
      have HBA := Lib.hid (HB9.out.trans (hba.mono hz9))
      have HOZ := Lib.hid hoz
      have hza := HBA.out.size
      have HBWA := Lib.hid (HB1.out.trans ((HBR.out.trans (HBA.out.mono hzr)).mono hz1))
      clear hba hoz hrd
      go_wp2_with fail
      refine (same_any _ _ b b _ (by rw [HL.out]; exact reads_of_owns HOZ.out) (by rw [HL.out]; exact HR.out.below HBWA.out)).mono ?_
      rintro e wb ⟨rfl, hbb⟩
      rw [decide_eq_true (rfl : b = b)]
      have HBWB := Lib.hid (HBWA.out.trans (hbb.mono (by omega)))
      clear hbb
      go_wp2_with fail
      refine (names_nil _).mono ?_
      rintro e wc ⟨rfl, rfl⟩
      go_wp2_with fail
      refine (used_nil _).mono ?_
      rintro e wc ⟨rfl, rfl⟩
      go_wp2_with fail
      refine (down_nil _).mono ?_
      rintro e wc ⟨rfl, rfl⟩
      go_wp2_with fail
      go_ret
      exact ⟨rfl, HBWB.out⟩
end Go.Proofs.Ytcicnjlkcbimgaa
