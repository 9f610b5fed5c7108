/- Whatever the commands, the nodes and the node, corncriblaw27.PlaceSpread answers true and leaves its arguments as they were. No condition. -/
import Derived.Test.YtigkcbnlbdiimaaPs6
import Derived.Test.YtigkcbnlbdiimaaRows
import Derived.WalkKit
import Derived.ProofKit
import Derived.OpenShut
import Derived.ShutString
import Derived.ChangeOld
import Derived.Below
namespace Go.Proofs.Ytigkcbnlbdiimaa.placeSpread
open Go.ChangeShapes Go.WideShapes Go.ChangeAt Go.RowKit
theorem own : ownKnob Try.prog.godebug = none := by kernel_rfl
theorem laidOut : laidOutB Try.prog = true := by kernel_rfl
set_option maxRecDepth 100000 in
theorem big1 (ao : Option Addr) (n cap : Nat) (an : Option Addr) (m capn : Nat) (v : Value) (w : World) (hn : 60 < n) : Calls Try.prog 13 #[.slice ao n cap, .slice an m capn, v] w fun e w' => e = .returned (.bool true) ∧ Below w.heap.size w w' := by
  have hn' : (60 : Int) < (n : Int) := by omega
  go_enter Try.func13, Try.ntmps13
  go_wp2_with fail
  refine (alive27 _).mono ?_
  rintro e w1 ⟨rfl, hb1⟩
  go_wp2_with fail
  go_ret
  exact ⟨rfl, hb1⟩
set_option maxRecDepth 100000 in
theorem big2 (ao : Option Addr) (n cap : Nat) (an : Option Addr) (m capn : Nat) (v : Value) (w : World) (hn : n ≤ 60) (hm : 64 < m) : Calls Try.prog 13 #[.slice ao n cap, .slice an m capn, v] w fun e w' => e = .returned (.bool true) ∧ Below w.heap.size w w' := by
  have hn' : decide ((60 : Int) < (n : Int)) = false := by simp; omega
  have hm' : (64 : Int) < (m : Int) := by omega
  go_enter Try.func13, Try.ntmps13
  go_wp2_with fail
  refine (alive27 _).mono ?_
  rintro e w1 ⟨rfl, hb1⟩
  go_wp2_with fail
  go_ret
  exact ⟨rfl, hb1⟩
set_option maxRecDepth 100000 in
theorem bad (ao : Option Addr) (n cap : Nat) (an : Option Addr) (capn : Nat) (ns : List Int) (v : Value) (w : World) (hn : n ≤ 60) (hm : ns.length ≤ 64) (hr : Reads w 1 (.slice an ns.length capn) ns.length (ns.map (Value.int .i64))) (hok : rightB ns = false) :
    Calls Try.prog 13 #[.slice ao n cap, .slice an ns.length capn, v] w fun e w' => e = .returned (.bool true) ∧ Below w.heap.size w w' := by
  have hn' : decide ((60 : Int) < (n : Int)) = false := by simp; omega
  have hm' : decide ((64 : Int) < (ns.length : Int)) = false := by simp; omega
  have HR := Lib.hid hr
  have HOK := Lib.hid hok
  clear hr hok
  go_enter Try.func13, Try.ntmps13
  go_wp2_with fail
  refine (alive27 _).mono ?_
  rintro e w1 ⟨rfl, hb1⟩
  have HB1 := Lib.hid hb1
  have hz1 := hb1.size
  clear hb1
  go_wp2_with fail
  refine (rright_any _ ns _ (HR.out.below HB1.out)).mono ?_
  rintro e w2 ⟨rfl, hb2⟩
  rw [HOK.out]
  have HB2 := Lib.hid (HB1.out.trans (hb2.mono hz1))
  clear hb2
  go_wp2_with fail
  go_ret
  exact ⟨rfl, HB2.out⟩
theorem walk (a : Option Addr) (n cap : Nat) (cs : List Cmd) (b : Option Addr) (capn : Nat) (ns : List Int) (node : Int) (w : World) (hl : cs.length = n)
    (ha : 0 < n → ∃ b off, a = some ⟨b, off, none⟩ ∧ b < w.heap.size ∧ ∀ (i : Nat) (c : Cmd), cs[i]? = some c → ∀ j u, c.row[j]? = some u → w.cell? ⟨b, off + i * 8 + j, none⟩ = some u)
    (hr : Reads w 1 (.slice b ns.length capn) ns.length (ns.map (Value.int .i64))) (hc : ns.length ≤ capn) :
    Calls Try.prog 13 #[.slice a n cap, .slice b ns.length capn, .int .i64 node] w fun e w' => e = .returned (.bool true) ∧ Below w.heap.size w w' := by
  by_cases hn : n ≤ 60
  · by_cases hm : ns.length ≤ 64
    · have hA : 0 < n → ∃ b off, a = some ⟨b, off, none⟩ ∧ b < w.heap.size ∧ CmdsAt w b off cs := fun h0 => by
        obtain ⟨b, off, h1, h2, h3⟩ := ha h0
        refine ⟨b, off, h1, h2, fun i c hc => ?_⟩
        have h4 := h3 i c hc
        exact ⟨h4 0 _ rfl, h4 1 _ rfl, h4 2 _ rfl, h4 3 _ rfl, h4 4 _ rfl, h4 5 _ rfl, h4 6 _ rfl, h4 7 _ rfl⟩
      have hcap : ∀ a n c, Value.slice b ns.length capn = Value.slice a n c → n ≤ c := fun a n c h => by simp only [Value.slice.injEq] at h; omega
      cases hok : rightB ns
      · exact bad a n cap b capn ns _ w hn hm hr hok
      · exact spread_any a n cap cs _ ns node w hl hn hA hr hcap hok
    · exact big2 a n cap b _ capn _ w hn (by omega)
  · exact big1 a n cap b _ capn _ w (by omega)
set_option maxRecDepth 100000 in
theorem lifted (os : Os) (started : os.Started) (H : Type) (enc : TypeId × Value → H) :
    ReturnsInHanded {} Try.checked os 13 .any (Rows.placeSpreadSpec.pre6 enc Try.prog Try.f13 Rows.placeSpreadRow.domain false) (Rows.placeSpreadSpec.post enc Try.prog Try.f13 false true false false) := by
  refine returnsInHanded_of_change (C := Try.checked) own started (by kernel_rfl) Try.func13
    (ChangeSpec.witness6 (enc := enc) (C := Try.checked) false ⟨#[], #[.slice none 0 0, .slice none 0 0, .int .i64 0], []⟩ 8 (by kernel_rfl) (by kernel_rfl) (by kernel_rfl) (by kernel_rfl)) ?_
  intro W base args ds gs before hval0 hW hcnd _
  have hval : ∀ (j : Nat) t v, Try.f13.params[j]? = some t → args[j]? = some v → Value.okWide Try.prog W .any base t v := hval0
  have hW' := hW
  obtain ⟨p, q, hA0, hV, rfl, hfz, hnd⟩ := hW
  have hA : DataW.TrodAll enc Try.prog W 0 (fun _ => true) true Try.f13.params.toList args.toList ds p := hA0
  rw [Try.params13] at hA hval
  obtain ⟨v0, vs0, d0, ds0, p0, q0, hargs, rfl, rfl, h0, r0⟩ := trodAll_cons hA
  obtain ⟨v1, vs1, d1, ds1, p1, q1, rfl, rfl, rfl, h1, r1⟩ := trodAll_cons r0
  obtain ⟨v2, vs2, d2, ds2, p2, q2, rfl, rfl, rfl, h2, r2⟩ := trodAll_cons r1
  obtain ⟨rfl, rfl, rfl⟩ := trodAll_nil r2
  obtain rfl : args = #[v0, v1, v2] := by cases args; simp_all
  obtain ⟨rfl, rfl⟩ := trodVars_none hV
  obtain ⟨a0, len0, cap0, rfl⟩ := okWide_slice Try.underlying22 (hval 0 22 v0 rfl rfl)
  obtain ⟨a1, len1, cap1, rfl⟩ := okWide_slice Try.underlying42 (hval 1 42 v1 rfl rfl)
  obtain ⟨n2, rfl⟩ := okWide_int Try.underlying3 (hval 2 3 v2 rfl rfl)
  have k0 := h0
  have k1 := h1
  have k2 := h2
  have lt0 : ∀ x ∈ p0, x.block < W.heap.size := by obtain ⟨m, hm⟩ := k0; exact DataW.trod_lt m _ _ _ hm
  have lt1 : ∀ x ∈ p1, x.block < W.heap.size := by obtain ⟨m, hm⟩ := k1; exact DataW.trod_lt m _ _ _ hm
  have lt2 : ∀ x ∈ p2, x.block < W.heap.size := by obtain ⟨m, hm⟩ := k2; exact DataW.trod_lt m _ _ _ hm
  obtain ⟨cs, hl, hc⟩ := open_cmds h0
  obtain ⟨ns, rfl, hr, hcp⟩ := open_ints h1
  clear hA0 hval0
  refine (walk a0 len0 cap0 cs a1 cap1 ns n2 W hl hc hr hcp).mono fun e W' ⟨he, bel⟩ => ?_
  subst he
  exact ⟨_, rfl, _, _, _, [], _, [], hW', trodAll_mk1 (shut_bool Try.underlying4 _), (trodAll_cons_mk (Below.trod laidOut (by kernel_rfl) (of_decide_eq_true (by kernel_rfl)) k0 bel lt0) (trodAll_cons_mk (Below.trod laidOut (by kernel_rfl) (of_decide_eq_true (by kernel_rfl)) k1 bel lt1) (trodAll_cons_mk (Below.trod laidOut (by kernel_rfl) (of_decide_eq_true (by kernel_rfl)) k2 bel lt2) trodAll_mk0))), rfl, bel.frame _, fun h => by cases h⟩
theorem over : Rows.placeSpreadRow.holds Try.pinned (OpenSpec.ofChange Rows.placeSpreadSpec) :=
  OpenClaim.holds_of_wide 13 Try.f13 rfl rfl rfl rfl rfl rfl rfl ⟨rfl, rfl, rfl, rfl, rfl⟩ rfl rfl rfl rfl rfl (by kernel_rfl) Try.func13 (by kernel_rfl)
    (of_decide_eq_true (by kernel_rfl)) (by unfold Func.isWrapper; first | (rw [if_pos (by decide +kernel)]; kernel_rfl) | (rw [if_neg (by decide +kernel)]; exact ⟨rfl, rfl⟩))
    (fun os started H enc _ => lifted os started H enc)
theorem proved : Rows.PlaceSpreadSaid := over
end Go.Proofs.Ytigkcbnlbdiimaa.placeSpread
