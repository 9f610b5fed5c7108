/-
  DERIVED: THE SHELF's CONTRACTS AT THIS DUMP, IN PLAIN WORDS (tools/lay-plain.mjs out of 'XxIter0.lean', which tools/lay-shelf.mjs wrote): THE SAME DECLARATIONS UNDER THE SAME NAMES: 'import', 'namespace', 'open', 'def', 'theorem' AND NOTHING ELSE: no command of the shelf's: FOR A HAND-IN. Each laying: the table of numbers ('.._ren') and one theorem, a field a fact of the dump's own or the kernel's comparison; each contract: ONE APPLICATION.
-/
import Derived.Shelf.SlIter.Nil
import Derived.Shelf.SortM.Plain
import Derived.Shelf.SortM.SortNone
import Derived.Ground.GgzProg
import Derived.Ground.SlgmProg
import Derived.Test.YtmkhacgdejkimaaGreatDoorProg
namespace Go.Proofs
open Go.RowKit Go.Maps Go.Sort Go.Shelf
def Tryz.keys75_ren : Go.Shelf.Ren := ⟨fun | 7 => 75 | 10 => 125 | n => n, fun | 23 => 117 | 26 => 9 | 3 => 115 | 28 => 162 | 0 => 0 | 27 => 161 | 33 => 114 | 4 => 4 | n => n, fun | n => n⟩
theorem Tryz.keys75 : Go.Proofs.SlLaysZ.n7 Tryz.prog Tryz.keys75_ren := {
  mixed := by kernel_rfl
  f7 := ⟨Tryz.f75.name, by decide, Tryz.func75.trans (congrArg some (by kernel_rfl))⟩
  f10 := ⟨Tryz.f125.name, by decide, Tryz.func125.trans (congrArg some (by kernel_rfl))⟩
  t0 := Tryz.underlying0
  a0 := Tryz.isAgg0
  z0 := Tryz.sizeOf0
  v0 := Tryz.zeroValue0
  t4 := Tryz.underlying4
  a4 := Tryz.isAgg4
  z4 := Tryz.sizeOf4
  v4 := Tryz.zeroValue4
  t23 := Tryz.underlying117
  a23 := Tryz.isAgg117
  z23 := Tryz.sizeOf117
  v23 := Tryz.zeroValue117
  t26 := Tryz.underlying9
  a26 := Tryz.isAgg9
  z26 := Tryz.sizeOf9
  v26 := Tryz.zeroValue9
  t27 := Tryz.underlying161
  a27 := Tryz.isAgg161
  z27 := Tryz.sizeOf161
  v27 := Tryz.zeroValue161
  t28 := Tryz.underlying162
  a28 := Tryz.isAgg162
  z28 := Tryz.sizeOf162
  v28 := Tryz.zeroValue162
  t33 := Tryz.underlying114
  a33 := Tryz.isAgg114
  z33 := Tryz.sizeOf114
  v33 := Tryz.zeroValue114 }
def Tryz.sorted74_ren : Go.Shelf.Ren := ⟨fun | 6 => 74 | 8 => 123 | 9 => 124 | 11 => 160 | 13 => 162 | 12 => 161 | 23 => 196 | 24 => 197 | 14 => 187 | 15 => 188 | 16 => 189 | 17 => 190 | 18 => 191 | 19 => 192 | 20 => 193 | 21 => 194 | 22 => 195 | 25 => 208 | 26 => 209 | 27 => 210 | 28 => 211 | 29 => 212 | 30 => 213 | 31 => 220 | n => n, fun | 26 => 9 | 28 => 162 | 24 => 78 | 0 => 0 | 3 => 3 | 37 => 269 | 48 => 66 | 50 => 65 | 4 => 4 | 40 => 296 | 39 => 295 | 45 => 201 | 5 => 5 | 9 => 9 | 51 => 311 | 55 => 315 | 57 => 322 | 58 => 139 | 33 => 114 | n => n, fun | n => n⟩
theorem Tryz.sorted74 : Go.Proofs.SlLaysZ.n6 Tryz.prog Tryz.sorted74_ren := {
  mixed := by kernel_rfl
  f6 := ⟨Tryz.f74.name, by decide, Tryz.func74.trans (congrArg some (by kernel_rfl))⟩
  f8 := ⟨Tryz.f123.name, by decide, Tryz.func123.trans (congrArg some (by kernel_rfl))⟩
  f11 := ⟨Tryz.f160.name, by decide, Tryz.func160.trans (congrArg some (by kernel_rfl))⟩
  t0 := Tryz.underlying0
  a0 := Tryz.isAgg0
  z0 := Tryz.sizeOf0
  v0 := Tryz.zeroValue0
  t24 := Tryz.underlying78
  a24 := Tryz.isAgg78
  z24 := Tryz.sizeOf78
  v24 := Tryz.zeroValue78
  t26 := Tryz.underlying9
  a26 := Tryz.isAgg9
  z26 := Tryz.sizeOf9
  v26 := Tryz.zeroValue9
  t28 := Tryz.underlying162
  a28 := Tryz.isAgg162
  z28 := Tryz.sizeOf162
  v28 := Tryz.zeroValue162
  i26 := by kernel_rfl }
def Tryz.sort124_ren : Go.Shelf.Ren := ⟨fun | 6 => 124 | 8 => 162 | 9 => 161 | 19 => 196 | 20 => 197 | 21 => 187 | 22 => 188 | 23 => 189 | 24 => 190 | 25 => 191 | 26 => 192 | 27 => 193 | 28 => 194 | 29 => 195 | 36 => 208 | 31 => 209 | 32 => 210 | 37 => 211 | 38 => 212 | 39 => 213 | 41 => 220 | n => n, fun | 27 => 78 | 29 => 9 | 3 => 3 | 32 => 269 | 26 => 78 | 0 => 0 | 44 => 66 | 46 => 65 | 4 => 4 | 36 => 296 | 35 => 295 | 41 => 201 | 5 => 5 | 9 => 9 | 53 => 311 | 57 => 315 | 63 => 322 | 64 => 139 | n => n, fun | n => n⟩
theorem Tryz.sort124 : Go.Proofs.SlLaysM.n6 Tryz.prog Tryz.sort124_ren := {
  mixed := by kernel_rfl
  f6 := ⟨Tryz.f124.name, by decide, Tryz.func124.trans (congrArg some (by kernel_rfl))⟩
  f8 := Tryz.func162.trans (congrArg some (by kernel_rfl))
  f9 := ⟨Tryz.f161.name, by decide, Tryz.func161.trans (congrArg some (by kernel_rfl))⟩
  f19 := Tryz.func196.trans (congrArg some (by kernel_rfl))
  f20 := Tryz.func197.trans (congrArg some (by kernel_rfl))
  f21 := ⟨Tryz.f187.name, by decide, Tryz.func187.trans (congrArg some (by kernel_rfl))⟩
  f22 := ⟨Tryz.f188.name, by decide, Tryz.func188.trans (congrArg some (by kernel_rfl))⟩
  f23 := ⟨Tryz.f189.name, by decide, Tryz.func189.trans (congrArg some (by kernel_rfl))⟩
  f24 := ⟨Tryz.f190.name, by decide, Tryz.func190.trans (congrArg some (by kernel_rfl))⟩
  f25 := ⟨Tryz.f191.name, by decide, Tryz.func191.trans (congrArg some (by kernel_rfl))⟩
  f26 := ⟨Tryz.f192.name, by decide, Tryz.func192.trans (congrArg some (by kernel_rfl))⟩
  f27 := ⟨Tryz.f193.name, by decide, Tryz.func193.trans (congrArg some (by kernel_rfl))⟩
  f28 := ⟨Tryz.f194.name, by decide, Tryz.func194.trans (congrArg some (by kernel_rfl))⟩
  f29 := ⟨Tryz.f195.name, by decide, Tryz.func195.trans (congrArg some (by kernel_rfl))⟩
  f31 := Tryz.func209.trans (congrArg some (by kernel_rfl))
  f32 := Tryz.func210.trans (congrArg some (by kernel_rfl))
  f36 := ⟨Tryz.f208.name, by decide, Tryz.func208.trans (congrArg some (by kernel_rfl))⟩
  f37 := ⟨Tryz.f211.name, by decide, Tryz.func211.trans (congrArg some (by kernel_rfl))⟩
  f38 := ⟨Tryz.f212.name, by decide, Tryz.func212.trans (congrArg some (by kernel_rfl))⟩
  f39 := ⟨Tryz.f213.name, by decide, Tryz.func213.trans (congrArg some (by kernel_rfl))⟩
  f41 := ⟨Tryz.f220.name, by decide, Tryz.func220.trans (congrArg some (by kernel_rfl))⟩
  t0 := Tryz.underlying0
  a0 := Tryz.isAgg0
  z0 := Tryz.sizeOf0
  v0 := Tryz.zeroValue0
  t3 := Tryz.underlying3
  a3 := Tryz.isAgg3
  z3 := Tryz.sizeOf3
  v3 := Tryz.zeroValue3
  t4 := Tryz.underlying4
  a4 := Tryz.isAgg4
  z4 := Tryz.sizeOf4
  v4 := Tryz.zeroValue4
  t5 := Tryz.underlying5
  a5 := Tryz.isAgg5
  z5 := Tryz.sizeOf5
  v5 := Tryz.zeroValue5
  t9 := Tryz.underlying9
  a9 := Tryz.isAgg9
  z9 := Tryz.sizeOf9
  v9 := Tryz.zeroValue9
  t26 := Tryz.underlying78
  a26 := Tryz.isAgg78
  z26 := Tryz.sizeOf78
  v26 := Tryz.zeroValue78
  t27 := Tryz.underlying78
  a27 := Tryz.isAgg78
  z27 := Tryz.sizeOf78
  v27 := Tryz.zeroValue78
  t29 := Tryz.underlying9
  a29 := Tryz.isAgg9
  z29 := Tryz.sizeOf9
  v29 := Tryz.zeroValue9
  t32 := Tryz.underlying269
  a32 := Tryz.isAgg269
  z32 := Tryz.sizeOf269
  v32 := Tryz.zeroValue269
  t35 := Tryz.underlying295
  a35 := Tryz.isAgg295
  z35 := Tryz.sizeOf295
  v35 := Tryz.zeroValue295
  t36 := Tryz.underlying296
  a36 := Tryz.isAgg296
  z36 := Tryz.sizeOf296
  v36 := Tryz.zeroValue296
  t41 := Tryz.underlying201
  a41 := Tryz.isAgg201
  z41 := Tryz.sizeOf201
  v41 := Tryz.zeroValue201
  t44 := Tryz.underlying66
  a44 := Tryz.isAgg66
  z44 := Tryz.sizeOf66
  v44 := Tryz.zeroValue66
  t46 := Tryz.underlying65
  a46 := Tryz.isAgg65
  z46 := Tryz.sizeOf65
  v46 := Tryz.zeroValue65
  t53 := Tryz.underlying311
  a53 := Tryz.isAgg311
  z53 := Tryz.sizeOf311
  v53 := Tryz.zeroValue311
  t57 := Tryz.underlying315
  a57 := Tryz.isAgg315
  z57 := Tryz.sizeOf315
  v57 := Tryz.zeroValue315
  t63 := Tryz.underlying322
  a63 := Tryz.isAgg322
  z63 := Tryz.sizeOf322
  v63 := Tryz.zeroValue322
  t64 := Tryz.underlying139
  a64 := Tryz.isAgg139
  z64 := Tryz.sizeOf139
  v64 := Tryz.zeroValue139 }
/-- slices.Sort's two contracts at this dump, at the fence that asks nothing. -/
theorem Tryz.sorts74 (m : Nat) : AnyZ.SortsIn Tryz.prog Tryz.sorted74_ren Fence.wide m :=
  ⟨fun blk off cap ss W hH hblk hsz => callsIn_wide.2 (AnyM.slices_Sort_string Tryz.sort124 blk off cap ss W hH hblk hsz),
   fun p cap W => callsIn_wide.2 (AnyM.slices_Sort_string_none Tryz.sort124 p cap W)⟩

/-- **maps.Keys[corncrib/disk.dir,string,*corncrib/disk.file], at whatever map, the nil one too:** a function value over ONE NEW BLOCK, which holds the map. -/
theorem Tryz.maps_Keys_75 (mb : Option Nat) (W : World) : CallsIn Fence.wide 5 Tryz.prog 75 #[.map mb] W fun e w' => e = .returned (.func (.func 125) #[] #[.pointer (some ⟨W.heap.size, 0, none⟩)]) ∧ w' = W.alloc (.cells #[.map mb] 117) :=
  AnyZ.keys_in Tryz.keys75 Fence.wide 5 trivial rfl mb W

set_option maxHeartbeats 1000000 in
/-- **slices.Sorted[string] AT WHAT maps.Keys[corncrib/disk.dir,string,*corncrib/disk.file] HANDED BACK FOR A MAP THAT IS NOT nil** ('w': the world AHEAD of maps.Keys' call): A NEW SLICE THAT HOLDS THE MAP's KEYS, SORTED; nil just where it has none; nothing that lay before has turned. -/
theorem Tryz.slices_Sorted_keys_74_75 {H : Type} (b nn : Nat) (D0 : DataW H) (R : Value → Option (DataW H × List MemPlace)) (w : World) (hown : w.ownsMap Tryz.prog 9 R b nn D0) (hmax : Maps.size D0 ≤ maxLen) (hbytes : Maps.size D0 * 16 ≤ 140737488355328) :
    CallsIn Fence.wide 5 Tryz.prog 74 #[.func (.func 125) #[] #[.pointer (some ⟨w.heap.size, 0, none⟩)]] (w.alloc (.cells #[.map (some b)] 117)) fun e w' => ∃ (v : Value) (ss : List (List UInt8)), e = .returned v ∧ ss.Perm (strKeys D0) ∧
      w'.ownsRow (w.alloc (.cells #[.map (some b)] 117)).heap.size 9 1 v ss.length ((ss.mergeSort (fun x y => decide (x ≤ y))).map encStr) ∧ (v = .slice none 0 0 ↔ ss = []) ∧ Below (w.alloc (.cells #[.map (some b)] 117)).heap.size (w.alloc (.cells #[.map (some b)] 117)) w' := by
  have hbl := hown.lt
  have hseq : SeqGives Fence.wide 2 Tryz.prog 125 #[.pointer (some ⟨w.heap.size, 0, none⟩)] encStr (fun ss => ss.Perm (strKeys D0)) (Maps.size D0) (w.alloc (.cells #[.map (some b)] 117)) :=
    AnyZ.keys_gives (ρ := Tryz.keys75_ren) { Tryz.keys75 with } Fence.wide _ trivial rfl (by omega) w.heap.size b nn D0 _ (by simp) (by simp) (by
      obtain ⟨es, clock, hb, Ft, hs, hD⟩ := hown
      exact ⟨es, clock, (Below.heap_alloc _ _ b hbl).trans hb, Ft, hs, hD⟩)
  exact AnyZ.sorted_in Tryz.sorted74 Fence.wide 5 trivial trivial trivial trivial rfl (by omega) (Tryz.sorts74 _) (enters_of Tryz.func124 (by kernel_rfl) rfl) 125 #[.pointer (some ⟨w.heap.size, 0, none⟩)] trivial (enters_of Tryz.func125 (by kernel_rfl) rfl) _ _ hmax hbytes _ hseq

set_option maxHeartbeats 1000000 in
/-- **.. AND FOR THE nil MAP: nil.** -/
theorem Tryz.slices_Sorted_keys_nil_74_75 (w : World) :
    CallsIn Fence.wide 5 Tryz.prog 74 #[.func (.func 125) #[] #[.pointer (some ⟨w.heap.size, 0, none⟩)]] (w.alloc (.cells #[.map none] 117)) fun e w' => ∃ (v : Value) (ss : List (List UInt8)), e = .returned v ∧ ss = [] ∧
      w'.ownsRow (w.alloc (.cells #[.map none] 117)).heap.size 9 1 v ss.length ((ss.mergeSort (fun x y => decide (x ≤ y))).map encStr) ∧ (v = .slice none 0 0 ↔ ss = []) ∧ Below (w.alloc (.cells #[.map none] 117)).heap.size (w.alloc (.cells #[.map none] 117)) w' := by
  have hseq : SeqGives Fence.wide 2 Tryz.prog 125 #[.pointer (some ⟨w.heap.size, 0, none⟩)] encStr (fun ss : List (List UInt8) => ss = []) 0 (w.alloc (.cells #[.map none] 117)) :=
    AnyZ.keys_gives_nil (ρ := Tryz.keys75_ren) { Tryz.keys75 with } Fence.wide _ trivial rfl w.heap.size _ (by simp) (by simp)
  exact AnyZ.sorted_in Tryz.sorted74 Fence.wide 5 trivial trivial trivial trivial rfl (by omega) (Tryz.sorts74 _) (enters_of Tryz.func124 (by kernel_rfl) rfl) 125 #[.pointer (some ⟨w.heap.size, 0, none⟩)] trivial (enters_of Tryz.func125 (by kernel_rfl) rfl) _ 0 (Nat.zero_le _) (by omega) _ hseq

end Go.Proofs
