/-
  DERIVED: THE SHELF's CONTRACTS AT THIS DUMP, IN PLAIN WORDS (tools/lay-plain.mjs out of 'XxIter0.lean', which tools/lay-shelf.mjs wrote): THE SAME DECLARATIONS UNDER THE SAME NAMES: 'import', 'namespace', 'open', 'def', 'theorem' AND NOTHING ELSE: no command of the shelf's: FOR A HAND-IN. Each laying: the table of numbers ('.._ren') and one theorem, a field a fact of the dump's own or the kernel's comparison; each contract: ONE APPLICATION.
-/
import Derived.Shelf.SlIter.Nil
import Derived.Shelf.SortM.Plain
import Derived.Shelf.SortM.SortNone
import Derived.Ground.GgzProg
import Derived.Ground.SlgmProg
import Derived.Test.YtnhangmcnciffaaGreatDoorProg
namespace Go.Proofs
open Go.RowKit Go.Maps Go.Sort Go.Shelf
def Tryz.keys127_ren : Go.Shelf.Ren := ⟨fun | 7 => 127 | 10 => 165 | n => n, fun | 23 => 151 | 26 => 9 | 3 => 149 | 28 => 227 | 0 => 0 | 27 => 226 | 33 => 148 | 4 => 4 | n => n, fun | n => n⟩
theorem Tryz.keys127 : Go.Proofs.SlLaysZ.n7 Tryz.prog Tryz.keys127_ren := {
  mixed := by kernel_rfl
  f7 := ⟨Tryz.f127.name, by decide, Tryz.func127.trans (congrArg some (by kernel_rfl))⟩
  f10 := ⟨Tryz.f165.name, by decide, Tryz.func165.trans (congrArg some (by kernel_rfl))⟩
  t0 := Tryz.underlying0
  a0 := Tryz.isAgg0
  z0 := Tryz.sizeOf0
  v0 := Tryz.zeroValue0
  t4 := Tryz.underlying4
  a4 := Tryz.isAgg4
  z4 := Tryz.sizeOf4
  v4 := Tryz.zeroValue4
  t23 := Tryz.underlying151
  a23 := Tryz.isAgg151
  z23 := Tryz.sizeOf151
  v23 := Tryz.zeroValue151
  t26 := Tryz.underlying9
  a26 := Tryz.isAgg9
  z26 := Tryz.sizeOf9
  v26 := Tryz.zeroValue9
  t27 := Tryz.underlying226
  a27 := Tryz.isAgg226
  z27 := Tryz.sizeOf226
  v27 := Tryz.zeroValue226
  t28 := Tryz.underlying227
  a28 := Tryz.isAgg227
  z28 := Tryz.sizeOf227
  v28 := Tryz.zeroValue227
  t33 := Tryz.underlying148
  a33 := Tryz.isAgg148
  z33 := Tryz.sizeOf148
  v33 := Tryz.zeroValue148 }
def Tryz.sorted126_ren : Go.Shelf.Ren := ⟨fun | 6 => 126 | 8 => 163 | 9 => 164 | 11 => 189 | 13 => 191 | 12 => 190 | 23 => 211 | 24 => 212 | 14 => 202 | 15 => 203 | 16 => 204 | 17 => 205 | 18 => 206 | 19 => 207 | 20 => 208 | 21 => 209 | 22 => 210 | 25 => 219 | 26 => 220 | 27 => 221 | 28 => 222 | 29 => 223 | 30 => 224 | 31 => 227 | n => n, fun | 26 => 9 | 28 => 227 | 24 => 165 | 0 => 0 | 3 => 3 | 37 => 288 | 48 => 52 | 50 => 51 | 4 => 4 | 40 => 309 | 39 => 308 | 45 => 233 | 5 => 5 | 9 => 9 | 51 => 320 | 55 => 324 | 57 => 326 | 58 => 119 | 33 => 148 | n => n, fun | n => n⟩
theorem Tryz.sorted126 : Go.Proofs.SlLaysZ.n6 Tryz.prog Tryz.sorted126_ren := {
  mixed := by kernel_rfl
  f6 := ⟨Tryz.f126.name, by decide, Tryz.func126.trans (congrArg some (by kernel_rfl))⟩
  f8 := ⟨Tryz.f163.name, by decide, Tryz.func163.trans (congrArg some (by kernel_rfl))⟩
  f11 := ⟨Tryz.f189.name, by decide, Tryz.func189.trans (congrArg some (by kernel_rfl))⟩
  t0 := Tryz.underlying0
  a0 := Tryz.isAgg0
  z0 := Tryz.sizeOf0
  v0 := Tryz.zeroValue0
  t24 := Tryz.underlying165
  a24 := Tryz.isAgg165
  z24 := Tryz.sizeOf165
  v24 := Tryz.zeroValue165
  t26 := Tryz.underlying9
  a26 := Tryz.isAgg9
  z26 := Tryz.sizeOf9
  v26 := Tryz.zeroValue9
  t28 := Tryz.underlying227
  a28 := Tryz.isAgg227
  z28 := Tryz.sizeOf227
  v28 := Tryz.zeroValue227
  i26 := by kernel_rfl }
def Tryz.sort164_ren : Go.Shelf.Ren := ⟨fun | 6 => 164 | 8 => 191 | 9 => 190 | 19 => 211 | 20 => 212 | 21 => 202 | 22 => 203 | 23 => 204 | 24 => 205 | 25 => 206 | 26 => 207 | 27 => 208 | 28 => 209 | 29 => 210 | 36 => 219 | 31 => 220 | 32 => 221 | 37 => 222 | 38 => 223 | 39 => 224 | 41 => 227 | n => n, fun | 27 => 165 | 29 => 9 | 3 => 3 | 32 => 288 | 26 => 165 | 0 => 0 | 44 => 52 | 46 => 51 | 4 => 4 | 36 => 309 | 35 => 308 | 41 => 233 | 5 => 5 | 9 => 9 | 53 => 320 | 57 => 324 | 63 => 326 | 64 => 119 | n => n, fun | n => n⟩
theorem Tryz.sort164 : Go.Proofs.SlLaysM.n6 Tryz.prog Tryz.sort164_ren := {
  mixed := by kernel_rfl
  f6 := ⟨Tryz.f164.name, by decide, Tryz.func164.trans (congrArg some (by kernel_rfl))⟩
  f8 := Tryz.func191.trans (congrArg some (by kernel_rfl))
  f9 := ⟨Tryz.f190.name, by decide, Tryz.func190.trans (congrArg some (by kernel_rfl))⟩
  f19 := Tryz.func211.trans (congrArg some (by kernel_rfl))
  f20 := Tryz.func212.trans (congrArg some (by kernel_rfl))
  f21 := ⟨Tryz.f202.name, by decide, Tryz.func202.trans (congrArg some (by kernel_rfl))⟩
  f22 := ⟨Tryz.f203.name, by decide, Tryz.func203.trans (congrArg some (by kernel_rfl))⟩
  f23 := ⟨Tryz.f204.name, by decide, Tryz.func204.trans (congrArg some (by kernel_rfl))⟩
  f24 := ⟨Tryz.f205.name, by decide, Tryz.func205.trans (congrArg some (by kernel_rfl))⟩
  f25 := ⟨Tryz.f206.name, by decide, Tryz.func206.trans (congrArg some (by kernel_rfl))⟩
  f26 := ⟨Tryz.f207.name, by decide, Tryz.func207.trans (congrArg some (by kernel_rfl))⟩
  f27 := ⟨Tryz.f208.name, by decide, Tryz.func208.trans (congrArg some (by kernel_rfl))⟩
  f28 := ⟨Tryz.f209.name, by decide, Tryz.func209.trans (congrArg some (by kernel_rfl))⟩
  f29 := ⟨Tryz.f210.name, by decide, Tryz.func210.trans (congrArg some (by kernel_rfl))⟩
  f31 := Tryz.func220.trans (congrArg some (by kernel_rfl))
  f32 := Tryz.func221.trans (congrArg some (by kernel_rfl))
  f36 := ⟨Tryz.f219.name, by decide, Tryz.func219.trans (congrArg some (by kernel_rfl))⟩
  f37 := ⟨Tryz.f222.name, by decide, Tryz.func222.trans (congrArg some (by kernel_rfl))⟩
  f38 := ⟨Tryz.f223.name, by decide, Tryz.func223.trans (congrArg some (by kernel_rfl))⟩
  f39 := ⟨Tryz.f224.name, by decide, Tryz.func224.trans (congrArg some (by kernel_rfl))⟩
  f41 := ⟨Tryz.f227.name, by decide, Tryz.func227.trans (congrArg some (by kernel_rfl))⟩
  t0 := Tryz.underlying0
  a0 := Tryz.isAgg0
  z0 := Tryz.sizeOf0
  v0 := Tryz.zeroValue0
  t3 := Tryz.underlying3
  a3 := Tryz.isAgg3
  z3 := Tryz.sizeOf3
  v3 := Tryz.zeroValue3
  t4 := Tryz.underlying4
  a4 := Tryz.isAgg4
  z4 := Tryz.sizeOf4
  v4 := Tryz.zeroValue4
  t5 := Tryz.underlying5
  a5 := Tryz.isAgg5
  z5 := Tryz.sizeOf5
  v5 := Tryz.zeroValue5
  t9 := Tryz.underlying9
  a9 := Tryz.isAgg9
  z9 := Tryz.sizeOf9
  v9 := Tryz.zeroValue9
  t26 := Tryz.underlying165
  a26 := Tryz.isAgg165
  z26 := Tryz.sizeOf165
  v26 := Tryz.zeroValue165
  t27 := Tryz.underlying165
  a27 := Tryz.isAgg165
  z27 := Tryz.sizeOf165
  v27 := Tryz.zeroValue165
  t29 := Tryz.underlying9
  a29 := Tryz.isAgg9
  z29 := Tryz.sizeOf9
  v29 := Tryz.zeroValue9
  t32 := Tryz.underlying288
  a32 := Tryz.isAgg288
  z32 := Tryz.sizeOf288
  v32 := Tryz.zeroValue288
  t35 := Tryz.underlying308
  a35 := Tryz.isAgg308
  z35 := Tryz.sizeOf308
  v35 := Tryz.zeroValue308
  t36 := Tryz.underlying309
  a36 := Tryz.isAgg309
  z36 := Tryz.sizeOf309
  v36 := Tryz.zeroValue309
  t41 := Tryz.underlying233
  a41 := Tryz.isAgg233
  z41 := Tryz.sizeOf233
  v41 := Tryz.zeroValue233
  t44 := Tryz.underlying52
  a44 := Tryz.isAgg52
  z44 := Tryz.sizeOf52
  v44 := Tryz.zeroValue52
  t46 := Tryz.underlying51
  a46 := Tryz.isAgg51
  z46 := Tryz.sizeOf51
  v46 := Tryz.zeroValue51
  t53 := Tryz.underlying320
  a53 := Tryz.isAgg320
  z53 := Tryz.sizeOf320
  v53 := Tryz.zeroValue320
  t57 := Tryz.underlying324
  a57 := Tryz.isAgg324
  z57 := Tryz.sizeOf324
  v57 := Tryz.zeroValue324
  t63 := Tryz.underlying326
  a63 := Tryz.isAgg326
  z63 := Tryz.sizeOf326
  v63 := Tryz.zeroValue326
  t64 := Tryz.underlying119
  a64 := Tryz.isAgg119
  z64 := Tryz.sizeOf119
  v64 := Tryz.zeroValue119 }
/-- slices.Sort's two contracts at this dump, at the fence that asks nothing. -/
theorem Tryz.sorts126 (m : Nat) : AnyZ.SortsIn Tryz.prog Tryz.sorted126_ren Fence.wide m :=
  ⟨fun blk off cap ss W hH hblk hsz => callsIn_wide.2 (AnyM.slices_Sort_string Tryz.sort164 blk off cap ss W hH hblk hsz),
   fun p cap W => callsIn_wide.2 (AnyM.slices_Sort_string_none Tryz.sort164 p cap W)⟩

/-- **maps.Keys[corncrib/disk.dir,string,*corncrib/disk.file], at whatever map, the nil one too:** a function value over ONE NEW BLOCK, which holds the map. -/
theorem Tryz.maps_Keys_127 (mb : Option Nat) (W : World) : CallsIn Fence.wide 5 Tryz.prog 127 #[.map mb] W fun e w' => e = .returned (.func (.func 165) #[] #[.pointer (some ⟨W.heap.size, 0, none⟩)]) ∧ w' = W.alloc (.cells #[.map mb] 151) :=
  AnyZ.keys_in Tryz.keys127 Fence.wide 5 trivial rfl mb W

set_option maxHeartbeats 1000000 in
/-- **slices.Sorted[string] AT WHAT maps.Keys[corncrib/disk.dir,string,*corncrib/disk.file] HANDED BACK FOR A MAP THAT IS NOT nil** ('w': the world AHEAD of maps.Keys' call): A NEW SLICE THAT HOLDS THE MAP's KEYS, SORTED; nil just where it has none; nothing that lay before has turned. -/
theorem Tryz.slices_Sorted_keys_126_127 {H : Type} (b nn : Nat) (D0 : DataW H) (R : Value → Option (DataW H × List MemPlace)) (w : World) (hown : w.ownsMap Tryz.prog 9 R b nn D0) (hmax : Maps.size D0 ≤ maxLen) (hbytes : Maps.size D0 * 16 ≤ 140737488355328) :
    CallsIn Fence.wide 5 Tryz.prog 126 #[.func (.func 165) #[] #[.pointer (some ⟨w.heap.size, 0, none⟩)]] (w.alloc (.cells #[.map (some b)] 151)) fun e w' => ∃ (v : Value) (ss : List (List UInt8)), e = .returned v ∧ ss.Perm (strKeys D0) ∧
      w'.ownsRow (w.alloc (.cells #[.map (some b)] 151)).heap.size 9 1 v ss.length ((ss.mergeSort (fun x y => decide (x ≤ y))).map encStr) ∧ (v = .slice none 0 0 ↔ ss = []) ∧ Below (w.alloc (.cells #[.map (some b)] 151)).heap.size (w.alloc (.cells #[.map (some b)] 151)) w' := by
  have hbl := hown.lt
  have hseq : SeqGives Fence.wide 2 Tryz.prog 165 #[.pointer (some ⟨w.heap.size, 0, none⟩)] encStr (fun ss => ss.Perm (strKeys D0)) (Maps.size D0) (w.alloc (.cells #[.map (some b)] 151)) :=
    AnyZ.keys_gives (ρ := Tryz.keys127_ren) { Tryz.keys127 with } Fence.wide _ trivial rfl (by omega) w.heap.size b nn D0 _ (by simp) (by simp) (by
      obtain ⟨es, clock, hb, Ft, hs, hD⟩ := hown
      exact ⟨es, clock, (Below.heap_alloc _ _ b hbl).trans hb, Ft, hs, hD⟩)
  exact AnyZ.sorted_in Tryz.sorted126 Fence.wide 5 trivial trivial trivial trivial rfl (by omega) (Tryz.sorts126 _) (enters_of Tryz.func164 (by kernel_rfl) rfl) 165 #[.pointer (some ⟨w.heap.size, 0, none⟩)] trivial (enters_of Tryz.func165 (by kernel_rfl) rfl) _ _ hmax hbytes _ hseq

set_option maxHeartbeats 1000000 in
/-- **.. AND FOR THE nil MAP: nil.** -/
theorem Tryz.slices_Sorted_keys_nil_126_127 (w : World) :
    CallsIn Fence.wide 5 Tryz.prog 126 #[.func (.func 165) #[] #[.pointer (some ⟨w.heap.size, 0, none⟩)]] (w.alloc (.cells #[.map none] 151)) fun e w' => ∃ (v : Value) (ss : List (List UInt8)), e = .returned v ∧ ss = [] ∧
      w'.ownsRow (w.alloc (.cells #[.map none] 151)).heap.size 9 1 v ss.length ((ss.mergeSort (fun x y => decide (x ≤ y))).map encStr) ∧ (v = .slice none 0 0 ↔ ss = []) ∧ Below (w.alloc (.cells #[.map none] 151)).heap.size (w.alloc (.cells #[.map none] 151)) w' := by
  have hseq : SeqGives Fence.wide 2 Tryz.prog 165 #[.pointer (some ⟨w.heap.size, 0, none⟩)] encStr (fun ss : List (List UInt8) => ss = []) 0 (w.alloc (.cells #[.map none] 151)) :=
    AnyZ.keys_gives_nil (ρ := Tryz.keys127_ren) { Tryz.keys127 with } Fence.wide _ trivial rfl w.heap.size _ (by simp) (by simp)
  exact AnyZ.sorted_in Tryz.sorted126 Fence.wide 5 trivial trivial trivial trivial rfl (by omega) (Tryz.sorts126 _) (enters_of Tryz.func164 (by kernel_rfl) rfl) 165 #[.pointer (some ⟨w.heap.size, 0, none⟩)] trivial (enters_of Tryz.func165 (by kernel_rfl) rfl) _ 0 (Nat.zero_le _) (by omega) _ hseq

end Go.Proofs
