import Derived.Shelf.SlIter.Nil
import Derived.Shelf.SortM.Plain
import Derived.Shelf.SortM.SortNone
import Derived.Ground.GgzProg
import Derived.Ground.SlgmProg
import Derived.Test.YtfpjfoajonbndaaGreatDoorProg
import Derived.Test.YtfpjfoajonbndaaGreatDoorCh5
namespace Go.Proofs
open Go.RowKit
open Go.RowKit Go.Maps Go.Sort Go.Shelf
def Tryz.keys51_ren:Go.Shelf.Ren:=⟨fun|7=>51|10=>103|n=>n,fun|23=>101|26=>9|3=>124|28=>122|0=>0|27=>121|33=>193|4=>4|n=>n,fun|n=>n⟩
theorem Tryz.keys51:Go.Proofs.SlLaysZ.n7 Tryz.prog Tryz.keys51_ren:={
  mixed:=by kernel_rfl
  f7:=⟨Tryz.f51.name,by decide,Tryz.func51.trans (congrArg some (by kernel_rfl))⟩
  f10:=⟨Tryz.f103.name,by decide,Tryz.func103.trans (congrArg some (by kernel_rfl))⟩
  t0:=Tryz.underlying0
  a0:=Tryz.isAgg0
  z0:=Tryz.sizeOf0
  v0:=Tryz.zeroValue0
  t4:=Tryz.underlying4
  a4:=Tryz.isAgg4
  z4:=Tryz.sizeOf4
  v4:=Tryz.zeroValue4
  t23:=Tryz.underlying101
  a23:=Tryz.isAgg101
  z23:=Tryz.sizeOf101
  v23:=Tryz.zeroValue101
  t26:=Tryz.underlying9
  a26:=Tryz.isAgg9
  z26:=Tryz.sizeOf9
  v26:=Tryz.zeroValue9
  t27:=Tryz.underlying121
  a27:=Tryz.isAgg121
  z27:=Tryz.sizeOf121
  v27:=Tryz.zeroValue121
  t28:=Tryz.underlying122
  a28:=Tryz.isAgg122
  z28:=Tryz.sizeOf122
  v28:=Tryz.zeroValue122
  t33:=Tryz.underlying193
  a33:=Tryz.isAgg193
  z33:=Tryz.sizeOf193
  v33:=Tryz.zeroValue193 }
def Tryz.sorted50_ren:Go.Shelf.Ren:=⟨fun|6=>50|8=>101|9=>102|11=>141|13=>143|12=>142|23=>181|24=>182|14=>172|15=>173|16=>174|17=>175|18=>176|19=>177|20=>178|21=>179|22=>180|25=>195|26=>196|27=>197|28=>198|29=>199|30=>200|31=>207|n=>n,fun|26=>9|28=>122|24=>38|0=>0|3=>3|37=>243|48=>46|50=>45|4=>4|40=>274|39=>273|45=>227|5=>5|9=>9|51=>291|55=>295|57=>302|58=>207|33=>193|n=>n,fun|n=>n⟩
theorem Tryz.sorted50:Go.Proofs.SlLaysZ.n6 Tryz.prog Tryz.sorted50_ren:={
  mixed:=by kernel_rfl
  f6:=⟨Tryz.f50.name,by decide,Tryz.func50.trans (congrArg some (by kernel_rfl))⟩
  f8:=⟨Tryz.f101.name,by decide,Tryz.func101.trans (congrArg some (by kernel_rfl))⟩
  f11:=⟨Tryz.f141.name,by decide,Tryz.func141.trans (congrArg some (by kernel_rfl))⟩
  t0:=Tryz.underlying0
  a0:=Tryz.isAgg0
  z0:=Tryz.sizeOf0
  v0:=Tryz.zeroValue0
  t24:=Tryz.underlying38
  a24:=Tryz.isAgg38
  z24:=Tryz.sizeOf38
  v24:=Tryz.zeroValue38
  t26:=Tryz.underlying9
  a26:=Tryz.isAgg9
  z26:=Tryz.sizeOf9
  v26:=Tryz.zeroValue9
  t28:=Tryz.underlying122
  a28:=Tryz.isAgg122
  z28:=Tryz.sizeOf122
  v28:=Tryz.zeroValue122
  i26:=by kernel_rfl }
def Tryz.sort102_ren:Go.Shelf.Ren:=⟨fun|6=>102|8=>143|9=>142|19=>181|20=>182|21=>172|22=>173|23=>174|24=>175|25=>176|26=>177|27=>178|28=>179|29=>180|36=>195|31=>196|32=>197|37=>198|38=>199|39=>200|41=>207|n=>n,fun|27=>38|29=>9|3=>3|32=>243|26=>38|0=>0|44=>46|46=>45|4=>4|36=>274|35=>273|41=>227|5=>5|9=>9|53=>291|57=>295|63=>302|64=>207|n=>n,fun|n=>n⟩
theorem Tryz.sort102:Go.Proofs.SlLaysM.n6 Tryz.prog Tryz.sort102_ren:={
  mixed:=by kernel_rfl
  f6:=⟨Tryz.f102.name,by decide,Tryz.func102.trans (congrArg some (by kernel_rfl))⟩
  f8:=Tryz.func143.trans (congrArg some (by kernel_rfl))
  f9:=⟨Tryz.f142.name,by decide,Tryz.func142.trans (congrArg some (by kernel_rfl))⟩
  f19:=Tryz.func181.trans (congrArg some (by kernel_rfl))
  f20:=Tryz.func182.trans (congrArg some (by kernel_rfl))
  f21:=⟨Tryz.f172.name,by decide,Tryz.func172.trans (congrArg some (by kernel_rfl))⟩
  f22:=⟨Tryz.f173.name,by decide,Tryz.func173.trans (congrArg some (by kernel_rfl))⟩
  f23:=⟨Tryz.f174.name,by decide,Tryz.func174.trans (congrArg some (by kernel_rfl))⟩
  f24:=⟨Tryz.f175.name,by decide,Tryz.func175.trans (congrArg some (by kernel_rfl))⟩
  f25:=⟨Tryz.f176.name,by decide,Tryz.func176.trans (congrArg some (by kernel_rfl))⟩
  f26:=⟨Tryz.f177.name,by decide,Tryz.func177.trans (congrArg some (by kernel_rfl))⟩
  f27:=⟨Tryz.f178.name,by decide,Tryz.func178.trans (congrArg some (by kernel_rfl))⟩
  f28:=⟨Tryz.f179.name,by decide,Tryz.func179.trans (congrArg some (by kernel_rfl))⟩
  f29:=⟨Tryz.f180.name,by decide,Tryz.func180.trans (congrArg some (by kernel_rfl))⟩
  f31:=Tryz.func196.trans (congrArg some (by kernel_rfl))
  f32:=Tryz.func197.trans (congrArg some (by kernel_rfl))
  f36:=⟨Tryz.f195.name,by decide,Tryz.func195.trans (congrArg some (by kernel_rfl))⟩
  f37:=⟨Tryz.f198.name,by decide,Tryz.func198.trans (congrArg some (by kernel_rfl))⟩
  f38:=⟨Tryz.f199.name,by decide,Tryz.func199.trans (congrArg some (by kernel_rfl))⟩
  f39:=⟨Tryz.f200.name,by decide,Tryz.func200.trans (congrArg some (by kernel_rfl))⟩
  f41:=⟨Tryz.f207.name,by decide,Tryz.func207.trans (congrArg some (by kernel_rfl))⟩
  t0:=Tryz.underlying0
  a0:=Tryz.isAgg0
  z0:=Tryz.sizeOf0
  v0:=Tryz.zeroValue0
  t3:=Tryz.underlying3
  a3:=Tryz.isAgg3
  z3:=Tryz.sizeOf3
  v3:=Tryz.zeroValue3
  t4:=Tryz.underlying4
  a4:=Tryz.isAgg4
  z4:=Tryz.sizeOf4
  v4:=Tryz.zeroValue4
  t5:=Tryz.underlying5
  a5:=Tryz.isAgg5
  z5:=Tryz.sizeOf5
  v5:=Tryz.zeroValue5
  t9:=Tryz.underlying9
  a9:=Tryz.isAgg9
  z9:=Tryz.sizeOf9
  v9:=Tryz.zeroValue9
  t26:=Tryz.underlying38
  a26:=Tryz.isAgg38
  z26:=Tryz.sizeOf38
  v26:=Tryz.zeroValue38
  t27:=Tryz.underlying38
  a27:=Tryz.isAgg38
  z27:=Tryz.sizeOf38
  v27:=Tryz.zeroValue38
  t29:=Tryz.underlying9
  a29:=Tryz.isAgg9
  z29:=Tryz.sizeOf9
  v29:=Tryz.zeroValue9
  t32:=Tryz.underlying243
  a32:=Tryz.isAgg243
  z32:=Tryz.sizeOf243
  v32:=Tryz.zeroValue243
  t35:=Tryz.underlying273
  a35:=Tryz.isAgg273
  z35:=Tryz.sizeOf273
  v35:=Tryz.zeroValue273
  t36:=Tryz.underlying274
  a36:=Tryz.isAgg274
  z36:=Tryz.sizeOf274
  v36:=Tryz.zeroValue274
  t41:=Tryz.underlying227
  a41:=Tryz.isAgg227
  z41:=Tryz.sizeOf227
  v41:=Tryz.zeroValue227
  t44:=Tryz.underlying46
  a44:=Tryz.isAgg46
  z44:=Tryz.sizeOf46
  v44:=Tryz.zeroValue46
  t46:=Tryz.underlying45
  a46:=Tryz.isAgg45
  z46:=Tryz.sizeOf45
  v46:=Tryz.zeroValue45
  t53:=Tryz.underlying291
  a53:=Tryz.isAgg291
  z53:=Tryz.sizeOf291
  v53:=Tryz.zeroValue291
  t57:=Tryz.underlying295
  a57:=Tryz.isAgg295
  z57:=Tryz.sizeOf295
  v57:=Tryz.zeroValue295
  t63:=Tryz.underlying302
  a63:=Tryz.isAgg302
  z63:=Tryz.sizeOf302
  v63:=Tryz.zeroValue302
  t64:=Tryz.underlying207
  a64:=Tryz.isAgg207
  z64:=Tryz.sizeOf207
  v64:=Tryz.zeroValue207 }
/-- slices.Sort's two contracts at this dump, at the fence that asks nothing. -/
theorem Tryz.sorts50(m:Nat):AnyZ.SortsIn Tryz.prog Tryz.sorted50_ren Fence.wide m:=
  ⟨fun blk off cap ss W hH hblk hsz=>callsIn_wide.2 (AnyM.slices_Sort_string Tryz.sort102 blk off cap ss W hH hblk hsz),
   fun p cap W=>callsIn_wide.2 (AnyM.slices_Sort_string_none Tryz.sort102 p cap W)⟩

/-- **maps.Keys[corncrib/disk.dir,string,*corncrib/disk.file], at whatever map, the nil one too:** a function value over ONE NEW BLOCK, which holds the map. -/
theorem Tryz.maps_Keys_51(mb:Option Nat)(W:World):CallsIn Fence.wide 5 Tryz.prog 51 #[.map mb] W fun e w'=>e=.returned (.func (.func 103) #[] #[.pointer (some ⟨W.heap.size,0,none⟩)])∧w'=W.alloc (.cells #[.map mb] 101):=
  AnyZ.keys_in Tryz.keys51 Fence.wide 5 trivial rfl mb W

set_option maxHeartbeats 1000000 in
/-- **slices.Sorted[string] AT WHAT maps.Keys[corncrib/disk.dir,string,*corncrib/disk.file] HANDED BACK FOR A MAP THAT IS NOT nil** ('w': the world AHEAD of maps.Keys' call): A NEW SLICE THAT HOLDS THE MAP's KEYS, SORTED; nil just where it has none; nothing that lay before has turned. -/
theorem Tryz.slices_Sorted_keys_50_51{H:Type}(b nn:Nat)(D0:DataW H)(R:Value→Option (DataW H×List MemPlace))(w:World)(hown:w.ownsMap Tryz.prog 9 R b nn D0)(hmax:Maps.size D0≤maxLen)(hbytes:Maps.size D0 * 16≤140737488355328) :
    CallsIn Fence.wide 5 Tryz.prog 50 #[.func (.func 103) #[] #[.pointer (some ⟨w.heap.size,0,none⟩)]] (w.alloc (.cells #[.map (some b)] 101)) fun e w'=>∃ (v:Value) (ss:List (List UInt8)),e=.returned v∧ss.Perm (strKeys D0) ∧
      w'.ownsRow (w.alloc (.cells #[.map (some b)] 101)).heap.size 9 1 v ss.length ((ss.mergeSort (fun x y=>decide (x≤y))).map encStr)∧(v=.slice none 0 0↔ss=[])∧Below (w.alloc (.cells #[.map (some b)] 101)).heap.size (w.alloc (.cells #[.map (some b)] 101)) w':=by
  have hbl:=hown.lt
  have hseq:SeqGives Fence.wide 2 Tryz.prog 103 #[.pointer (some ⟨w.heap.size,0,none⟩)] encStr (fun ss=>ss.Perm (strKeys D0)) (Maps.size D0) (w.alloc (.cells #[.map (some b)] 101)):=
    AnyZ.keys_gives (ρ:=Tryz.keys51_ren) { Tryz.keys51 with } Fence.wide _ trivial rfl (by omega) w.heap.size b nn D0 _ (by simp) (by simp) (by
      obtain ⟨es,clock,hb,Ft,hs,hD⟩:=hown
      exact ⟨es,clock,(Below.heap_alloc _ _ b hbl).trans hb,Ft,hs,hD⟩)
  exact AnyZ.sorted_in Tryz.sorted50 Fence.wide 5 trivial trivial trivial trivial rfl (by omega) (Tryz.sorts50 _) (enters_of Tryz.func102 (by kernel_rfl) rfl) 103 #[.pointer (some ⟨w.heap.size,0,none⟩)] trivial (enters_of Tryz.func103 (by kernel_rfl) rfl) _ _ hmax hbytes _ hseq

set_option maxHeartbeats 1000000 in
/-- **.. AND FOR THE nil MAP: nil.** -/
theorem Tryz.slices_Sorted_keys_nil_50_51(w:World) :
    CallsIn Fence.wide 5 Tryz.prog 50 #[.func (.func 103) #[] #[.pointer (some ⟨w.heap.size,0,none⟩)]] (w.alloc (.cells #[.map none] 101)) fun e w'=>∃ (v:Value) (ss:List (List UInt8)),e=.returned v∧ss=[] ∧
      w'.ownsRow (w.alloc (.cells #[.map none] 101)).heap.size 9 1 v ss.length ((ss.mergeSort (fun x y=>decide (x≤y))).map encStr)∧(v=.slice none 0 0↔ss=[])∧Below (w.alloc (.cells #[.map none] 101)).heap.size (w.alloc (.cells #[.map none] 101)) w':=by
  have hseq:SeqGives Fence.wide 2 Tryz.prog 103 #[.pointer (some ⟨w.heap.size,0,none⟩)] encStr (fun ss:List (List UInt8)=>ss=[]) 0 (w.alloc (.cells #[.map none] 101)):=
    AnyZ.keys_gives_nil (ρ:=Tryz.keys51_ren) { Tryz.keys51 with } Fence.wide _ trivial rfl w.heap.size _ (by simp) (by simp)
  exact AnyZ.sorted_in Tryz.sorted50 Fence.wide 5 trivial trivial trivial trivial rfl (by omega) (Tryz.sorts50 _) (enters_of Tryz.func102 (by kernel_rfl) rfl) 103 #[.pointer (some ⟨w.heap.size,0,none⟩)] trivial (enters_of Tryz.func103 (by kernel_rfl) rfl) _ 0 (Nat.zero_le _) (by omega) _ hseq

end Go.Proofs
namespace Go.Proofs.YtfpjfoajonbndaaGreatDoor
open Go.RowKit Go.Maps Go.Sort Go.Shelf
def namesOf (l:Dir):List Nm:=(l.map (·.1)).mergeSort (fun x y=>decide (x≤y))
theorem namesOf_len(l:Dir):(namesOf l).length=l.length:=by simp [namesOf]
def strV (s:Nm):Value:=.string ⟨s.toArray⟩
theorem strKeys_dir(g:Nat→Nat)(l:Dir):strKeys (dirD g l)=l.map (·.1):=by
  unfold dirD strKeys
  simp only [List.map_map]
  rfl
set_option maxHeartbeats 1000000 in
theorem names_any(d:Nat)(F:Nat→Prop)(q:DW)(st:Dk)(K:Nat)(w:World)(h:DiskAt w d F q st)(hok:DkOk K st) :
    Calls Tryz.prog 15 #[(.pointer (some ⟨d,0,none⟩))] w fun e w'=>∃ v,e=.returned v∧w'.ownsRow w.heap.size 9 1 v st.now.length ((namesOf st.now).map strV)∧Below w.heap.size w w':=by
  obtain ⟨c0,c1,c2,c3,c4,c5,cfz⟩:=cells6 h.blk
  have hlt:=blk_lt h.blk
  have hnow:=h.now
  have hl:=hok.lnow
  have hsz:Maps.size (dirD q.fb st.now)=st.now.length:=dirD_size _ _
  have hmax:Maps.size (dirD q.fb st.now)≤maxLen:=by rw [hsz];unfold maxLen;omega
  have hbytes:Maps.size (dirD q.fb st.now) * 16≤140737488355328:=by rw [hsz];omega
  have HC:=Hd (Tryz.slices_Sorted_keys_50_51 q.bn st.now.length (dirD q.fb st.now) ptrR w hnow hmax hbytes)
  clear c0 c1 c3 c4 c5 hnow hmax hbytes h hok
  refine (callsIn_wide (n:=6)).1 ?_
  have hfK:Fence.wide.fn 51:=trivial
  have hfS:Fence.wide.fn 50:=trivial
  refine callsIn_of_wp Tryz.func15 rfl trivial ?_ rfl
  simp only [Tryz.ntmps15,List.size_toArray,List.length_cons,List.length_nil,Nat.reduceAdd,Nat.reduceSub,Array.replicate_succ,Array.replicate_zero,List.push_toArray,List.append_toArray,List.nil_append,List.cons_append]
  gi_wp2_with (first
    | (gi_at_call 51;refine (Tryz.maps_Keys_51 _ _).mono ?_;rintro e w' ⟨rfl,rfl⟩)
    | (gi_at_call 50;refine HC.out.mono ?_;rintro e w' ⟨v,ss,rfl,hS,hrow,hnil,hb⟩))
  go_ret
  have hp:ss.Perm (st.now.map (·.1)):=by rw [←strKeys_dir q.fb];exact hS
  have hlen:ss.length=st.now.length:=by have:=hp.length_eq;simpa using this
  have hm:ss.mergeSort (fun x y=>decide (x≤y))=namesOf st.now:=mergeSort_of_perm hp
  rw [hm,hlen] at hrow
  exact ⟨v,rfl,ownsRow_mono hrow (by simp),((Below.refl _ w).alloc (Nat.le_refl _) _).trans (hb.mono (by simp))⟩
end Go.Proofs.YtfpjfoajonbndaaGreatDoor
