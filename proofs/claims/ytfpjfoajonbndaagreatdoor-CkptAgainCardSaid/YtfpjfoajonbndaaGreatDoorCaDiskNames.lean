import Derived.Test.YtfpjfoajonbndaaGreatDoorIter
import Derived.Test.YtfpjfoajonbndaaGreatDoorCa5
namespace Go.Proofs.YtfpjfoajonbndaaGreatDoor
open Go.RowKit
open Go.RowKit Go.Maps Go.Sort Go.Shelf
def namesOf (l:Dir):List Nm:=(l.map (·.1)).mergeSort (fun x y=>decide (x≤y))
theorem namesOf_len (l:Dir):(namesOf l).length=l.length:=by simp [namesOf]
def strV (s:Nm):Value:=.string ⟨s.toArray⟩
theorem strKeys_dir (g:Nat→Nat) (l:Dir):strKeys (dirD g l)=l.map (·.1):=by
 unfold dirD strKeys
 simp only [List.map_map]
 rfl
set_option maxHeartbeats 1000000 in
theorem names_any (d:Nat) (F:Nat→Prop) (q:DW) (st:Dk) (K:Nat) (w:World) (h:DiskAt w d F q st) (hok:DkOk K st) :
  Calls Tryz.prog 15 #[(.pointer (some ⟨d,0,none⟩))] w fun e w'=>∃ v,e=.returned v∧w'.ownsRow w.heap.size 9 1 v st.now.length ((namesOf st.now).map strV)∧Below w.heap.size w w':=by
 obtain ⟨c0,c1,c2,c3,c4,c5,cfz⟩:=cells6 h.blk
 have hlt:=blk_lt h.blk
 have hnow:=h.now
 have hl:=hok.lnow
 have hsz:Maps.size (dirD q.fb st.now)=st.now.length:=dirD_size _ _
 have hmax:Maps.size (dirD q.fb st.now)≤maxLen:=by rw [hsz];unfold maxLen;omega
 have hbytes:Maps.size (dirD q.fb st.now) * 16≤140737488355328:=by rw [hsz];omega
 have HC:=Lib.hid (Tryz.slices_Sorted_keys_50_51 q.bn st.now.length (dirD q.fb st.now) ptrR w hnow hmax hbytes)
 clear c0 c1 c3 c4 c5 hnow hmax hbytes h hok
 refine (callsIn_wide (n:=6)).1 ?_
 have hfK:Fence.wide.fn 51:=trivial
 have hfS:Fence.wide.fn 50:=trivial
 refine callsIn_of_wp Tryz.func15 rfl trivial ?_ rfl
 simp only [Tryz.ntmps15,List.size_toArray,List.length_cons,List.length_nil,Nat.reduceAdd,Nat.reduceSub,Array.replicate_succ,Array.replicate_zero,List.push_toArray,List.append_toArray,List.nil_append,List.cons_append]
 gi_wp2_with (first
  | (gi_at_call 51;refine (Tryz.maps_Keys_51 _ _).mono ?_;rintro e w' ⟨rfl,rfl⟩)
  | (gi_at_call 50;refine HC.out.mono ?_;rintro e w' ⟨v,ss,rfl,hS,hrow,hnil,hb⟩))
 go_ret
 have hp:ss.Perm (st.now.map (·.1)):=by rw [←strKeys_dir q.fb];exact hS
 have hlen:ss.length=st.now.length:=by have:=hp.length_eq;simpa using this
 have hm:ss.mergeSort (fun x y=>decide (x≤y))=namesOf st.now:=mergeSort_of_perm hp
 rw [hm,hlen] at hrow
 exact ⟨v,rfl,ownsRow_mono hrow (by simp),((Below.refl _ w).alloc (Nat.le_refl _) _).trans (hb.mono (by simp))⟩
end Go.Proofs.YtfpjfoajonbndaaGreatDoor
