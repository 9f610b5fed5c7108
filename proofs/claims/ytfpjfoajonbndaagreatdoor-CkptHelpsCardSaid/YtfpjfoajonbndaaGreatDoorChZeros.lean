import Derived.Test.YtfpjfoajonbndaaGreatDoorChAppReads
import Derived.Test.YtfpjfoajonbndaaGreatDoorCh2
import Derived.Lib.AppendZerosOnto
namespace Go.Proofs.YtfpjfoajonbndaaGreatDoor
open Go.RowKit
open Go.RowKit Go.Lib
theorem run_append_zeros_own{P:Program}(w:World)(base:Nat)(t tn ty e:TypeId)(i:TypeInfo)(z:Value)(size bytes:Nat)(kq kn:IntKind)(ht:P.underlying t=some (.slice e))(htn:P.underlying tn=some (.int kn))(hi:P.info? e=some i)(hz:i.zero=some z)
  (hsize:i.size=size) (hby:i.bytes=bytes) (hzs:z.cells.size=size) (hsz:0<size)
  (v:Value) (n:Nat) (xs:List Value) (hown:w.ownsRow base e size v n xs) (k:Nat) (h1:∀ u∈(Builtin.zeroCells z.cells k).toList,u.oneCell'=true)
  (h63:n+k≤maxLen) (hbytes:(n+k) * bytes≤140737488355328) (hbase:base≤w.heap.size) :
  ∃ v' w',(Builtin.append_ #[t,tn] ty #[v,.int kq k]).run P w=.ok v' w'∧w'.ownsRow base e size v' (n+k) (xs ++ (Builtin.zeroCells z.cells k).toList)∧w.grownBy w' v.ownBlock∧(v'.ownBlock=v.ownBlock∨v'.ownBlock=some w.heap.size):=by
 subst hsize
 subst hby
 have hsmall:n+k≤9223372036854775807:=by simp only [maxLen] at h63;omega
 have hzl:(Builtin.zeroCells z.cells k).toList.length=k * i.size:=by rw [Array.length_toList,size_zeroCells,hzs]
 have hlen:(xs ++ (Builtin.zeroCells z.cells k).toList).length=(n+k) * i.size:=by rw [List.length_append,hown.1,hzl,Nat.add_mul]
 have hkb:k * i.bytes≤281474976710656:=by
  have:k * i.bytes≤(n+k) * i.bytes:=Nat.mul_le_mul_right _ (by omega)
  omega
 have hw:IntKind.i64.wrap (k:Int)=k:=by rw [IntKind.wrap_i64];omega
 by_cases hk0:k=0
 ·subst hk0
  have hz0:(Builtin.zeroCells z.cells 0).toList=[]:=List.eq_nil_of_length_eq_zero (by rw [hzl];simp)
  rw [hz0,List.append_nil,Nat.add_zero]
  refine ⟨v,w,?_,hown,⟨rfl,rfl,rfl,Nat.le_refl _,fun _ _ _=>rfl⟩,.inl rfl⟩
  have hw0:IntKind.i64.wrap 0=0:=by decide
  rcases hown.2 with ⟨rfl,rfl⟩|⟨g,cap,cur,rfl,hbg,hg,hnc,hcm,hcs,htake⟩
  ·simp [Builtin.append_,run_underlying ht,run_underlying htn,sizeOf,typeInfo,hi,asInt,asIntOf,hw0]
  ·have hroom:n≤cap:=hnc
   simp [Builtin.append_,run_underlying ht,run_underlying htn,sizeOf,typeInfo,hi,asInt,asIntOf,hroom,hw0,storeCells]
 ·have grown:∀ (old:Nat),old<n+k→∀ (row:Option Nat),
    (w.drew.alloc (.cells (xs.toArray ++ Builtin.zeroCells z.cells k ++ Builtin.zeroCells z.cells (grownCap w (n+k) old e - (n+k))) e)).ownsRow base e i.size
     (.slice (some ⟨w.heap.size,0,none⟩) (n+k) (grownCap w (n+k) old e)) (n+k) (xs ++ (Builtin.zeroCells z.cells k).toList) ∧
    w.grownBy (w.drew.alloc (.cells (xs.toArray ++ Builtin.zeroCells z.cells k ++ Builtin.zeroCells z.cells (grownCap w (n+k) old e - (n+k))) e)) row:=by
   intro old ho row
   have hge:=grownCap_ge w (n+k) old e
   have hcm:grownCap w (n+k) old e≤maxLen:=grownCap_le_maxLen w (n+k) old e h63
   refine ⟨⟨hlen,.inr ⟨w.heap.size,_,_,rfl,hbase,heap_alloc_new w.drew _,hge,hcm,?_,?_⟩⟩,⟨rfl,rfl,rfl,by simp,fun j hj _=>Below.heap_alloc w.drew _ j hj⟩⟩
   ·simp only [Array.size_append,List.size_toArray,size_zeroCells,hzs,hown.1,←Nat.add_mul]
    congr 1
    omega
   ·simp only [Array.toList_append,List.append_assoc]
    rw [←List.append_assoc,←hlen]
    exact List.take_left
  rcases hown.2 with ⟨rfl,rfl⟩|⟨g,cap,cur,rfl,hbg,hg,hnc,hcm,hcs,htake⟩
  ·have hx:xs=[]:=List.eq_nil_of_length_eq_zero (by simpa using hown.1)
   subst hx
   have hr:=run_append_nil_zeros (P:=P) w t tn ty e i z kq kn ht htn hi hz k (by omega) (by omega) (by omega) hkb
   have hgr:=grown 0 (by omega) (Value.ownBlock (.slice none 0 0))
   simp only [Nat.zero_add,List.nil_append,Array.empty_append] at hgr ⊢
   exact ⟨_,_,hr,hgr.1,hgr.2,Or.inr rfl⟩
  ·by_cases hroom:n+k≤cap
   ·have hfit:n * i.size+(Builtin.zeroCells z.cells k).toList.length≤cur.size:=by rw [hzl,hcs,←Nat.add_mul];exact Nat.mul_le_mul_right _ hroom
    have hst:=run_storeCells_at P g (n * i.size) e (Builtin.zeroCells z.cells k).toList 0 cur w hg (by simpa using hfit) h1
    simp only [Nat.add_zero] at hst
    have hneg:¬ ((k:Int)<0):=by omega
    have hbig:¬ (281474976710656<(k:Int) * (i.bytes:Int)):=by rw [←Int.natCast_mul];omega
    have hns:¬ (k * i.size=0):=Nat.mul_ne_zero hk0 (by omega)
    have hks:¬ (k=0∨i.size=0):=by omega
    have hr:(Builtin.append_ #[t,tn] ty #[.slice (some ⟨g,0,none⟩) n cap,.int kq k]).run P w=.ok (.slice (some ⟨g,0,none⟩) (n+k) cap) (w.setRow g (cur.toList.take (n * i.size) ++ (Builtin.zeroCells z.cells k).toList ++ cur.toList.drop (n * i.size+(Builtin.zeroCells z.cells k).toList.length)).toArray):=by
     simp [Builtin.append_,run_underlying ht,run_underlying htn,sizeOf,typeInfo,zeroValue,hi,hz,asInt,asIntOf,hw,hneg,hbig,hns,hroom,Addr.add_lit,hst]
    refine ⟨_,_,hr,⟨hlen,.inr ⟨g,cap,_,rfl,hbg,setRow_heap w g cur _ e _ hg,hroom,hcm,?_,?_⟩⟩,⟨rfl,rfl,rfl,by simp,fun j _ hj=>setRow_other w g j _ (fun e=>hj (by simp [Value.ownBlock,e]))⟩,Or.inl rfl⟩
    ·simp only [List.size_toArray,List.length_append,List.length_take,List.length_drop,Array.length_toList] at hfit ⊢
     omega
    ·rw [htake,←hlen]
     exact List.take_left
   ·have holds:∀ j u,xs[j]? = some u→w.drew.cell? ((⟨g,0,none⟩:Addr).add j)=some u:=hown.cells (g:=g) rfl
    have hold:=run_firstCells_some (P:=P) w.drew i.size n ⟨g,0,none⟩ n cap xs hown.1 holds
    have hr:=run_append_grow_zeros (P:=P) w t tn ty e i z kq kn ht htn hi hz (some ⟨g,0,none⟩) n cap xs hold k (by omega) (by omega) (by omega) (by omega) hkb (growslice_fits (by omega) hbytes)
    have hgr:=grown cap (by omega) (Value.ownBlock (.slice (some ⟨g,0,none⟩) n cap))
    exact ⟨_,_,hr,hgr.1,hgr.2,Or.inr rfl⟩
end Go.Proofs.YtfpjfoajonbndaaGreatDoor
