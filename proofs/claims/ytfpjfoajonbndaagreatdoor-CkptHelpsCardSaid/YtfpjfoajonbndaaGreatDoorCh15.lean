import Derived.Test.YtfpjfoajonbndaaGreatDoorCh8
import Derived.Test.YtfpjfoajonbndaaGreatDoorCh9
import Derived.Test.YtfpjfoajonbndaaGreatDoorChBytesClone
import Derived.Test.YtfpjfoajonbndaaGreatDoorChIx5
import Derived.Test.YtfpjfoajonbndaaGreatDoorChDiskPicks
import Derived.Laws.BytesArg
namespace Go.Proofs.YtfpjfoajonbndaaGreatDoor
set_option maxHeartbeats 8000000
set_option maxRecDepth 100000
open Go.RowKit
set_option maxRecDepth 100000
set_option maxHeartbeats 8000000
open Go.RowKit
def set4 (w:World) (b:Nat) (u0 u1 u2 u3:Value):World:=(((w.setCell ⟨b,0,none⟩ u0).setCell ⟨b,1,none⟩ u1).setCell ⟨b,2,none⟩ u2).setCell ⟨b,3,none⟩ u3
theorem store4{w:World}{b:Nat}{v0 v1 v2 v3:Value}{t:TypeId}(h:w.heap[b]? = some (.cells #[v0,v1,v2,v3] t (0,0)))(u0 u1 u2 u3:Value):(set4 w b u0 u1 u2 u3).heap[b]? = some (.cells #[u0,u1,u2,u3] t (0,0)):=by
 have h0:(w.setCell ⟨b,0,none⟩ u0).heap[b]? = some (.cells #[u0,v1,v2,v3] t (0,0)):=by simpa using heap_setCell_same w b 0 _ t u0 h
 have h1:((w.setCell ⟨b,0,none⟩ u0).setCell ⟨b,1,none⟩ u1).heap[b]? = some (.cells #[u0,u1,v2,v3] t (0,0)):=by simpa using heap_setCell_same (w.setCell ⟨b,0,none⟩ u0) b 1 _ t u1 h0
 have h2:(((w.setCell ⟨b,0,none⟩ u0).setCell ⟨b,1,none⟩ u1).setCell ⟨b,2,none⟩ u2).heap[b]? = some (.cells #[u0,u1,u2,v3] t (0,0)):=by simpa using heap_setCell_same _ b 2 _ t u2 h1
 simpa [set4] using heap_setCell_same _ b 3 _ t u3 h2
theorem nfree{w:World}{b:Nat}{c0 c1 c2 c3:Value}{t:TypeId}(h:w.heap[b]? = some (.cells #[c0,c1,c2,c3] t (0,0))) :
  w.frozen? ⟨b,0,none⟩=false∧w.frozen? ⟨b,1,none⟩=false∧w.frozen? ⟨b,2,none⟩=false∧w.frozen? ⟨b,3,none⟩=false:=
 ⟨frozen_of_row w b 0 _ _ h,frozen_of_row w b 1 _ _ h,frozen_of_row w b 2 _ _ h,frozen_of_row w b 3 _ _ h⟩
theorem set4_below{B b:Nat}{w:World}(h:B≤b)(u0 u1 u2 u3:Value):Below B w (set4 w b u0 u1 u2 u3):=by
 unfold set4
 exact belo
theorem set4_keeps(w:World)(b:Nat)(u0 u1 u2 u3:Value):Keeps (fun k=>k=b) w (set4 w b u0 u1 u2 u3):=by
 unfold set4
 exact ((((Keeps.refl (fun k=>k=b) w).setCell ⟨b,0,none⟩ u0 (fun _=>rfl)).setCell ⟨b,1,none⟩ u1 (fun _=>rfl)).setCell ⟨b,2,none⟩ u2 (fun _=>rfl)).setCell ⟨b,3,none⟩ u3 (fun _=>rfl)
theorem blk_below'{w w':World}{b:Nat}{x:Obj}(h:w.heap[b]? = some x)(hb:Below w.heap.size w w'):w'.heap[b]? = some x:=(hb.block b (blk_lt h)).trans h
theorem bx_cell{w:World}{b:Nat}{x:Value}{t:TypeId}(h:w.heap[b]? = some (.cells #[x] t (0,0))):w.cell? ⟨b,0,none⟩=some x:=by
 rw [cell_of_row w b 0 _ _ _ h];rfl
theorem nat1_any(bk:Nat)(a:Option Addr)(n c at' k:Nat)(b:List UInt8)(w:World)(hbk:w.heap[bk]? = some (.cells #[.slice a n c] 47 (0,0)))(h:Reads w 1 (.slice a n c) n (b.map bv))(hb:b.length=n)(hc:n≤c)(hk:k=4∨k=8)(hin:at'+k≤n)(hn:n≤70368744177664) :
  Calls Tryz.prog 124 #[.int .i64 at',.int .i64 k,(.pointer (some ⟨bk,0,none⟩))] w fun e w'=>e=.returned (.int .u64 (numAt b at' k))∧Below w.heap.size w w':=by
 have HC:=Hd (get_any a n c at' k b w h hb hc hk hin hn)
 have h0:=bx_cell hbk
 obtain ⟨N,hN⟩:∃ N,N=numAt b at' k:=⟨_,rfl⟩
 rw [←hN] at HC ⊢
 clear h hb hc hk hin hn hbk hN
 go_enter Tryz.func124,Tryz.ntmps124
 go_wp2_with fail
 refine HC.out.mono ?_
 rintro e w' ⟨rfl,hb⟩
 have HB:=Hd hb
 clear hb
 go_wp2_with fail
 go_ret
 exact ⟨rfl,HB.out⟩
theorem numAt_lt4(b:List UInt8)(i:Nat):numAt b i 4<4294967296:=by
 unfold numAt
 have h:=leNat_lt ((b.drop i).take 4)
 have h2:((b.drop i).take 4).length≤4:=List.length_take_le _ _
 have h3:256 ^ ((b.drop i).take 4).length≤256 ^ 4:=Nat.pow_le_pow_right (by omega) h2
 omega
theorem bcut{w:World}{bk o n c:Nat}{b:List UInt8}(h:Reads w 1 (.slice (some ⟨bk,o,none⟩) n c) n (b.map bv))(hb:b.length=n)(hc:n≤c)(l k:Nat)(hlk:l+k≤n) :
  ∃ a',(∀ W,(Instr.slice 47 (.slice (some ⟨bk,o,none⟩) n c) (some (.int .i64 l)) (some (.int .i64 ((l+k:Nat):Int))) none).run Tryz.prog W=.ok (.slice a' k (c - l)) W)∧Reads w 1 (.slice a' k (c - l)) k (((b.drop l).take k).map bv):=by
 have h1:=fun W=>run_mid8 (some ⟨bk,o,none⟩) n c l (l+k) (by omega) (by omega) W
 rw [show l+k - l=k by omega] at h1
 refine ⟨_,h1,?_⟩
 have hle:=h.le
 refine ⟨by simp [List.length_take,List.length_drop];omega,?_⟩
 by_cases hcl:c=l
 ·rw [if_pos hcl]
  have hk:k=0:=by omega
  subst hk
  exact .inr ⟨_,_,rfl,by unfold maxLen;omega,fun j u hu=>by simp at hu⟩
 ·rw [if_neg hcl]
  refine .inr ⟨(⟨bk,o,none⟩:Addr).add (l * 1),c - l,rfl,by omega,fun j u hu=>?_⟩
  have hj:j<k:=by have:=(List.getElem?_eq_some_iff.1 hu).1;simp [List.length_take] at this;omega
  have h3:((⟨bk,o,none⟩:Addr).add (l * 1)).add j=(⟨bk,o,none⟩:Addr).add (l+j):=by
   unfold Addr.add
   by_cases h4:l=0 <;> by_cases h5:j=0 <;> simp [h4,h5]
   omega
  rw [h3]
  obtain ⟨_,⟨_,h0⟩|⟨a,c',e,_,hcell⟩⟩:=h
  ·omega
  ·obtain ⟨ea,_,_⟩:=sl_inj e
   injection ea with ea
   subst ea
   refine hcell (l+j) u ?_
   rw [←hu,List.getElem?_map,List.getElem?_map,List.getElem?_take,if_pos hj,List.getElem?_drop]
theorem btake{w:World}{bk o n c:Nat}{b:List UInt8}(h:Reads w 1 (.slice (some ⟨bk,o,none⟩) n c) n (b.map bv))(hb:b.length=n)(hc:n≤c)(k:Nat)(hk:k≤n) :
  (∀ W,(Instr.slice 47 (.slice (some ⟨bk,o,none⟩) n c) none (some (.int .i64 k)) none).run Tryz.prog W=.ok (.slice (some ⟨bk,o,none⟩) k c) W)∧Reads w 1 (.slice (some ⟨bk,o,none⟩) k c) k ((b.take k).map bv):=by
 have hs:∀ W,(sizeOf 5).run Tryz.prog W=.ok 1 W:=fun W=>by kernel_rfl
 refine ⟨fun W=>?_,?_⟩
 ·simp [Instr.slice,run_underlying Tryz.underlying47,Instr.sliceBounds,run_sliceBound,hs,Result.andThen,(by omega:(0:Int)≤(k:Int)),(by omega:(k:Int)≤(c:Int))]
  intro _
  exact add_none _
 ·have hle:=h.le
  refine ⟨by simp [List.length_take];omega,?_⟩
  obtain ⟨_,⟨_,h0⟩|⟨a,c',e,_,hcell⟩⟩:=h
  ·have:k=0:=by omega
   subst this
   exact .inr ⟨_,_,rfl,by omega,fun j u hu=>by simp at hu⟩
  ·obtain ⟨ea,_,_⟩:=sl_inj e
   injection ea with ea
   subst ea
   refine .inr ⟨_,_,rfl,by omega,fun j u hu=>hcell j u ?_⟩
   have hj:j<k:=by have:=(List.getElem?_eq_some_iff.1 hu).1;simp [List.length_take] at this;omega
   rw [←hu,List.getElem?_map,List.getElem?_map,List.getElem?_take,if_pos hj]
section
variable {b:List UInt8}
theorem ng_short(h:b.length<32):ndGet b=(3,⟨0,0,false,[]⟩,0):=if_pos h
theorem ng_form(h:¬ b.length<32)(h1:numAt b 0 4≠ndMagic∨1<numAt b 4 4∨numAt b 28 4≠0∨4096<numAt b 20 4∨(numAt b 4 4=1∧0<numAt b 20 4)):ndGet b=(4,⟨0,0,false,[]⟩,0):=by
 unfold ndGet
 rw [if_neg h,if_pos h1]
theorem ng_short2(h:¬ b.length<32)(h1:¬ (numAt b 0 4≠ndMagic∨1<numAt b 4 4∨numAt b 28 4≠0∨4096<numAt b 20 4∨(numAt b 4 4=1∧0<numAt b 20 4)))(h2:b.length<ndSize (numAt b 20 4)):ndGet b=(3,⟨0,0,false,[]⟩,0):=by
 unfold ndGet
 rw [if_neg h,if_neg h1,if_pos h2]
theorem ng_sum(h:¬ b.length<32)(h1:¬ (numAt b 0 4≠ndMagic∨1<numAt b 4 4∨numAt b 28 4≠0∨4096<numAt b 20 4∨(numAt b 4 4=1∧0<numAt b 20 4)))(h2:¬ b.length<ndSize (numAt b 20 4))(h3:numAt b 24 4≠(sumMore (sumOf (b.take 24)) ((b.drop 32).take (numAt b 20 4))).toNat):ndGet b=(5,⟨0,0,false,[]⟩,0):=by
 unfold ndGet
 rw [if_neg h,if_neg h1,if_neg h2,if_pos h3]
theorem ng_zero(h:¬ b.length<32)(h1:¬ (numAt b 0 4≠ndMagic∨1<numAt b 4 4∨numAt b 28 4≠0∨4096<numAt b 20 4∨(numAt b 4 4=1∧0<numAt b 20 4)))(h2:¬ b.length<ndSize (numAt b 20 4))(h3:¬ numAt b 24 4≠(sumMore (sumOf (b.take 24)) ((b.drop 32).take (numAt b 20 4))).toNat)
  (h4:((b.drop (32+numAt b 20 4)).take (padN (numAt b 20 4))).any (fun c=>c != 0)=true):ndGet b=(4,⟨0,0,false,[]⟩,0):=by
 unfold ndGet
 rw [if_neg h,if_neg h1,if_neg h2,if_neg h3,if_pos h4]
theorem ng_ok(h:¬ b.length<32)(h1:¬ (numAt b 0 4≠ndMagic∨1<numAt b 4 4∨numAt b 28 4≠0∨4096<numAt b 20 4∨(numAt b 4 4=1∧0<numAt b 20 4)))(h2:¬ b.length<ndSize (numAt b 20 4))(h3:¬ numAt b 24 4≠(sumMore (sumOf (b.take 24)) ((b.drop 32).take (numAt b 20 4))).toNat)
  (h4:¬ ((b.drop (32+numAt b 20 4)).take (padN (numAt b 20 4))).any (fun c=>c != 0)=true):ndGet b=(0,⟨numAt b 8 8,numAt b 16 4,numAt b 4 4 == 1,(b.drop 32).take (numAt b 20 4)⟩,ndSize (numAt b 20 4)):=by
 unfold ndGet
 rw [if_neg h,if_neg h1,if_neg h2,if_neg h3,if_neg h4]
end
def GotN (w:World) (r:Nat×Nd×Nat) (e:Ending) (w':World):Prop:=
 ∃ vd,e=.returned (.tuple #[.agg #[.int .u64 r.2.1.key,.int .u32 r.2.1.cookie,.bool r.2.1.gone,vd],.int .i64 r.2.2,errV r.1])∧w'.ownsRow w.heap.size 5 1 vd r.2.1.data.length (r.2.1.data.map bv)∧Below w.heap.size w w'
theorem nget_any(a:Option Addr)(n c:Nat)(b:List UInt8)(w:World)(h:Reads w 1 (.slice a n c) n (b.map bv))(hb:b.length=n)(hc:n≤c)(hn:n≤70368744177664) :
  Calls Tryz.prog 81 #[.slice a n c] w (GotN w (ndGet b)):=by
 have HR:=Hd h
 have HL:=Hd hb
 have HNC:=Hd hc
 have HN7:=Hd hn
 clear h hb
 go_enter Tryz.func81,Tryz.ntmps81
 go_upto_region 1 with fail
 obtain ⟨w0,hw0⟩:∃ w0:World,w0=(w.alloc (.cells #[.slice a n c] 47)).alloc (.cells #[.int .u64 0,.int .u32 0,.bool false,.slice none 0 0] 60):=⟨_,rfl⟩
 have HB0:=Hd (show Below w.heap.size w w0 by rw [hw0];exact belo)
 have HBX0:=Hd (show w0.heap[w.heap.size]? = some (.cells #[.slice a n c] 47 (0,0)) by rw [hw0];exact blk_alloc (heap_new w _) _)
 have KN0:=Hd (show w0.heap[w.heap.size+1]? = some (.cells #[.int .u64 0,.int .u32 0,.bool false,.slice none 0 0] 60 (0,0)) by rw [hw0];exact blk_new _ (by simp))
 rw [←hw0]
 clear hw0
 obtain ⟨q0,q1,q2,q3⟩:=ncells KN0.out
 obtain ⟨f0,f1,f2,f3⟩:=nfree KN0.out
 have bx:=bx_cell HBX0.out
 have hz0:=HB0.out.size
 have hlt0:=blk_lt KN0.out
 by_cases h1:n<32
 ·have HE:=Hd (ng_short (b:=b) (by rw [HL.out];exact h1))
  have d1:decide ((n:Int)<32)=true:=by simp;omega
  go_wp2
  obtain ⟨wf,hwf⟩:∃ wf,wf=set4 w0 (w.heap.size+1) (.int .u64 0) (.int .u32 0) (.bool false) (.slice none 0 0):=⟨_,rfl⟩
  have HBF:=Hd (show Below w.heap.size w wf by rw [hwf];exact HB0.out.trans (set4_below (by omega) _ _ _ _))
  have kbf:=store4 (KN0.out) (.int .u64 0) (.int .u32 0) (.bool false) (.slice none 0 0)
  rw [←hwf] at kbf
  obtain ⟨s0,s1,s2,s3⟩:=ncells kbf
  unfold set4 at hwf
  rw [←hwf]
  refine bodyPost_ret (v:=?_) ?_ rfl ?_
  rotate_left;(focus (simp [results,Tryz.results81,go_sem,s0,s1,s2,s3];exact rfl))
  exact ⟨.slice none 0 0,by rw [HE.out];rfl,by rw [HE.out];exact World.ownsRow_nil _ _ _ _,HBF.out⟩
 have d1:decide ((n:Int)<32)=false:=by simp;omega
 have HS:=Hd (show ¬ b.length<32 by rw [HL.out];exact h1)
 obtain ⟨bk,o,c',e,hbk,-,-⟩:=reads_at HR.out (by omega) (by omega)
 obtain ⟨rfl,-,rfl⟩:=sl_inj e
 clear e
 obtain ⟨FL,hFL⟩:∃ FL,FL=numAt b 4 4:=⟨_,rfl⟩
 obtain ⟨SZ,hSZ⟩:∃ SZ,SZ=numAt b 20 4:=⟨_,rfl⟩
 obtain ⟨MG,hMG⟩:∃ MG,MG=numAt b 0 4:=⟨_,rfl⟩
 obtain ⟨ZR,hZR⟩:∃ ZR,ZR=numAt b 28 4:=⟨_,rfl⟩
 obtain ⟨SM,hSM⟩:∃ SM,SM=numAt b 24 4:=⟨_,rfl⟩
 have HFL:=Hd hFL
 have HSZ:=Hd hSZ
 have HMG:=Hd hMG
 have HZR:=Hd hZR
 have HSM:=Hd hSM
 clear hFL hSZ hMG hZR hSM
 have HAT:=Hd (show ∀ w0:World,w0.heap[w.heap.size]? = some (.cells #[.slice (some ⟨bk,o,none⟩) n c] 47 (0,0))→Below w.heap.size w w0→∀ at' k:Nat,(k=4∨k=8)→at'+k≤32→Calls Tryz.prog 124 #[.int .i64 at',.int .i64 k,(.pointer (some ⟨w.heap.size,0,none⟩))] w0 fun e w'=>e=.returned (.int .u64 (numAt b at' k))∧Below w0.heap.size w0 w' from fun w0 h1 h2 at' k h3 h4=>nat1_any w.heap.size (some ⟨bk,o,none⟩) n c at' k b w0 h1 (HR.out.below h2) HL.out HNC.out h3 (by omega) HN7.out)
 have HA4:=Hd (show ∀ w0:World,w0.heap[w.heap.size]? = some (.cells #[.slice (some ⟨bk,o,none⟩) n c] 47 (0,0))→Below w.heap.size w w0→Calls Tryz.prog 124 #[.int .i64 4,.int .i64 4,(.pointer (some ⟨w.heap.size,0,none⟩))] w0 fun e w'=>e=.returned (.int .u64 FL)∧Below w0.heap.size w0 w' from fun w0 h1 h2=>by rw [HFL.out];exact HAT.out w0 h1 h2 4 4 (.inl rfl) (by omega))
 have HA20:=Hd (show ∀ w0:World,w0.heap[w.heap.size]? = some (.cells #[.slice (some ⟨bk,o,none⟩) n c] 47 (0,0))→Below w.heap.size w w0→Calls Tryz.prog 124 #[.int .i64 20,.int .i64 4,(.pointer (some ⟨w.heap.size,0,none⟩))] w0 fun e w'=>e=.returned (.int .u64 SZ)∧Below w0.heap.size w0 w' from fun w0 h1 h2=>by rw [HSZ.out];exact HAT.out w0 h1 h2 20 4 (.inl rfl) (by omega))
 have HA0:=Hd (show ∀ w0:World,w0.heap[w.heap.size]? = some (.cells #[.slice (some ⟨bk,o,none⟩) n c] 47 (0,0))→Below w.heap.size w w0→Calls Tryz.prog 124 #[.int .i64 0,.int .i64 4,(.pointer (some ⟨w.heap.size,0,none⟩))] w0 fun e w'=>e=.returned (.int .u64 MG)∧Below w0.heap.size w0 w' from fun w0 h1 h2=>by rw [HMG.out];exact HAT.out w0 h1 h2 0 4 (.inl rfl) (by omega))
 have HA28:=Hd (show ∀ w0:World,w0.heap[w.heap.size]? = some (.cells #[.slice (some ⟨bk,o,none⟩) n c] 47 (0,0))→Below w.heap.size w w0→Calls Tryz.prog 124 #[.int .i64 28,.int .i64 4,(.pointer (some ⟨w.heap.size,0,none⟩))] w0 fun e w'=>e=.returned (.int .u64 ZR)∧Below w0.heap.size w0 w' from fun w0 h1 h2=>by rw [HZR.out];exact HAT.out w0 h1 h2 28 4 (.inl rfl) (by omega))
 have HA24:=Hd (show ∀ w0:World,w0.heap[w.heap.size]? = some (.cells #[.slice (some ⟨bk,o,none⟩) n c] 47 (0,0))→Below w.heap.size w w0→Calls Tryz.prog 124 #[.int .i64 24,.int .i64 4,(.pointer (some ⟨w.heap.size,0,none⟩))] w0 fun e w'=>e=.returned (.int .u64 SM)∧Below w0.heap.size w0 w' from fun w0 h1 h2=>by rw [HSM.out];exact HAT.out w0 h1 h2 24 4 (.inl rfl) (by omega))
 have HA8:=Hd (show ∀ w0:World,w0.heap[w.heap.size]? = some (.cells #[.slice (some ⟨bk,o,none⟩) n c] 47 (0,0))→Below w.heap.size w w0→Calls Tryz.prog 124 #[.int .i64 8,.int .i64 8,(.pointer (some ⟨w.heap.size,0,none⟩))] w0 fun e w'=>e=.returned (.int .u64 (numAt b 8 8))∧Below w0.heap.size w0 w' from fun w0 h1 h2=>HAT.out w0 h1 h2 8 8 (.inr rfl) (by omega))
 have HA16:=Hd (show ∀ w0:World,w0.heap[w.heap.size]? = some (.cells #[.slice (some ⟨bk,o,none⟩) n c] 47 (0,0))→Below w.heap.size w w0→Calls Tryz.prog 124 #[.int .i64 16,.int .i64 4,(.pointer (some ⟨w.heap.size,0,none⟩))] w0 fun e w'=>e=.returned (.int .u64 (numAt b 16 4))∧Below w0.heap.size w0 w' from fun w0 h1 h2=>HAT.out w0 h1 h2 16 4 (.inl rfl) (by omega))
 have l4:=numAt_lt4 b 4
 have l20:=numAt_lt4 b 20
 rw [←HFL.out] at l4
 rw [←HSZ.out] at l20
 go_wp2_with fail
 refine (HA4.out _ HBX0.out HB0.out).mono ?_
 rintro e w1 ⟨rfl,hb⟩
 have HB1:=Hd (HB0.out.trans (hb.mono HB0.out.size))
 have HBX1:=Hd (blk_below' HBX0.out hb)
 have KN1:=Hd (blk_below' KN0.out hb)
 clear hb q0 q1 q2 q3 f0 f1 f2 f3 bx
 obtain ⟨q0,q1,q2,q3⟩:=ncells KN1.out
 obtain ⟨f0,f1,f2,f3⟩:=nfree KN1.out
 have bx:=bx_cell HBX1.out
 have hz1:=HB1.out.size
 have hlt1:=blk_lt KN1.out
 go_wp2_with fail
 refine (HA20.out _ HBX1.out HB1.out).mono ?_
 rintro e w2 ⟨rfl,hb⟩
 have HB2:=Hd (HB1.out.trans (hb.mono HB1.out.size))
 have HBX2:=Hd (blk_below' HBX1.out hb)
 have KN2:=Hd (blk_below' KN1.out hb)
 clear hb q0 q1 q2 q3 f0 f1 f2 f3 bx
 obtain ⟨q0,q1,q2,q3⟩:=ncells KN2.out
 obtain ⟨f0,f1,f2,f3⟩:=nfree KN2.out
 have bx:=bx_cell HBX2.out
 have hz2:=HB2.out.size
 have hlt2:=blk_lt KN2.out
 go_wp2_with fail
 refine (HA0.out _ HBX2.out HB2.out).mono ?_
 rintro e w3 ⟨rfl,hb⟩
 have HB3:=Hd (HB2.out.trans (hb.mono HB2.out.size))
 have HBX3:=Hd (blk_below' HBX2.out hb)
 have KN3:=Hd (blk_below' KN2.out hb)
 clear hb q0 q1 q2 q3 f0 f1 f2 f3 bx
 obtain ⟨q0,q1,q2,q3⟩:=ncells KN3.out
 obtain ⟨f0,f1,f2,f3⟩:=nfree KN3.out
 have bx:=bx_cell HBX3.out
 have hz3:=HB3.out.size
 have hlt3:=blk_lt KN3.out
 have HDF:=Hd (show (MG≠ndMagic∨1<FL∨ZR≠0∨4096<SZ∨(FL=1∧0<SZ))→ndGet b=(4,⟨0,0,false,[]⟩,0) from fun e=>ng_form HS.out (by rw [←HMG.out,←HFL.out,←HZR.out,←HSZ.out];exact e))
 by_cases hm:MG=ndMagic
 case neg=>
  have HE:=Hd (HDF.out (.inl hm))
  have m0:¬ (MG:Int)=1313162572:=by unfold ndMagic at hm;omega
  have m1:((MG:Int) != 1313162572)=true:=by simpa using m0
  clear hm
  go_wp2
  obtain ⟨wf,hwf⟩:∃ wf,wf=set4 w3 (w.heap.size+1) (.int .u64 0) (.int .u32 0) (.bool false) (.slice none 0 0):=⟨_,rfl⟩
  have HBF:=Hd (show Below w.heap.size w wf by rw [hwf];exact HB3.out.trans (set4_below (by omega) _ _ _ _))
  have kbf:=store4 (KN3.out) (.int .u64 0) (.int .u32 0) (.bool false) (.slice none 0 0)
  rw [←hwf] at kbf
  obtain ⟨s0,s1,s2,s3⟩:=ncells kbf
  unfold set4 at hwf
  rw [←hwf]
  refine bodyPost_ret (v:=?_) ?_ rfl ?_
  rotate_left;(focus (simp [results,Tryz.results81,go_sem,s0,s1,s2,s3];exact rfl))
  exact ⟨.slice none 0 0,by rw [HE.out];rfl,by rw [HE.out];exact World.ownsRow_nil _ _ _ _,HBF.out⟩
 have m1:((MG:Int) != 1313162572)=false:=by rw [hm];rfl
 have HM:=Hd hm
 clear hm
 by_cases h1:1<FL
 ·have HE:=Hd (HDF.out (.inr (.inl h1)))
  have d2:decide (1<(FL:Int))=true:=by simp;omega
  have d3:decide (1<FL)=true:=by simp;omega
  go_wp2
  obtain ⟨wf,hwf⟩:∃ wf,wf=set4 w3 (w.heap.size+1) (.int .u64 0) (.int .u32 0) (.bool false) (.slice none 0 0):=⟨_,rfl⟩
  have HBF:=Hd (show Below w.heap.size w wf by rw [hwf];exact HB3.out.trans (set4_below (by omega) _ _ _ _))
  have kbf:=store4 (KN3.out) (.int .u64 0) (.int .u32 0) (.bool false) (.slice none 0 0)
  rw [←hwf] at kbf
  obtain ⟨s0,s1,s2,s3⟩:=ncells kbf
  unfold set4 at hwf
  rw [←hwf]
  refine bodyPost_ret (v:=?_) ?_ rfl ?_
  rotate_left;(focus (simp [results,Tryz.results81,go_sem,s0,s1,s2,s3];exact rfl))
  exact ⟨.slice none 0 0,by rw [HE.out];rfl,by rw [HE.out];exact World.ownsRow_nil _ _ _ _,HBF.out⟩
 have d2:decide (1<(FL:Int))=false:=by simp;omega
 have d3:decide (1<FL)=false:=by simp;omega
 go_wp2_with fail
 refine (HA28.out _ HBX3.out HB3.out).mono ?_
 rintro e w4 ⟨rfl,hb⟩
 have HB4:=Hd (HB3.out.trans (hb.mono HB3.out.size))
 have HBX4:=Hd (blk_below' HBX3.out hb)
 have KN4:=Hd (blk_below' KN3.out hb)
 clear hb q0 q1 q2 q3 f0 f1 f2 f3 bx
 obtain ⟨q0,q1,q2,q3⟩:=ncells KN4.out
 obtain ⟨f0,f1,f2,f3⟩:=nfree KN4.out
 have bx:=bx_cell HBX4.out
 have hz4:=HB4.out.size
 have hlt4:=blk_lt KN4.out
 by_cases h1:ZR≠0
 ·have HE:=Hd (HDF.out (.inr (.inr (.inl h1))))
  have m2:((ZR:Int) != 0)=true:=by simp;omega
  clear h1
  go_wp2
  obtain ⟨wf,hwf⟩:∃ wf,wf=set4 w4 (w.heap.size+1) (.int .u64 0) (.int .u32 0) (.bool false) (.slice none 0 0):=⟨_,rfl⟩
  have HBF:=Hd (show Below w.heap.size w wf by rw [hwf];exact HB4.out.trans (set4_below (by omega) _ _ _ _))
  have kbf:=store4 (KN4.out) (.int .u64 0) (.int .u32 0) (.bool false) (.slice none 0 0)
  rw [←hwf] at kbf
  obtain ⟨s0,s1,s2,s3⟩:=ncells kbf
  unfold set4 at hwf
  rw [←hwf]
  refine bodyPost_ret (v:=?_) ?_ rfl ?_
  rotate_left;(focus (simp [results,Tryz.results81,go_sem,s0,s1,s2,s3];exact rfl))
  exact ⟨.slice none 0 0,by rw [HE.out];rfl,by rw [HE.out];exact World.ownsRow_nil _ _ _ _,HBF.out⟩
 have m2:((ZR:Int) != 0)=false:=by simp;omega
 have HZ0:=Hd (show ¬ ZR≠0 from h1)
 clear h1
 by_cases h1:4096<SZ
 ·have HE:=Hd (HDF.out (.inr (.inr (.inr (.inl h1)))))
  have d4:decide (4096<(SZ:Int))=true:=by simp;omega
  have d5:decide (4096<SZ)=true:=by simp;omega
  go_wp2
  obtain ⟨wf,hwf⟩:∃ wf,wf=set4 w4 (w.heap.size+1) (.int .u64 0) (.int .u32 0) (.bool false) (.slice none 0 0):=⟨_,rfl⟩
  have HBF:=Hd (show Below w.heap.size w wf by rw [hwf];exact HB4.out.trans (set4_below (by omega) _ _ _ _))
  have kbf:=store4 (KN4.out) (.int .u64 0) (.int .u32 0) (.bool false) (.slice none 0 0)
  rw [←hwf] at kbf
  obtain ⟨s0,s1,s2,s3⟩:=ncells kbf
  unfold set4 at hwf
  rw [←hwf]
  refine bodyPost_ret (v:=?_) ?_ rfl ?_
  rotate_left;(focus (simp [results,Tryz.results81,go_sem,s0,s1,s2,s3];exact rfl))
  exact ⟨.slice none 0 0,by rw [HE.out];rfl,by rw [HE.out];exact World.ownsRow_nil _ _ _ _,HBF.out⟩
 have d4:decide (4096<(SZ:Int))=false:=by simp;omega
 have d5:decide (4096<SZ)=false:=by simp;omega
 by_cases h2:FL=1∧0<SZ
 ·have HE:=Hd (HDF.out (.inr (.inr (.inr (.inr h2)))))
  obtain ⟨h3,h4⟩:=h2
  have d6:decide (0<(SZ:Int))=true:=by simp;omega
  have d7:decide (0<SZ)=true:=by simp;omega
  have d8:((FL:Int) == 1)=true:=by simp;omega
  clear h3
  go_wp2
  obtain ⟨wf,hwf⟩:∃ wf,wf=set4 w4 (w.heap.size+1) (.int .u64 0) (.int .u32 0) (.bool false) (.slice none 0 0):=⟨_,rfl⟩
  have HBF:=Hd (show Below w.heap.size w wf by rw [hwf];exact HB4.out.trans (set4_below (by omega) _ _ _ _))
  have kbf:=store4 (KN4.out) (.int .u64 0) (.int .u32 0) (.bool false) (.slice none 0 0)
  rw [←hwf] at kbf
  obtain ⟨s0,s1,s2,s3⟩:=ncells kbf
  unfold set4 at hwf
  rw [←hwf]
  refine bodyPost_ret (v:=?_) ?_ rfl ?_
  rotate_left;(focus (simp [results,Tryz.results81,go_sem,s0,s1,s2,s3];exact rfl))
  exact ⟨.slice none 0 0,by rw [HE.out];rfl,by rw [HE.out];exact World.ownsRow_nil _ _ _ _,HBF.out⟩
 have HDO:=Hd (show ¬ (numAt b 0 4≠ndMagic∨1<numAt b 4 4∨numAt b 28 4≠0∨4096<numAt b 20 4∨(numAt b 4 4=1∧0<numAt b 20 4)) by
  rw [←HMG.out,←HFL.out,←HZR.out,←HSZ.out]
  have:=HM.out
  have:=HZ0.out
  omega)
 obtain ⟨AL,hAL⟩:∃ AL,AL=ndSize SZ:=⟨_,rfl⟩
 have HAL:=Hd hAL
 have HSI:=Hd (show ∀ w0:World,Calls Tryz.prog 123 #[.int .i64 SZ] w0 fun e w'=>e=.returned (.int .i64 AL)∧w0=w' from fun w0=>by rw [HAL.out];exact nsize_any SZ (by omega) w0)
 obtain ⟨PD,hPD⟩:∃ PD,PD=padN SZ:=⟨_,rfl⟩
 have HPD:=Hd hPD
 have al1:32+SZ≤AL∧AL≤4128:=by rw [hAL];unfold ndSize padN;omega
 have HAP:=Hd (show 32+SZ+PD=AL by rw [hAL,hPD];rfl)
 clear hPD
 clear hAL
 rcases (show (FL=1∧SZ=0)∨FL=0 by omega) with hq|hq
 ·obtain ⟨hfl,hsz⟩:=hq
  have HFQ:=Hd (show (FL == 1)=true by simp;omega)
  have d6:decide (0<(SZ:Int))=false:=by simp;omega
  have d7:decide (0<SZ)=false:=by simp;omega
  have d8:((FL:Int) == 1)=true:=by simp;omega
  clear hfl hsz
  go_wp2_with fail
  refine (HSI.out _).mono ?_
  rintro e wx ⟨rfl,rfl⟩
  by_cases h3:n<AL
  ·have HE:=Hd (ng_short2 HS.out HDO.out (by rw [←HSZ.out,←HAL.out,HL.out];exact h3))
   have e1:decide ((n:Int)<(AL:Int))=true:=by simp;omega
   have e2:decide (n<AL)=true:=by simp;omega
   go_wp2
   obtain ⟨wf,hwf⟩:∃ wf,wf=set4 w4 (w.heap.size+1) (.int .u64 0) (.int .u32 0) (.bool false) (.slice none 0 0):=⟨_,rfl⟩
   have HBF:=Hd (show Below w.heap.size w wf by rw [hwf];exact HB4.out.trans (set4_below (by omega) _ _ _ _))
   have kbf:=store4 (KN4.out) (.int .u64 0) (.int .u32 0) (.bool false) (.slice none 0 0)
   rw [←hwf] at kbf
   obtain ⟨s0,s1,s2,s3⟩:=ncells kbf
   unfold set4 at hwf
   rw [←hwf]
   refine bodyPost_ret (v:=?_) ?_ rfl ?_
   rotate_left;(focus (simp [results,Tryz.results81,go_sem,s0,s1,s2,s3];exact rfl))
   exact ⟨.slice none 0 0,by rw [HE.out];rfl,by rw [HE.out];exact World.ownsRow_nil _ _ _ _,HBF.out⟩
  have e1:decide ((n:Int)<(AL:Int))=false:=by simp;omega
  have e2:decide (n<AL)=false:=by simp;omega
  have HN2:=Hd (show ¬ b.length<ndSize (numAt b 20 4) by rw [←HSZ.out,←HAL.out,HL.out];exact h3)
  obtain ⟨a2,hr2,hrd2⟩:=bcut HR.out HL.out HNC.out 32 SZ (by omega)
  obtain ⟨a3,hr3,hrd3⟩:=bcut HR.out HL.out HNC.out (32+SZ) PD (by have:=HAP.out;omega)
  obtain ⟨hr1,hrd1⟩:=btake HR.out HL.out HNC.out 24 (by omega)
  rw [HAP.out,show ((32+SZ:Nat):Int)=32+(SZ:Int) by omega] at hr3
  rw [show ((32+SZ:Nat):Int)=32+(SZ:Int) by omega] at hr2
  rw [show ((32:Nat):Int)=32 from rfl] at hr2
  rw [show ((24:Nat):Int)=24 from rfl] at hr1
  have HRD1:=Hd hrd1
  have HRD2:=Hd hrd2
  have HRD3:=Hd hrd3
  clear hrd1 hrd2 hrd3
  obtain ⟨S1,hS1⟩:∃ S1,S1=sumOf (b.take 24):=⟨_,rfl⟩
  obtain ⟨S2,hS2⟩:∃ S2,S2=sumMore S1 ((b.drop 32).take SZ):=⟨_,rfl⟩
  have HS1:=Hd hS1
  have HS2:=Hd hS2
  clear hS1 hS2
  have l24:=numAt_lt4 b 24
  rw [←HSM.out] at l24
  have lS2:S2.toNat<4294967296:=S2.toNat_lt
  have lS3:IntKind.u64.wrap (S2.toNat:Int)=(S2.toNat:Int):=by rw [IntKind.wrap_u64];omega
  have hlen24:(b.take 24).length=24:=by rw [List.length_take,HL.out];omega
  have hlen32:((b.drop 32).take SZ).length=SZ:=by rw [List.length_take,List.length_drop,HL.out];omega
  have HOF:=Hd (show ∀ w0:World,Below w.heap.size w w0→Calls Tryz.prog 127 #[.slice (some ⟨bk,o,none⟩) 24 c] w0 fun e w'=>e=.returned (.int .u32 S1.toNat)∧Below w0.heap.size w0 w' from fun w0 h=>by rw [HS1.out];exact of_any _ (b.take 24) w0 (by rw [hlen24];exact HRD1.out.below h))
  have HMO:=Hd (show ∀ w0:World,Below w.heap.size w w0→Calls Tryz.prog 126 #[.int .u32 S1.toNat,.slice a2 SZ (c - 32)] w0 fun e w'=>e=.returned (.int .u32 S2.toNat)∧Below w0.heap.size w0 w' from fun w0 h=>by rw [HS2.out];exact more_any S1 _ ((b.drop 32).take SZ) w0 (by rw [hlen32];exact HRD2.out.below h))
  clear hlen24 hlen32
  have h24:(24:Int)≤(c:Int):=by omega
  go_upto_region 11 with fail
  obtain ⟨SS,HSD⟩:∃ SS:World→Prop,Hid (SS=fun w'=>w'.cell? ⟨w.heap.size,0,none⟩=some (.slice (some ⟨bk,o,none⟩) n c)):=⟨_,Hd rfl⟩
  refine wp_region_order0 SS [2] [(0,0),(2,2),(3,0),(5,0),(1,1),(4,1),(6,1),(7,0),(8,0)] (by kernel_rfl) (by kernel_rfl) rfl (by kernel_rfl) ?_ ?_
  (focus (rw [HSD.out];exact bx));refine stepE0 rfl rfl fun K hK=>?_;go_simp;refine hK _ ?_;clear hK K;refine stepE2 rfl rfl ?_ (fun w1 hS=>?_) fun K hK=>?_;rotate_left;(focus (rw [HSD.out] at hS;have s0:=hS;go_simp;rfl));go_simp;refine hK _ ?_;clear hK K;(iterate 2 refine stepE0 rfl rfl fun K hK=>?_;go_simp;refine hK _ ?_;clear hK K);refine stepE1S rfl rfl fun K hK=>?_
  (go_wp2_with fail;refine (HA24.out w4.drew HBX4.out (Below.drew HB4.out)).mono ?_;rintro e w5 ⟨rfl,hb⟩;have HB5:=Hd ((Below.drew HB4.out).trans (hb.mono HB4.out.size));have HBX5:=Hd (blk_below' (w:=w4.drew) HBX4.out hb);have KN5:=Hd (blk_below' (w:=w4.drew) KN4.out hb);have bx5:=bx_cell HBX5.out;clear hb;have hz5:=HB5.out.size;go_wp2)
  refine ⟨by rw [HSD.out];exact (bx5),?_⟩
  refine stepE1 rfl rfl (by kernel_rfl) fun K hK=>?_
  (go_wp2_with fail;refine (HOF.out _ HB5.out).mono ?_;rintro e w6 ⟨rfl,hb⟩;have HB6:=Hd (HB5.out.trans (hb.mono HB5.out.size));have HBX6:=Hd (blk_below' HBX5.out hb);have KN6:=Hd (blk_below' KN5.out hb);have bx6:=bx_cell HBX6.out;clear hb;have hz6:=HB6.out.size;go_wp2)
  refine stepE1 rfl rfl (by kernel_rfl) fun K hK=>?_
  (go_wp2_with fail;refine (HMO.out _ HB6.out).mono ?_;rintro e w7 ⟨rfl,hb⟩;have HB7:=Hd (HB6.out.trans (hb.mono HB6.out.size));have HBX7:=Hd (blk_below' HBX6.out hb);have KN7:=Hd (blk_below' KN6.out hb);have bx7:=bx_cell HBX7.out;clear hb;have hz7:=HB7.out.size;go_wp2)
  (iterate 2 refine stepE0 rfl rfl fun K hK=>?_;go_simp;refine hK _ ?_;clear hK K)
  try refine stepEnil0 ?_
  clear HSD SS
  obtain ⟨q0,q1,q2,q3⟩:=ncells KN7.out
  obtain ⟨f0,f1,f2,f3⟩:=nfree KN7.out
  have hlt7:=blk_lt KN7.out
  by_cases h3:SM=S2.toNat
  case neg=>
   have HE:=Hd (ng_sum HS.out HDO.out HN2.out (by rw [←HSM.out,←HSZ.out,←HS1.out,←HS2.out];exact h3))
   have e3:((SM:Int) != (S2.toNat:Int))=true:=by simp;omega
   clear h3
   go_wp2
   obtain ⟨wf,hwf⟩:∃ wf,wf=set4 w7 (w.heap.size+1) (.int .u64 0) (.int .u32 0) (.bool false) (.slice none 0 0):=⟨_,rfl⟩
   have HBF:=Hd (show Below w.heap.size w wf by rw [hwf];exact HB7.out.trans (set4_below (by omega) _ _ _ _))
   have kbf:=store4 (KN7.out) (.int .u64 0) (.int .u32 0) (.bool false) (.slice none 0 0)
   rw [←hwf] at kbf
   obtain ⟨s0,s1,s2,s3⟩:=ncells kbf
   unfold set4 at hwf
   rw [←hwf]
   refine bodyPost_ret (v:=?_) ?_ rfl ?_
   rotate_left;(focus (simp [results,Tryz.results81,go_sem,s0,s1,s2,s3];exact rfl))
   exact ⟨.slice none 0 0,by rw [HE.out];rfl,by rw [HE.out];exact World.ownsRow_nil _ _ _ _,HBF.out⟩
  have e3:((SM:Int) != (S2.toNat:Int))=false:=by simp;omega
  have HN3:=Hd (show ¬ numAt b 24 4≠(sumMore (sumOf (b.take 24)) ((b.drop 32).take (numAt b 20 4))).toNat by rw [←HSM.out,←HSZ.out,←HS1.out,←HS2.out];exact fun e=>e h3)
  clear h3
  obtain ⟨zz,hzz⟩:∃ zz,zz=(b.drop (32+SZ)).take PD:=⟨_,rfl⟩
  have hzl:PD=zz.length:=by rw [hzz,List.length_take,List.length_drop,HL.out];have:=HAP.out;omega
  have HZE:=Hd (show ∀ w0:World,Below w.heap.size w w0→Calls Tryz.prog 128 #[.slice a3 PD (c - (32+SZ))] w0 fun e w'=>e=.returned (.bool (!(zz.any fun c=>c != 0)))∧w0=w' from fun w0 h=>zero_any a3 _ zz _ w0 hzl (by rw [hzz];exact HRD3.out.below h))
  obtain ⟨zb,hzb⟩:∃ zb,zb=(zz.any fun c=>c != 0):=⟨_,rfl⟩
  rw [←hzb] at HZE
  have HZB:=Hd (show zb=(((b.drop (32+numAt b 20 4)).take (padN (numAt b 20 4))).any fun c=>c != 0) by rw [hzb,hzz,←HSZ.out,HPD.out])
  clear hzb hzz hzl
  go_wp2_with fail
  refine (HZE.out _ HB7.out).mono ?_
  rintro e wx ⟨rfl,rfl⟩
  cases zb
  case true=>
   have HE:=Hd (ng_zero HS.out HDO.out HN2.out HN3.out HZB.out.symm)
   go_wp2
   obtain ⟨wf,hwf⟩:∃ wf,wf=set4 w7 (w.heap.size+1) (.int .u64 0) (.int .u32 0) (.bool false) (.slice none 0 0):=⟨_,rfl⟩
   have HBF:=Hd (show Below w.heap.size w wf by rw [hwf];exact HB7.out.trans (set4_below (by omega) _ _ _ _))
   have kbf:=store4 (KN7.out) (.int .u64 0) (.int .u32 0) (.bool false) (.slice none 0 0)
   rw [←hwf] at kbf
   obtain ⟨s0,s1,s2,s3⟩:=ncells kbf
   unfold set4 at hwf
   rw [←hwf]
   refine bodyPost_ret (v:=?_) ?_ rfl ?_
   rotate_left;(focus (simp [results,Tryz.results81,go_sem,s0,s1,s2,s3];exact rfl))
   exact ⟨.slice none 0 0,by rw [HE.out];rfl,by rw [HE.out];exact World.ownsRow_nil _ _ _ _,HBF.out⟩
  have HE:=Hd (ng_ok HS.out HDO.out HN2.out HN3.out (by rw [←HZB.out];simp))
  obtain ⟨XK,hXK⟩:∃ XK,XK=numAt b 8 8:=⟨_,rfl⟩
  obtain ⟨XC,hXC⟩:∃ XC,XC=numAt b 16 4:=⟨_,rfl⟩
  have l16:=numAt_lt4 b 16
  rw [←hXC] at HA16 l16
  rw [←hXK] at HA8
  have HXK:=Hd hXK
  have HXC:=Hd hXC
  have hlen32:((b.drop 32).take SZ).length=SZ:=by rw [List.length_take,List.length_drop,HL.out];omega
  have HCL:=Hd (show ∀ w0:World,Below w.heap.size w w0→Calls Tryz.prog 74 #[.slice a2 SZ (c - 32)] w0 (ByteCl w0 (.slice a2 SZ (c - 32)) ((b.drop 32).take SZ)) from fun w0 h=>bclone_any _ _ w0 (by rw [hlen32];exact HRD2.out.below h) (by omega))
  have HLN:=Hd hlen32
  clear hXK hXC hlen32
  go_wp2_with fail
  refine (HA8.out _ HBX7.out HB7.out).mono ?_
  rintro e w8 ⟨rfl,hb⟩
  have HB8:=Hd (HB7.out.trans (hb.mono HB7.out.size))
  have HBX8:=Hd (blk_below' HBX7.out hb)
  have KN8:=Hd (blk_below' KN7.out hb)
  clear hb q0 q1 q2 q3 f0 f1 f2 f3 bx
  obtain ⟨q0,q1,q2,q3⟩:=ncells KN8.out
  obtain ⟨f0,f1,f2,f3⟩:=nfree KN8.out
  have bx:=bx_cell HBX8.out
  have hz8:=HB8.out.size
  have hlt8:=blk_lt KN8.out
  go_wp2_with fail
  refine (HA16.out _ HBX8.out HB8.out).mono ?_
  rintro e w9 ⟨rfl,hb⟩
  have HB9:=Hd (HB8.out.trans (hb.mono HB8.out.size))
  have HBX9:=Hd (blk_below' HBX8.out hb)
  have KN9:=Hd (blk_below' KN8.out hb)
  clear hb q0 q1 q2 q3 f0 f1 f2 f3 bx
  obtain ⟨q0,q1,q2,q3⟩:=ncells KN9.out
  obtain ⟨f0,f1,f2,f3⟩:=nfree KN9.out
  have bx:=bx_cell HBX9.out
  have hz9:=HB9.out.size
  have hlt9:=blk_lt KN9.out
  have lw:IntKind.u32.wrap (XC:Int)=(XC:Int):=by rw [IntKind.wrap_u32];omega
  go_wp2_with fail
  refine (HCL.out _ HB9.out).mono ?_
  rintro e w10 ⟨vd,rfl,ho,-,hb⟩
  rw [HLN.out] at ho
  obtain ⟨ad,cd,rfl,-⟩:=slice_of ho
  have HO:=Hd ho
  have HB10:=Hd (HB9.out.trans (hb.mono HB9.out.size))
  have KN10:=Hd (blk_below' KN9.out hb)
  clear hb ho q0 q1 q2 q3 f0 f1 f2 f3 bx
  obtain ⟨q0,q1,q2,q3⟩:=ncells KN10.out
  obtain ⟨f0,f1,f2,f3⟩:=nfree KN10.out
  have hlt10:=blk_lt KN10.out
  go_wp2
  obtain ⟨wf,hwf⟩:∃ wf,wf=set4 w10 (w.heap.size+1) (.int .u64 XK) (.int .u32 XC) (.bool true) (.slice ad SZ cd):=⟨_,rfl⟩
  have HBF:=Hd (show Below w.heap.size w wf by rw [hwf];exact HB10.out.trans (set4_below (by omega) _ _ _ _))
  have HOF:=Hd (show wf.ownsRow w.heap.size 5 1 (.slice ad SZ cd) SZ (((b.drop 32).take SZ).map bv) by
   rw [hwf]
   exact ownsRow_mono (ownsRow_keeps HO.out (set4_keeps w10 _ _ _ _ _) (fun k hk e=>by have:=HO.out.lt k hk;omega)) (by omega))
  have kbf:=store4 (KN10.out) (.int .u64 XK) (.int .u32 XC) (.bool true) (.slice ad SZ cd)
  rw [←hwf] at kbf
  obtain ⟨s0,s1,s2,s3⟩:=ncells kbf
  unfold set4 at hwf
  rw [←hwf]
  refine bodyPost_ret (v:=?_) ?_ rfl ?_
  rotate_left;(focus (simp [results,Tryz.results81,go_sem,s0,s1,s2,s3];exact rfl))
  rw [←HXK.out,←HXC.out,←HSZ.out,←HFL.out,←HAL.out,HFQ.out] at HE
  refine ⟨.slice ad SZ cd,by rw [HE.out];rfl,?_,HBF.out⟩
  rw [HE.out]
  show wf.ownsRow w.heap.size 5 1 (.slice ad SZ cd) ((b.drop 32).take SZ).length _
  rw [HLN.out]
  exact HOF.out
 ·have hfl:=hq
  have hsz:=hq
  have HFQ:=Hd (show (FL == 1)=false by simp;omega)
  have d8:((FL:Int) == 1)=false:=by simp;omega
  clear hfl hsz
  go_wp2_with fail
  refine (HSI.out _).mono ?_
  rintro e wx ⟨rfl,rfl⟩
  by_cases h3:n<AL
  ·have HE:=Hd (ng_short2 HS.out HDO.out (by rw [←HSZ.out,←HAL.out,HL.out];exact h3))
   have e1:decide ((n:Int)<(AL:Int))=true:=by simp;omega
   have e2:decide (n<AL)=true:=by simp;omega
   go_wp2
   obtain ⟨wf,hwf⟩:∃ wf,wf=set4 w4 (w.heap.size+1) (.int .u64 0) (.int .u32 0) (.bool false) (.slice none 0 0):=⟨_,rfl⟩
   have HBF:=Hd (show Below w.heap.size w wf by rw [hwf];exact HB4.out.trans (set4_below (by omega) _ _ _ _))
   have kbf:=store4 (KN4.out) (.int .u64 0) (.int .u32 0) (.bool false) (.slice none 0 0)
   rw [←hwf] at kbf
   obtain ⟨s0,s1,s2,s3⟩:=ncells kbf
   unfold set4 at hwf
   rw [←hwf]
   refine bodyPost_ret (v:=?_) ?_ rfl ?_
   rotate_left;(focus (simp [results,Tryz.results81,go_sem,s0,s1,s2,s3];exact rfl))
   exact ⟨.slice none 0 0,by rw [HE.out];rfl,by rw [HE.out];exact World.ownsRow_nil _ _ _ _,HBF.out⟩
  have e1:decide ((n:Int)<(AL:Int))=false:=by simp;omega
  have e2:decide (n<AL)=false:=by simp;omega
  have HN2:=Hd (show ¬ b.length<ndSize (numAt b 20 4) by rw [←HSZ.out,←HAL.out,HL.out];exact h3)
  obtain ⟨a2,hr2,hrd2⟩:=bcut HR.out HL.out HNC.out 32 SZ (by omega)
  obtain ⟨a3,hr3,hrd3⟩:=bcut HR.out HL.out HNC.out (32+SZ) PD (by have:=HAP.out;omega)
  obtain ⟨hr1,hrd1⟩:=btake HR.out HL.out HNC.out 24 (by omega)
  rw [HAP.out,show ((32+SZ:Nat):Int)=32+(SZ:Int) by omega] at hr3
  rw [show ((32+SZ:Nat):Int)=32+(SZ:Int) by omega] at hr2
  rw [show ((32:Nat):Int)=32 from rfl] at hr2
  rw [show ((24:Nat):Int)=24 from rfl] at hr1
  have HRD1:=Hd hrd1
  have HRD2:=Hd hrd2
  have HRD3:=Hd hrd3
  clear hrd1 hrd2 hrd3
  obtain ⟨S1,hS1⟩:∃ S1,S1=sumOf (b.take 24):=⟨_,rfl⟩
  obtain ⟨S2,hS2⟩:∃ S2,S2=sumMore S1 ((b.drop 32).take SZ):=⟨_,rfl⟩
  have HS1:=Hd hS1
  have HS2:=Hd hS2
  clear hS1 hS2
  have l24:=numAt_lt4 b 24
  rw [←HSM.out] at l24
  have lS2:S2.toNat<4294967296:=S2.toNat_lt
  have lS3:IntKind.u64.wrap (S2.toNat:Int)=(S2.toNat:Int):=by rw [IntKind.wrap_u64];omega
  have hlen24:(b.take 24).length=24:=by rw [List.length_take,HL.out];omega
  have hlen32:((b.drop 32).take SZ).length=SZ:=by rw [List.length_take,List.length_drop,HL.out];omega
  have HOF:=Hd (show ∀ w0:World,Below w.heap.size w w0→Calls Tryz.prog 127 #[.slice (some ⟨bk,o,none⟩) 24 c] w0 fun e w'=>e=.returned (.int .u32 S1.toNat)∧Below w0.heap.size w0 w' from fun w0 h=>by rw [HS1.out];exact of_any _ (b.take 24) w0 (by rw [hlen24];exact HRD1.out.below h))
  have HMO:=Hd (show ∀ w0:World,Below w.heap.size w w0→Calls Tryz.prog 126 #[.int .u32 S1.toNat,.slice a2 SZ (c - 32)] w0 fun e w'=>e=.returned (.int .u32 S2.toNat)∧Below w0.heap.size w0 w' from fun w0 h=>by rw [HS2.out];exact more_any S1 _ ((b.drop 32).take SZ) w0 (by rw [hlen32];exact HRD2.out.below h))
  clear hlen24 hlen32
  have h24:(24:Int)≤(c:Int):=by omega
  go_upto_region 11 with fail
  obtain ⟨SS,HSD⟩:∃ SS:World→Prop,Hid (SS=fun w'=>w'.cell? ⟨w.heap.size,0,none⟩=some (.slice (some ⟨bk,o,none⟩) n c)):=⟨_,Hd rfl⟩
  refine wp_region_order0 SS [2] [(0,0),(2,2),(3,0),(5,0),(1,1),(4,1),(6,1),(7,0),(8,0)] (by kernel_rfl) (by kernel_rfl) rfl (by kernel_rfl) ?_ ?_
  (focus (rw [HSD.out];exact bx));refine stepE0 rfl rfl fun K hK=>?_;go_simp;refine hK _ ?_;clear hK K;refine stepE2 rfl rfl ?_ (fun w1 hS=>?_) fun K hK=>?_;rotate_left;(focus (rw [HSD.out] at hS;have s0:=hS;go_simp;rfl));go_simp;refine hK _ ?_;clear hK K;(iterate 2 refine stepE0 rfl rfl fun K hK=>?_;go_simp;refine hK _ ?_;clear hK K);refine stepE1S rfl rfl fun K hK=>?_
  (go_wp2_with fail;refine (HA24.out w4.drew HBX4.out (Below.drew HB4.out)).mono ?_;rintro e w5 ⟨rfl,hb⟩;have HB5:=Hd ((Below.drew HB4.out).trans (hb.mono HB4.out.size));have HBX5:=Hd (blk_below' (w:=w4.drew) HBX4.out hb);have KN5:=Hd (blk_below' (w:=w4.drew) KN4.out hb);have bx5:=bx_cell HBX5.out;clear hb;have hz5:=HB5.out.size;go_wp2)
  refine ⟨by rw [HSD.out];exact (bx5),?_⟩
  refine stepE1 rfl rfl (by kernel_rfl) fun K hK=>?_
  (go_wp2_with fail;refine (HOF.out _ HB5.out).mono ?_;rintro e w6 ⟨rfl,hb⟩;have HB6:=Hd (HB5.out.trans (hb.mono HB5.out.size));have HBX6:=Hd (blk_below' HBX5.out hb);have KN6:=Hd (blk_below' KN5.out hb);have bx6:=bx_cell HBX6.out;clear hb;have hz6:=HB6.out.size;go_wp2)
  refine stepE1 rfl rfl (by kernel_rfl) fun K hK=>?_
  (go_wp2_with fail;refine (HMO.out _ HB6.out).mono ?_;rintro e w7 ⟨rfl,hb⟩;have HB7:=Hd (HB6.out.trans (hb.mono HB6.out.size));have HBX7:=Hd (blk_below' HBX6.out hb);have KN7:=Hd (blk_below' KN6.out hb);have bx7:=bx_cell HBX7.out;clear hb;have hz7:=HB7.out.size;go_wp2)
  (iterate 2 refine stepE0 rfl rfl fun K hK=>?_;go_simp;refine hK _ ?_;clear hK K)
  try refine stepEnil0 ?_
  clear HSD SS
  obtain ⟨q0,q1,q2,q3⟩:=ncells KN7.out
  obtain ⟨f0,f1,f2,f3⟩:=nfree KN7.out
  have hlt7:=blk_lt KN7.out
  by_cases h3:SM=S2.toNat
  case neg=>
   have HE:=Hd (ng_sum HS.out HDO.out HN2.out (by rw [←HSM.out,←HSZ.out,←HS1.out,←HS2.out];exact h3))
   have e3:((SM:Int) != (S2.toNat:Int))=true:=by simp;omega
   clear h3
   go_wp2
   obtain ⟨wf,hwf⟩:∃ wf,wf=set4 w7 (w.heap.size+1) (.int .u64 0) (.int .u32 0) (.bool false) (.slice none 0 0):=⟨_,rfl⟩
   have HBF:=Hd (show Below w.heap.size w wf by rw [hwf];exact HB7.out.trans (set4_below (by omega) _ _ _ _))
   have kbf:=store4 (KN7.out) (.int .u64 0) (.int .u32 0) (.bool false) (.slice none 0 0)
   rw [←hwf] at kbf
   obtain ⟨s0,s1,s2,s3⟩:=ncells kbf
   unfold set4 at hwf
   rw [←hwf]
   refine bodyPost_ret (v:=?_) ?_ rfl ?_
   rotate_left;(focus (simp [results,Tryz.results81,go_sem,s0,s1,s2,s3];exact rfl))
   exact ⟨.slice none 0 0,by rw [HE.out];rfl,by rw [HE.out];exact World.ownsRow_nil _ _ _ _,HBF.out⟩
  have e3:((SM:Int) != (S2.toNat:Int))=false:=by simp;omega
  have HN3:=Hd (show ¬ numAt b 24 4≠(sumMore (sumOf (b.take 24)) ((b.drop 32).take (numAt b 20 4))).toNat by rw [←HSM.out,←HSZ.out,←HS1.out,←HS2.out];exact fun e=>e h3)
  clear h3
  obtain ⟨zz,hzz⟩:∃ zz,zz=(b.drop (32+SZ)).take PD:=⟨_,rfl⟩
  have hzl:PD=zz.length:=by rw [hzz,List.length_take,List.length_drop,HL.out];have:=HAP.out;omega
  have HZE:=Hd (show ∀ w0:World,Below w.heap.size w w0→Calls Tryz.prog 128 #[.slice a3 PD (c - (32+SZ))] w0 fun e w'=>e=.returned (.bool (!(zz.any fun c=>c != 0)))∧w0=w' from fun w0 h=>zero_any a3 _ zz _ w0 hzl (by rw [hzz];exact HRD3.out.below h))
  obtain ⟨zb,hzb⟩:∃ zb,zb=(zz.any fun c=>c != 0):=⟨_,rfl⟩
  rw [←hzb] at HZE
  have HZB:=Hd (show zb=(((b.drop (32+numAt b 20 4)).take (padN (numAt b 20 4))).any fun c=>c != 0) by rw [hzb,hzz,←HSZ.out,HPD.out])
  clear hzb hzz hzl
  go_wp2_with fail
  refine (HZE.out _ HB7.out).mono ?_
  rintro e wx ⟨rfl,rfl⟩
  cases zb
  case true=>
   have HE:=Hd (ng_zero HS.out HDO.out HN2.out HN3.out HZB.out.symm)
   go_wp2
   obtain ⟨wf,hwf⟩:∃ wf,wf=set4 w7 (w.heap.size+1) (.int .u64 0) (.int .u32 0) (.bool false) (.slice none 0 0):=⟨_,rfl⟩
   have HBF:=Hd (show Below w.heap.size w wf by rw [hwf];exact HB7.out.trans (set4_below (by omega) _ _ _ _))
   have kbf:=store4 (KN7.out) (.int .u64 0) (.int .u32 0) (.bool false) (.slice none 0 0)
   rw [←hwf] at kbf
   obtain ⟨s0,s1,s2,s3⟩:=ncells kbf
   unfold set4 at hwf
   rw [←hwf]
   refine bodyPost_ret (v:=?_) ?_ rfl ?_
   rotate_left;(focus (simp [results,Tryz.results81,go_sem,s0,s1,s2,s3];exact rfl))
   exact ⟨.slice none 0 0,by rw [HE.out];rfl,by rw [HE.out];exact World.ownsRow_nil _ _ _ _,HBF.out⟩
  have HE:=Hd (ng_ok HS.out HDO.out HN2.out HN3.out (by rw [←HZB.out];simp))
  obtain ⟨XK,hXK⟩:∃ XK,XK=numAt b 8 8:=⟨_,rfl⟩
  obtain ⟨XC,hXC⟩:∃ XC,XC=numAt b 16 4:=⟨_,rfl⟩
  have l16:=numAt_lt4 b 16
  rw [←hXC] at HA16 l16
  rw [←hXK] at HA8
  have HXK:=Hd hXK
  have HXC:=Hd hXC
  have hlen32:((b.drop 32).take SZ).length=SZ:=by rw [List.length_take,List.length_drop,HL.out];omega
  have HCL:=Hd (show ∀ w0:World,Below w.heap.size w w0→Calls Tryz.prog 74 #[.slice a2 SZ (c - 32)] w0 (ByteCl w0 (.slice a2 SZ (c - 32)) ((b.drop 32).take SZ)) from fun w0 h=>bclone_any _ _ w0 (by rw [hlen32];exact HRD2.out.below h) (by omega))
  have HLN:=Hd hlen32
  clear hXK hXC hlen32
  go_wp2_with fail
  refine (HA8.out _ HBX7.out HB7.out).mono ?_
  rintro e w8 ⟨rfl,hb⟩
  have HB8:=Hd (HB7.out.trans (hb.mono HB7.out.size))
  have HBX8:=Hd (blk_below' HBX7.out hb)
  have KN8:=Hd (blk_below' KN7.out hb)
  clear hb q0 q1 q2 q3 f0 f1 f2 f3 bx
  obtain ⟨q0,q1,q2,q3⟩:=ncells KN8.out
  obtain ⟨f0,f1,f2,f3⟩:=nfree KN8.out
  have bx:=bx_cell HBX8.out
  have hz8:=HB8.out.size
  have hlt8:=blk_lt KN8.out
  go_wp2_with fail
  refine (HA16.out _ HBX8.out HB8.out).mono ?_
  rintro e w9 ⟨rfl,hb⟩
  have HB9:=Hd (HB8.out.trans (hb.mono HB8.out.size))
  have HBX9:=Hd (blk_below' HBX8.out hb)
  have KN9:=Hd (blk_below' KN8.out hb)
  clear hb q0 q1 q2 q3 f0 f1 f2 f3 bx
  obtain ⟨q0,q1,q2,q3⟩:=ncells KN9.out
  obtain ⟨f0,f1,f2,f3⟩:=nfree KN9.out
  have bx:=bx_cell HBX9.out
  have hz9:=HB9.out.size
  have hlt9:=blk_lt KN9.out
  have lw:IntKind.u32.wrap (XC:Int)=(XC:Int):=by rw [IntKind.wrap_u32];omega
  go_wp2_with fail
  refine (HCL.out _ HB9.out).mono ?_
  rintro e w10 ⟨vd,rfl,ho,-,hb⟩
  rw [HLN.out] at ho
  obtain ⟨ad,cd,rfl,-⟩:=slice_of ho
  have HO:=Hd ho
  have HB10:=Hd (HB9.out.trans (hb.mono HB9.out.size))
  have KN10:=Hd (blk_below' KN9.out hb)
  clear hb ho q0 q1 q2 q3 f0 f1 f2 f3 bx
  obtain ⟨q0,q1,q2,q3⟩:=ncells KN10.out
  obtain ⟨f0,f1,f2,f3⟩:=nfree KN10.out
  have hlt10:=blk_lt KN10.out
  go_wp2
  obtain ⟨wf,hwf⟩:∃ wf,wf=set4 w10 (w.heap.size+1) (.int .u64 XK) (.int .u32 XC) (.bool false) (.slice ad SZ cd):=⟨_,rfl⟩
  have HBF:=Hd (show Below w.heap.size w wf by rw [hwf];exact HB10.out.trans (set4_below (by omega) _ _ _ _))
  have HOF:=Hd (show wf.ownsRow w.heap.size 5 1 (.slice ad SZ cd) SZ (((b.drop 32).take SZ).map bv) by
   rw [hwf]
   exact ownsRow_mono (ownsRow_keeps HO.out (set4_keeps w10 _ _ _ _ _) (fun k hk e=>by have:=HO.out.lt k hk;omega)) (by omega))
  have kbf:=store4 (KN10.out) (.int .u64 XK) (.int .u32 XC) (.bool false) (.slice ad SZ cd)
  rw [←hwf] at kbf
  obtain ⟨s0,s1,s2,s3⟩:=ncells kbf
  unfold set4 at hwf
  rw [←hwf]
  refine bodyPost_ret (v:=?_) ?_ rfl ?_
  rotate_left;(focus (simp [results,Tryz.results81,go_sem,s0,s1,s2,s3];exact rfl))
  rw [←HXK.out,←HXC.out,←HSZ.out,←HFL.out,←HAL.out,HFQ.out] at HE
  refine ⟨.slice ad SZ cd,by rw [HE.out];rfl,?_,HBF.out⟩
  rw [HE.out]
  show wf.ownsRow w.heap.size 5 1 (.slice ad SZ cd) ((b.drop 32).take SZ).length _
  rw [HLN.out]
  exact HOF.out
structure NdE where
 n:Nd
 a:Option Addr
 c:Nat
def NdE.cs (x:NdE):List Value:=[.int .u64 x.n.key,.int .u32 x.n.cookie,.bool x.n.gone,.slice x.a x.n.data.length x.c]
theorem NdE.cs_len(x:NdE):x.cs.length=4:=rfl
theorem NdE.one(l:List NdE):∀ u∈l.flatMap NdE.cs,u.oneCell'=true:=by
 intro u hu
 obtain ⟨x,_,hx⟩:=List.mem_flatMap.1 hu
 unfold NdE.cs at hx
 simp only [List.mem_cons,List.not_mem_nil,or_false] at hx
 rcases hx with rfl|rfl|rfl|rfl <;> rfl
theorem Reads.keeps{F:Nat→Prop}{w w':World}{a:Option Addr}{n c:Nat}{xs:List Value}(h:Reads w 1 (.slice a n c) n xs)(hk:Keeps F w w')(ha:∀ ad,a=some ad→ad.block<w.heap.size∧¬ F ad.block):Reads w' 1 (.slice a n c) n xs:=by
 by_cases hn:n=0
 ·subst hn
  obtain ⟨h1,h2⟩:=h
  have hx:xs=[]:=List.eq_nil_of_length_eq_zero (by simpa using h1)
  subst hx
  refine ⟨rfl,?_⟩
  rcases h2 with h2|⟨ad,c',e,hm,_⟩
  ·exact .inl h2
  ·exact .inr ⟨ad,c',e,hm,fun j u hu=>by simp at hu⟩
 ·obtain ⟨b,o,c',e,hb,hm,hc⟩:=reads_at h (by omega) (by omega)
  obtain ⟨rfl,-,rfl⟩:=sl_inj e
  refine ⟨h.1,.inr ⟨⟨b,o,none⟩,c,rfl,hm,fun j u hu=>?_⟩⟩
  have e1:(⟨b,o,none⟩:Addr).add j=⟨b,o+j,none⟩:=by
   unfold Addr.add
   by_cases hj:j=0 <;> simp [hj]
  rw [e1,hk.cell hb (ha _ rfl).2]
  exact hc j u hu
def NdIn (w:World) (B:Nat) (x:NdE):Prop:=Reads w 1 (.slice x.a x.n.data.length x.c) x.n.data.length (x.n.data.map bv)∧∀ ad,x.a=some ad→B≤ad.block∧ad.block<w.heap.size
theorem NdIn.keeps{F:Nat→Prop}{w w':World}{B:Nat}{x:NdE}(h:NdIn w B x)(hk:Keeps F w w')(hF:∀ ad,x.a=some ad→¬ F ad.block):NdIn w' B x:=
 ⟨h.1.keeps hk fun ad e=>⟨(h.2 ad e).2,hF ad e⟩,fun ad e=>⟨(h.2 ad e).1,Nat.lt_of_lt_of_le (h.2 ad e).2 hk.size⟩⟩
theorem NdIn.below{w w':World}{B:Nat}{x:NdE}(h:NdIn w B x)(hk:Below w.heap.size w w'):NdIn w' B x:=
 h.keeps (F:=fun _=>False) (Keeps.of_below hk fun _ hk _=>hk) (fun _ _ h=>h)
structure NdRow (T:TypeId) (w:World) (B:Nat) (v:Value) (xs:List NdE):Prop where
 row:w.ownsRow B T 4 v xs.length (xs.flatMap NdE.cs)
 ins:∀ x∈xs,NdIn w B x
 apart:∀ x∈xs,∀ ad,x.a=some ad→v.ownBlock≠some ad.block
theorem NdRow.nil(T:TypeId)(w:World)(B:Nat):NdRow T w B (.slice none 0 0) []:=⟨World.ownsRow_nil _ _ _ _,fun _ h=>absurd h List.not_mem_nil,fun _ h=>absurd h List.not_mem_nil⟩
theorem NdRow.keeps{T:TypeId}{F:Nat→Prop}{w w':World}{B:Nat}{v:Value}{xs:List NdE}(h:NdRow T w B v xs)(hk:Keeps F w w')(hF:∀ k,B≤k→k<w.heap.size→¬ F k):NdRow T w' B v xs:=
 ⟨ownsRow_keeps h.row hk fun k e=>hF k (h.row.lt k e).1 (h.row.lt k e).2,fun x hx=>(h.ins x hx).keeps hk fun ad e=>hF _ ((h.ins x hx).2 ad e).1 ((h.ins x hx).2 ad e).2,h.apart⟩
theorem NdRow.below{T:TypeId}{w w':World}{B:Nat}{v:Value}{xs:List NdE}(h:NdRow T w B v xs)(hk:Below w.heap.size w w'):NdRow T w' B v xs:=
 h.keeps (F:=fun _=>False) (Keeps.of_below hk fun _ hk _=>hk) (fun _ _ _ h=>h)
theorem NdRow.low{T:TypeId}{w:World}{B B':Nat}{v:Value}{xs:List NdE}(h:NdRow T w B v xs)(hb:B'≤B):NdRow T w B' v xs:=
 ⟨ownsRow_mono h.row hb,fun x hx=>⟨(h.ins x hx).1,fun ad e=>⟨Nat.le_trans hb ((h.ins x hx).2 ad e).1,((h.ins x hx).2 ad e).2⟩⟩,h.apart⟩
end Go.Proofs.YtfpjfoajonbndaaGreatDoor
