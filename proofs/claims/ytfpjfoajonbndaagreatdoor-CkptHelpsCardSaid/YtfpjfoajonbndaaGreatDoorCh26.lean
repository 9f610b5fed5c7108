import Derived.Test.YtfpjfoajonbndaaGreatDoorCh21
namespace Go.Proofs.YtfpjfoajonbndaaGreatDoor
set_option maxHeartbeats 8000000
set_option maxRecDepth 100000
open Go.RowKit
set_option maxRecDepth 100000
set_option maxHeartbeats 8000000
open Go.RowKit
def keysFrom (l:List Ps) (key:Nat) (m:Int):List Ps:=if m<1 then [] else (l.drop (ixAt l key)).take m.toNat
theorem keysFrom_eq(l:List Ps)(key:Nat)(m:Int):keysFrom l key m=((l.take l.length).drop (ixAt l key)).take m.toNat:=by
 unfold keysFrom
 rw [List.take_length]
 split
 ·rw [show m.toNat=0 by omega,List.take_zero]
 ·rfl
theorem take_drop_low{l:List Ps}{k X M:Nat}{x:Ps}(_:l[k]? = some x)(hX:k<X):((l.take (k+1)).drop X).take M=((l.take k).drop X).take M:=by
 rw [List.drop_eq_nil_of_le (by rw [List.length_take];omega),List.drop_eq_nil_of_le (by rw [List.length_take];omega)]
theorem take_drop_full{l:List Ps}{k X M:Nat}{x:Ps}(h:l[k]? = some x)(hM:M≤(((l.take k).drop X).take M).length):((l.take (k+1)).drop X).take M=((l.take k).drop X).take M:=by
 have hk:k<l.length:=(List.getElem?_eq_some_iff.1 h).1
 rw [List.length_take,List.length_drop,List.length_take] at hM
 rw [List.drop_take,List.drop_take,List.take_take,List.take_take]
 congr 1
 omega
theorem take_drop_more{l:List Ps}{k X M:Nat}{x:Ps}(h:l[k]? = some x)(hX:X≤k)(hM:(((l.take k).drop X).take M).length<M):((l.take (k+1)).drop X).take M=((l.take k).drop X).take M ++ [x]:=by
 have hk:k<l.length:=(List.getElem?_eq_some_iff.1 h).1
 rw [List.length_take,List.length_drop,List.length_take] at hM
 rw [List.drop_take,List.drop_take,List.take_take,List.take_take,Nat.min_eq_right (by omega),Nat.min_eq_right (by omega),show k+1 - X=k - X+1 by omega,List.take_add_one,List.getElem?_drop,show X+(k - X)=k by omega,h]
 rfl
theorem rdo3(P:Nat→Prop)(v:Rv)(al:Option Addr)(cl:Nat)(ad:Option Addr)(cd:Nat)(xs:List NdE)(m:Int)(x:NdE)(w:World)(h:RvAt w P v al cl ad cd xs)(hs:IxS v.l)(hf:v.l.length≤4096) :
  Calls Tryz.prog 17 #[rvV v al cl ad cd,.agg #[.int .i64 3,.int .i64 m,.int .u64 x.n.key,.int .u32 x.n.cookie,.bool x.n.gone,.slice x.a x.n.data.length x.c]] w (DoTo w P (0,v) none (keysFrom v.l x.n.key m)):=by
 obtain ⟨i0,hi,hzz0,hzz1,hzz2⟩:=info_parts p05info
 have HI:=Hd hi
 have HZ0:=Hd hzz0
 have HZ1:=Hd hzz1
 have HZ2:=Hd hzz2
 have HO:=Hd (fun (w':World) (hb:Below w.heap.size w w')=>h.out' hb)
 have HR:=Hd h.rl
 have HS:=Hd hs
 have hlm:=hf
 rw [keysFrom_eq]
 obtain ⟨⟨key,cookie,gone,data⟩,xa,xc⟩:=x
 obtain ⟨num,most,epoch,size,shut,l,dd⟩:=v
 unfold rvV at HO ⊢
 simp only at HO HR HS hlm ⊢
 obtain ⟨ln,hln⟩:∃ ln,ln=l.length:=⟨_,rfl⟩
 obtain ⟨dn,hdn2⟩:∃ dn,dn=dd.length:=⟨_,rfl⟩
 obtain ⟨xn,hxn⟩:∃ xn,xn=data.length:=⟨_,rfl⟩
 have HLN:=Hd hln
 rw [←hln] at hlm
 rw [←hln,←hdn2] at HO ⊢
 rw [←hln] at HR
 rw [←hxn]
 obtain ⟨X,hX⟩:∃ X,X=ixAt l key:=⟨_,rfl⟩
 have HX:=Hd hX
 rw [←hX]
 obtain ⟨M,hM⟩:∃ M,M=m.toNat:=⟨_,rfl⟩
 have HM:=Hd hM
 rw [←hM]
 clear h hs hf hln hdn2 hxn hX hM hi hzz0 hzz1 hzz2
 go_enter Tryz.func17,Tryz.ntmps17
 go_upto_region 2 with fail
 obtain ⟨w0,hw0⟩:∃ w0:World,w0=((((w.alloc (.cells #[.int .i64 num,.int .i64 most,.int .i64 epoch,.int .i64 size,.bool shut,.slice al ln cl,.slice ad dn cd] 43)).alloc (.cells #[.int .i64 3,.int .i64 m,.int .u64 key,.int .u32 cookie,.bool gone,.slice xa xn xc] 53)).alloc (.cells #[.int .i64 0,.int .i64 0,.int .i64 0,.int .i64 0,.bool false,.slice none 0 0,.slice none 0 0] 43)).alloc (.cells #[.int .u64 0,.int .u32 0,.bool false,.slice none 0 0] 49)).alloc (.cells #[.int .u64 0,.int .u32 0,.bool false,.slice none 0 0] 49):=⟨_,rfl⟩
 have HB0:=Hd (show Below w.heap.size w w0 by rw [hw0];exact belo)
 have KV0:=Hd (show w0.heap[w.heap.size]? = some (.cells #[.int .i64 num,.int .i64 most,.int .i64 epoch,.int .i64 size,.bool shut,.slice al ln cl,.slice ad dn cd] 43 (0,0)) by rw [hw0];exact blk_alloc (blk_alloc (blk_alloc (blk_alloc (heap_new w _) _) _) _) _)
 have KA0:=Hd (show w0.heap[w.heap.size+1]? = some (.cells #[.int .i64 3,.int .i64 m,.int .u64 key,.int .u32 cookie,.bool gone,.slice xa xn xc] 53 (0,0)) by rw [hw0];exact blk_alloc (blk_alloc (blk_alloc (blk_new _ (by simp)) _) _) _)
 have KR0:=Hd (show w0.heap[w.heap.size+2]? = some (.cells #[.int .i64 0,.int .i64 0,.int .i64 0,.int .i64 0,.bool false,.slice none 0 0,.slice none 0 0] 43 (0,0)) by rw [hw0];exact blk_alloc (blk_alloc (blk_new _ (by simp)) _) _)
 have KN0:=Hd (show w0.heap[w.heap.size+3]? = some (.cells #[.int .u64 0,.int .u32 0,.bool false,.slice none 0 0] 49 (0,0)) by rw [hw0];exact blk_alloc (blk_new _ (by simp)) _)
 have KE0:=Hd (show w0.heap[w.heap.size+4]? = some (.cells #[.int .u64 0,.int .u32 0,.bool false,.slice none 0 0] 49 (0,0)) by rw [hw0];exact blk_new _ (by simp))
 rw [←hw0,show w.heap.size+1+1=w.heap.size+2 from rfl,show w.heap.size+2+1=w.heap.size+3 from rfl,show w.heap.size+3+1=w.heap.size+4 from rfl]
 clear hw0
 have hz0:=HB0.out.size
 obtain ⟨v0,v1,v2,v3,v4,v5,v6⟩:=cells7' KV0.out
 obtain ⟨a0,a1,a2,a3,a4,a5⟩:=acells KA0.out
 have hl0:=blk_lt KE0.out
 go_wp2_with fail
 clear v0 v1 v2 v3 v4 v5 v6 a0 a1 a2 a3 a4 a5
 go_loopw [16,17] (fun s i wr=>∃(k:Nat)(aL:Option Addr)(nL cL:Nat)(ys:List Ps),k≤ln∧i=.int .i64 k∧s=.slice aL nL cL∧ys=((l.take k).drop X).take M∧nL=ys.length∧wr.ownsRow w0.heap.size 132 5 (.slice aL nL cL) nL (ys.flatMap psC)∧Below w0.heap.size w0 wr) (fun _ i _=>ln - (intOf i).toNat)
 case atStart=>exact ⟨0,none,0,0,[],Nat.zero_le _,rfl,rfl,by simp,rfl,World.ownsRow_nil _ _ _ _,Below.refl _ _⟩
 case round=>
  obtain ⟨k,aL,nL,cL,ys,hk,rfl,rfl,hys,hnl,hrw,hbr⟩:=hrel
  have HYS:=Hd hys
  have HNL:=Hd hnl
  have HRW:=Hd hrw
  have HBR:=Hd hbr
  have hnk:nL≤k:=by rw [hnl,hys,List.length_take,List.length_drop,List.length_take];omega
  have hzr:=hbr.size
  have KVR:=Hd (blk_below' KV0.out hbr)
  have KAR:=Hd (blk_below' KA0.out hbr)
  have KRR:=Hd (blk_below' KR0.out hbr)
  have KNR:=Hd (blk_below' KN0.out hbr)
  have KER:=Hd (blk_below' KE0.out hbr)
  have HBW:=Hd (HB0.out.trans (hbr.mono hz0))
  clear hys hnl hrw hbr
  by_cases hlt:k<ln
  ·obtain ⟨x,hx⟩:∃ x,l[k]? = some x:=⟨_,List.getElem?_eq_getElem (by rw [←HLN.out];exact hlt)⟩
   obtain ⟨b,o,c',e,hb,r0,r1,r2,r3,r4⟩:=ps_cells (HR.out.below HBW.out) hx (by omega)
   obtain ⟨rfl,-,rfl⟩:=sl_inj e
   have HX2:=Hd hx
   have hj0:(0:Int)≤(k:Int):=by omega
   have hj1:(k:Int)<(ln:Int):=by omega
   clear hx e
   obtain ⟨xk,xo,xl,xc',xg⟩:=x
   simp only at r0 r1 r2 r3 r4
   obtain ⟨v0,v1,v2,v3,v4,v5,v6⟩:=cells7' KVR.out
   obtain ⟨a0,a1,a2,a3,a4,a5⟩:=acells KAR.out
   have hlr:=blk_lt KER.out
   by_cases hlow:k<X
   ·have hxk:xk<key:=ixAt_below (l:=l) (k:=key) (by rw [←HX.out];exact hlow) HX2.out
    have e1:decide ((key:Int)≤(xk:Int))=false:=by simp;omega
    have e2:decide (key≤xk)=false:=by simp;omega
    have HLW:=Hd hlow
    clear hlow hxk
    go_upto_region 20 with fail
    refine wp_region_mask0 (fun w1=>w1=_) [1,5,8,14] [0,1,0,7,15,31,0,64,192,511,1023,2047,4095,2047,10239,32767,65535] (.op 0 0 (.op 1 2 (.op 2 0 (.op 3 0 (.op 4 0 (.op 5 2 (.op 6 0 (.op 7 0 (.op 8 2 (.op 9 0 (.op 10 0 (.op 11 0 (.op 12 0 (.op 13 0 (.op 14 2 (.op 15 0 (.op 16 0 .nil))))))))))))))))) (by kernel_rfl) (by kernel_rfl) rfl (by kernel_rfl) (by kernel_rfl) rfl ?_
    refine stepM0 rfl rfl fun K hK=>?_;go_simp;refine hK _ ?_;clear hK K;refine stepM2 rfl rfl ?_ (fun w1 hS=>?_) fun K hK=>?_;rotate_left;(focus (obtain rfl:w1=_:=hS;go_simp;rfl));go_simp;refine hK _ ?_;clear hK K;(iterate 3 refine stepM0 rfl rfl fun K hK=>?_;go_simp;refine hK _ ?_;clear hK K);refine stepM2 rfl rfl ?_ (fun w1 hS=>?_) fun K hK=>?_;rotate_left;(focus (obtain rfl:w1=_:=hS;go_simp;rfl));go_simp;refine hK _ ?_;clear hK K;(iterate 2 refine stepM0 rfl rfl fun K hK=>?_;go_simp;refine hK _ ?_;clear hK K);refine stepM2 rfl rfl ?_ (fun w1 hS=>?_) fun K hK=>?_;rotate_left;(focus (obtain rfl:w1=_:=hS;go_simp;rfl));go_simp;refine hK _ ?_;clear hK K;(iterate 2 refine stepM0 rfl rfl fun K hK=>?_;go_simp;refine hK _ ?_;clear hK K);(iterate 3 refine stepMy0 rfl rfl fun K hK=>?_;go_simp;refine hK _ ?_;clear hK K);refine stepMy2 rfl rfl fun K hK=>?_;go_simp;refine hK _ ?_;clear hK K;refine stepMy0 rfl rfl fun K hK=>?_;go_simp;refine hK _ ?_;clear hK K;refine stepM0 rfl rfl fun K hK=>?_;go_simp;refine hK _ ?_;clear hK K
    try refine stepMnil0 ?_
    go_wp2_with fail
    go_roundw
    case rel=>exact ⟨k+1,aL,nL,cL,ys,by omega,by go_num,rfl,by rw [HYS.out,take_drop_low HX2.out HLW.out],HNL.out,ownsRow_below HRW.out (Below.drew (Below.refl _ _)),Below.drew HBR.out⟩
    case measure=>simp [intOf];omega
   have hxk:key≤xk:=ixAt_above HS.out (k:=key) (i:=k) (by rw [←HX.out];omega) HX2.out
   have e1:decide ((key:Int)≤(xk:Int))=true:=by simp;omega
   have e2:decide (key≤xk)=true:=by simp;omega
   have HLW:=Hd (show X≤k by omega)
   clear hlow hxk
   by_cases hfull:m≤(nL:Int)
   ·have e3:decide ((nL:Int)<m)=false:=by simp;omega
    have HF:=Hd (show M≤(((l.take k).drop X).take M).length by rw [←HYS.out,←HNL.out,HM.out];omega)
    clear hfull
    go_upto_region 20 with fail
    refine wp_region_mask0 (fun w1=>w1=_) [1,5,8,14] [0,1,0,7,15,31,0,64,192,511,1023,2047,4095,2047,10239,32767,65535] (.op 0 0 (.op 1 2 (.op 2 0 (.op 3 0 (.op 4 0 (.op 5 2 (.op 6 0 (.op 7 0 (.op 8 2 (.op 9 0 (.op 10 0 (.op 11 0 (.op 12 0 (.op 13 0 (.op 14 2 (.op 15 0 (.op 16 0 .nil))))))))))))))))) (by kernel_rfl) (by kernel_rfl) rfl (by kernel_rfl) (by kernel_rfl) rfl ?_
    refine stepM0 rfl rfl fun K hK=>?_;go_simp;refine hK _ ?_;clear hK K;refine stepM2 rfl rfl ?_ (fun w1 hS=>?_) fun K hK=>?_;rotate_left;(focus (obtain rfl:w1=_:=hS;go_simp;rfl));go_simp;refine hK _ ?_;clear hK K;(iterate 3 refine stepM0 rfl rfl fun K hK=>?_;go_simp;refine hK _ ?_;clear hK K);refine stepM2 rfl rfl ?_ (fun w1 hS=>?_) fun K hK=>?_;rotate_left;(focus (obtain rfl:w1=_:=hS;go_simp;rfl));go_simp;refine hK _ ?_;clear hK K;(iterate 2 refine stepM0 rfl rfl fun K hK=>?_;go_simp;refine hK _ ?_;clear hK K);refine stepM2 rfl rfl ?_ (fun w1 hS=>?_) fun K hK=>?_;rotate_left;(focus (obtain rfl:w1=_:=hS;go_simp;rfl));go_simp;refine hK _ ?_;clear hK K;(iterate 5 refine stepM0 rfl rfl fun K hK=>?_;go_simp;refine hK _ ?_;clear hK K);refine stepM2 rfl rfl ?_ (fun w1 hS=>?_) fun K hK=>?_;rotate_left;(focus (obtain rfl:w1=_:=hS;go_simp;rfl));go_simp;refine hK _ ?_;clear hK K;(iterate 2 refine stepM0 rfl rfl fun K hK=>?_;go_simp;refine hK _ ?_;clear hK K)
    try refine stepMnil0 ?_
    go_wp2_with fail
    go_roundw
    case rel=>exact ⟨k+1,aL,nL,cL,ys,by omega,by go_num,rfl,by rw [HYS.out,take_drop_full HX2.out HF.out],HNL.out,ownsRow_below HRW.out (Below.drew (Below.refl _ _)),Below.drew HBR.out⟩
    case measure=>simp [intOf];omega
   have e3:decide ((nL:Int)<m)=true:=by simp;omega
   have HF:=Hd (show (((l.take k).drop X).take M).length<M by rw [←HYS.out,←HNL.out,HM.out];omega)
   clear hfull
   go_upto_region 20 with fail
   refine wp_region_mask0 (fun w1=>w1=_) [1,5,8,14] [0,1,0,7,15,31,0,64,192,511,1023,2047,4095,2047,10239,32767,65535] (.op 0 0 (.op 1 2 (.op 2 0 (.op 3 0 (.op 4 0 (.op 5 2 (.op 6 0 (.op 7 0 (.op 8 2 (.op 9 0 (.op 10 0 (.op 11 0 (.op 12 0 (.op 13 0 (.op 14 2 (.op 15 0 (.op 16 0 .nil))))))))))))))))) (by kernel_rfl) (by kernel_rfl) rfl (by kernel_rfl) (by kernel_rfl) rfl ?_
   refine stepM0 rfl rfl fun K hK=>?_;go_simp;refine hK _ ?_;clear hK K;refine stepM2 rfl rfl ?_ (fun w1 hS=>?_) fun K hK=>?_;rotate_left;(focus (obtain rfl:w1=_:=hS;go_simp;rfl));go_simp;refine hK _ ?_;clear hK K;(iterate 3 refine stepM0 rfl rfl fun K hK=>?_;go_simp;refine hK _ ?_;clear hK K);refine stepM2 rfl rfl ?_ (fun w1 hS=>?_) fun K hK=>?_;rotate_left;(focus (obtain rfl:w1=_:=hS;go_simp;rfl));go_simp;refine hK _ ?_;clear hK K;(iterate 2 refine stepM0 rfl rfl fun K hK=>?_;go_simp;refine hK _ ?_;clear hK K);refine stepM2 rfl rfl ?_ (fun w1 hS=>?_) fun K hK=>?_;rotate_left;(focus (obtain rfl:w1=_:=hS;go_simp;rfl));go_simp;refine hK _ ?_;clear hK K;(iterate 5 refine stepM0 rfl rfl fun K hK=>?_;go_simp;refine hK _ ?_;clear hK K);refine stepM2 rfl rfl ?_ (fun w1 hS=>?_) fun K hK=>?_;rotate_left;(focus (obtain rfl:w1=_:=hS;go_simp;rfl));go_simp;refine hK _ ?_;clear hK K;(iterate 2 refine stepM0 rfl rfl fun K hK=>?_;go_simp;refine hK _ ?_;clear hK K)
   try refine stepMnil0 ?_
   obtain ⟨wd,hwd⟩:∃ wd:World,wd=wr.drew:=⟨_,rfl⟩
   have HBD:=Hd (show Below w0.heap.size w0 wd by rw [hwd];exact Below.drew HBR.out)
   have HRD:=Hd (show wd.ownsRow w0.heap.size 132 5 (.slice aL nL cL) nL (ys.flatMap psC) by rw [hwd];exact ownsRow_below HRW.out (Below.drew (Below.refl _ _)))
   have kvd:=blk_drew KVR.out
   rw [←hwd] at kvd
   have KVD:=Hd kvd
   clear kvd
   have hcr:wd.cell? ⟨b,o+k * 5,none⟩=some (.int .u64 xk)∧wd.cell? ⟨b,o+k * 5+1,none⟩=some (.int .i64 xo)∧wd.cell? ⟨b,o+k * 5+2,none⟩=some (.int .i64 xl)∧wd.cell? ⟨b,o+k * 5+3,none⟩=some (.int .u32 xc')∧wd.cell? ⟨b,o+k * 5+4,none⟩=some (.bool xg):=by rw [hwd];exact ⟨r0,r1,r2,r3,r4⟩
   have hzd:w0.heap.size≤wd.heap.size:=HBD.out.size
   rw [←hwd]
   clear hwd r0 r1 r2 r3 r4 v0 v1 v2 v3 v4 v5 v6 a0 a1 a2 a3 a4 a5
   obtain ⟨r0,r1,r2,r3,r4⟩:=hcr
   obtain ⟨v0,v1,v2,v3,v4,v5,v6⟩:=cells7' KVD.out
   have hlr:=blk_lt KVD.out
   go_wp2_with (at_builtin;refine wpList_append_lies _ rfl _ _ 40 rfl w0.heap.size 132 i0 (.agg #[.int .u64 0,.int .i64 0,.int .i64 0,.int .u32 0,.bool false]) 5 32 Tryz.underlying40 HI.out HZ0.out HZ1.out HZ2.out rfl (by decide) (.slice aL nL cL) nL (ys.flatMap psC) rfl (ownsRow_below HRD.out belo) ⟨wd.heap.size,0,none⟩ 1 1 [.int .u64 xk,.int .i64 xo,.int .i64 xl,.int .u32 xc',.bool xg] rfl rfl (World.news_of_block (cs:=#[.int .u64 xk,.int .i64 xo,.int .i64 xl,.int .u32 xc',.bool xg]) (t:=132) (fr:=(0,0)) (heap_new wd _)) (by simp [Value.oneCell']) (by omega) (by unfold maxLen;omega) (by omega) (by simp;omega) _ rfl ?_;intro g' cap' w6 hown hgrow hat hlt6;have HG6:=Hd hgrow;have HO6:=Hd hown;have hz6:=hgrow.size;simp only [World.size_alloc] at hz6;clear hgrow hown hat)
   go_roundw
   case rel=>
    refine ⟨k+1,some ⟨g',0,none⟩,nL+1,cap',ys ++ [⟨xk,xo,xl,xc',xg⟩],by omega,by go_num,rfl,?_,by simp [HNL.out],?_,?_⟩
    ·rw [HYS.out,take_drop_more HX2.out HLW.out HF.out]
    ·refine ownsRow_cast HO6.out rfl ?_
     rw [List.flatMap_append]
     simp [psC]
    ·exact Below.grown (HBD.out.alloc hzd _) HG6.out (by simp;omega) (fun g e=>(HRD.out.lt g e).1)
   case measure=>simp [intOf];omega
  ·have hj1:¬ (k:Int)<(ln:Int):=by omega
   have hj2:decide ((k:Int)<(ln:Int))=false:=by simp;omega
   have hj3:decide (k<ln)=false:=by simp;omega
   have HYF:=Hd (show ys=((l.take ln).drop X).take M by rw [HYS.out,show k=ln by omega])
   obtain ⟨v0,v1,v2,v3,v4,v5,v6⟩:=cells7' KVR.out
   obtain ⟨r0,r1,r2,r3,r4,r5,r6⟩:=cells7' KRR.out
   obtain ⟨g0,g1,g2,g3,g4,g5,g6⟩:=free7 KRR.out
   obtain ⟨n0,n1,n2,n3⟩:=ncells KNR.out
   obtain ⟨o0,o1,o2,o3⟩:=nfree KNR.out
   obtain ⟨y0,y1,y2,y3⟩:=ncells KER.out
   have hle:=blk_lt KER.out
   have hlr:=blk_lt KRR.out
   have hlk:=blk_lt KNR.out
   go_upto_region 22 with fail
   obtain ⟨SS,HSD⟩:∃ SS:World→Prop,Hid (SS=fun w'=>w'.heap[w.heap.size+4]? = some (.cells #[.int .u64 0,.int .u32 0,.bool false,.slice none 0 0] 49 (0,0))∧w'.heap[w.heap.size]? = some (.cells #[.int .i64 num,.int .i64 most,.int .i64 epoch,.int .i64 size,.bool shut,.slice al ln cl,.slice ad dn cd] 43 (0,0))):=⟨_,Hd rfl⟩
   refine wp_region_order0 SS [0,1] [(0,2),(1,2),(2,0),(3,1),(4,1),(5,0),(6,0)] (by kernel_rfl) (by kernel_rfl) rfl (by kernel_rfl) ?_ ?_
   (focus (rw [HSD.out];exact ⟨KER.out,KVR.out⟩));refine stepE2 rfl rfl ?_ (fun w1 hS=>?_) fun K hK=>?_;rotate_left;(focus (rw [HSD.out] at hS;obtain ⟨hS1,hS2⟩:=hS;obtain ⟨z0,z1,z2,z3⟩:=ncells hS1;obtain ⟨z4,z5,z6,z7,z8,z9,z10⟩:=cells7' hS2;go_simp;rfl));go_simp;refine hK _ ?_;clear hK K;refine stepE2 rfl rfl ?_ (fun w1 hS=>?_) fun K hK=>?_;rotate_left;(focus (rw [HSD.out] at hS;obtain ⟨hS1,hS2⟩:=hS;obtain ⟨z0,z1,z2,z3⟩:=ncells hS1;obtain ⟨z4,z5,z6,z7,z8,z9,z10⟩:=cells7' hS2;go_simp;rfl));go_simp;refine hK _ ?_;clear hK K;refine stepE0 rfl rfl fun K hK=>?_;go_simp;refine hK _ ?_;clear hK K;refine stepE1S rfl rfl fun K hK=>?_;go_wp2
   refine ⟨by rw [HSD.out];exact ((by show _∧_;exact ⟨set7_drew KER.out (by omega),set7_drew KVR.out (by omega)⟩)),?_⟩
   refine stepE1 rfl rfl (by kernel_rfl) fun K hK=>?_;go_wp2;(iterate 2 refine stepE0 rfl rfl fun K hK=>?_;go_simp;refine hK _ ?_;clear hK K)
   try refine stepEnil0 ?_
   clear HSD SS
   go_wp2
   obtain ⟨w3,hw3⟩:∃ w3,w3=set7i wr (w.heap.size+2) (.int .i64 num) (.int .i64 most) (.int .i64 epoch) (.int .i64 size) (.bool shut) (.slice al ln cl) (.slice ad dn cd):=⟨_,rfl⟩
   have hb3:=set7i_below (w:=wr) (B:=w.heap.size) (b:=w.heap.size+2) (by omega) (.int .i64 num) (.int .i64 most) (.int .i64 epoch) (.int .i64 size) (.bool shut) (.slice al ln cl) (.slice ad dn cd)
   have k3:=store7i (KRR.out) (.int .i64 num) (.int .i64 most) (.int .i64 epoch) (.int .i64 size) (.bool shut) (.slice al ln cl) (.slice ad dn cd)
   have hk3:=set7i_keeps wr (w.heap.size+2) (.int .i64 num) (.int .i64 most) (.int .i64 epoch) (.int .i64 size) (.bool shut) (.slice al ln cl) (.slice ad dn cd)
   have n3:w3.heap[w.heap.size+3]? = some (.cells #[.int .u64 0,.int .u32 0,.bool false,.slice none 0 0] 49 (0,0)):=by rw [hw3];exact (hk3.block _ hlk (by omega)).trans KNR.out
   rw [←hw3] at hb3 k3 hk3
   obtain ⟨w4,hw4⟩:∃ w4,w4=set4 w3 (w.heap.size+3) (.int .u64 0) (.int .u32 0) (.bool false) (.slice none 0 0):=⟨_,rfl⟩
   have hb4:=set4_below (w:=w3) (B:=w.heap.size) (b:=w.heap.size+3) (by omega) (.int .u64 0) (.int .u32 0) (.bool false) (.slice none 0 0)
   have k4:=store4 n3 (.int .u64 0) (.int .u32 0) (.bool false) (.slice none 0 0)
   have hk4:=set4_keeps w3 (w.heap.size+3) (.int .u64 0) (.int .u32 0) (.bool false) (.slice none 0 0)
   have k34:w4.heap[w.heap.size+2]? = _:=hw4 ▸ (hk4.block _ (blk_lt k3) (by omega)).trans k3
   rw [←hw4] at hb4 k4 hk4
   have HBX:=Hd ((HBW.out.trans hb3).trans hb4)
   have HRX:=Hd (show w4.drew.ownsRow w0.heap.size 132 5 (.slice aL nL cL) nL (ys.flatMap psC) by
    have h1:=ownsRow_keeps HRW.out hk3 (fun q hq e=>by have:=(HRW.out.lt q hq).1;omega)
    have h2:=ownsRow_keeps h1 hk4 (fun q hq e=>by have:=(HRW.out.lt q hq).1;omega)
    exact ownsRow_below h2 (Below.drew (Below.refl _ _)))
   unfold set7i at hw3
   unfold set4 at hw4
   rw [hw3] at hw4
   rw [←hw4]
   clear hw3 hw4 hb3 hb4
   obtain ⟨s0,s1,s2,s3,s4,s5,s6⟩:=cells7' (blk_drew k34)
   obtain ⟨m0,m1,m2,m3⟩:=ncells (blk_drew k4)
   refine bodyPost_ret (v:=?_) ?_ rfl ?_
   rotate_left;(focus (simp [results,Tryz.results17,go_sem,s0,s1,s2,s3,s4,s5,s6,m0,m1,m2,m3];exact rfl))
   rw [←HYF.out]
   refine ⟨_,_,_,none,rfl,HO.out _ HBX.out.drew,HBX.out.drew,rfl,rfl,(fun x e=>by cases e),?_⟩
   rw [←HNL.out]
   exact reads_of_owns HRX.out
def Rv.gotN (v:Rv) (a:VAct):Option Nd:=if a.kind=2 then (if v.look a.n.key a.n.cookie=0 then lastOf v.d a.n.key else none) else none
def Rv.gotK (v:Rv) (a:VAct):List Ps:=if a.kind=3 then keysFrom v.l a.n.key a.m else []
theorem rdo_any(P:Nat→Prop)(v:Rv)(val:Value)(a:ActE)(w:World)(h:RvIn w P val v)(hx:NdP w P a.x)(hdl:a.x.n.data.length≤1000000000)(hs:IxS v.l)(hz:v.size≤1000000000)(hm:v.most≤1000000000)(hf:v.l.length≤4096)(hdn:v.d.length≤1000000) :
  Calls Tryz.prog 17 #[val,.agg a.cs.toArray] w (DoTo w P (v.act a.act) (v.gotN a.act) (v.gotK a.act)):=by
 obtain ⟨kd,m,x⟩:=a
 obtain ⟨al,cl,ad,cd,xs,rfl,h⟩:=h
 have hcs:ActE.cs ⟨kd,m,x⟩=[.int .i64 kd,.int .i64 m,.int .u64 x.n.key,.int .u32 x.n.cookie,.bool x.n.gone,.slice x.a x.n.data.length x.c]:=rfl
 rw [hcs]
 simp only at hx hdl
 have hact:ActE.act ⟨kd,m,x⟩=⟨kd,m,x.n⟩:=rfl
 rw [hact]
 unfold Rv.act Rv.gotN Rv.gotK
 simp only
 by_cases h0:kd=0
 ·subst h0
  exact rdo0 P v al cl ad cd xs m x w h hx hdl hs hz hm hf hdn
 rw [if_neg h0]
 by_cases h1:kd=1
 ·subst h1
  exact rdo1 P v al cl ad cd xs m x w h hx hdl hs hz hm hf hdn
 rw [if_neg h1]
 by_cases h2:kd=2
 ·subst h2
  exact rdo2 P v al cl ad cd xs m x w h
 rw [if_neg h2,if_neg h2]
 by_cases h3:kd=3
 ·subst h3
  exact rdo3 P v al cl ad cd xs m x w h hs hf
 rw [if_neg h3,if_neg h3]
 by_cases h4:kd=4
 ·subst h4
  exact rdo4 P v al cl ad cd xs m x w h hx hdl hs hz hm hf hdn
 rw [if_neg h4]
 exact rdoE P v al cl ad cd xs kd m x w h0 h1 h2 h3 h4 h hx hdl hs hz hm hf hdn
end Go.Proofs.YtfpjfoajonbndaaGreatDoor
