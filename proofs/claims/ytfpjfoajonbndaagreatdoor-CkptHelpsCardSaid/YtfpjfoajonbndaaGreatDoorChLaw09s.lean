import Derived.Test.YtfpjfoajonbndaaGreatDoorCh26
import Derived.Test.YtfpjfoajonbndaaGreatDoorCh2
import Derived.Test.YtfpjfoajonbndaaGreatDoorRows
import Derived.Test.YtfpjfoajonbndaaGreatDoorCh21
import Derived.Test.YtfpjfoajonbndaaGreatDoorCh16
namespace Go.Proofs.YtfpjfoajonbndaaGreatDoor
set_option maxHeartbeats 8000000
set_option maxRecDepth 100000
open Go.RowKit
set_option maxRecDepth 100000
set_option maxHeartbeats 8000000
open Go.RowKit
theorem to05_any(a:Option Addr)(n c:Nat)(l:List Ps)(w:World)(hn:l.length=n)(h:Reads w 5 (.slice a n c) n (l.flatMap psC))(hf:n≤100000) :
  Calls Tryz.prog 24 #[.slice a n c] w fun e w'=>∃ v',e=.returned v'∧w'.ownsRow w.heap.size 132 5 v' n (l.flatMap psC)∧Below w.heap.size w w':=by
 obtain ⟨i0,hi,hzz0,hzz1,hzz2⟩:=info_parts p05info
 have HI:=Hd hi
 have HZ0:=Hd hzz0
 have HZ1:=Hd hzz1
 have HZ2:=Hd hzz2
 have HN:=Hd hn
 have HR:=Hd h
 clear hn h hi hzz0 hzz1 hzz2
 go_enter Tryz.func24,Tryz.ntmps24
 go_wp2_with fail
 go_loopw [3,4] (fun s i wr=>∃(k:Nat)(aL:Option Addr)(cL:Nat),k≤n∧i=.int .i64 k∧s=.slice aL k cL∧wr.ownsRow w.heap.size 132 5 (.slice aL k cL) k ((l.take k).flatMap psC)∧Below w.heap.size w wr) (fun _ i _=>n - (intOf i).toNat)
 case atStart=>exact ⟨0,none,0,Nat.zero_le _,rfl,rfl,World.ownsRow_nil _ _ _ _,Below.refl _ _⟩
 case round=>
  obtain ⟨k,aL,cL,hk,rfl,rfl,hrw,hbr⟩:=hrel
  have HRW:=Hd hrw
  have HBR:=Hd hbr
  have hzr:=hbr.size
  clear hrw hbr
  by_cases hlt:k<n
  ·obtain ⟨x,hx⟩:∃ x,l[k]? = some x:=⟨_,List.getElem?_eq_getElem (by rw [HN.out];exact hlt)⟩
   obtain ⟨b,o,c',e,hb,r0,r1,r2,r3,r4⟩:=ps_cells (HR.out.below HBR.out) hx (by omega)
   obtain ⟨rfl,-,rfl⟩:=sl_inj e
   have HX:=Hd hx
   have hj0:(0:Int)≤(k:Int):=by omega
   have hj1:(k:Int)<(n:Int):=by omega
   clear hx e
   obtain ⟨xk,xo,xl,xc,xg⟩:=x
   simp only at r0 r1 r2 r3 r4
   go_wp2_with (at_builtin;refine wpList_append_lies _ rfl _ _ 40 rfl w.heap.size 132 i0 (.agg #[.int .u64 0,.int .i64 0,.int .i64 0,.int .u32 0,.bool false]) 5 32 Tryz.underlying40 HI.out HZ0.out HZ1.out HZ2.out rfl (by decide) (.slice aL k cL) k ((l.take k).flatMap psC) rfl (ownsRow_below HRW.out belo) ⟨wr.heap.size,0,none⟩ 1 1 [.int .u64 xk,.int .i64 xo,.int .i64 xl,.int .u32 xc,.bool xg] rfl rfl (World.news_of_block (cs:=#[.int .u64 xk,.int .i64 xo,.int .i64 xl,.int .u32 xc,.bool xg]) (t:=132) (fr:=(0,0)) (heap_new wr _)) (by simp [Value.oneCell']) (by omega) (by unfold maxLen;omega) (by omega) (by simp;omega) _ rfl ?_;intro g' cap' w6 hown hgrow hat hlt6;have HG6:=Hd hgrow;have HO6:=Hd hown;have hz6:=hgrow.size;simp only [World.size_alloc] at hz6;clear hgrow hown hat)
   go_roundw
   case rel=>
    refine ⟨k+1,some ⟨g',0,none⟩,cap',by omega,by go_num,rfl,?_,?_⟩
    ·refine ownsRow_cast HO6.out rfl ?_
     rw [List.take_add_one,HX.out,List.flatMap_append]
     simp [psC]
    ·exact Below.grown (HBR.out.alloc hzr _) HG6.out (by simp;omega) (fun g e=>(HRW.out.lt g e).1)
   case measure=>simp [intOf];omega
  ·have hj1:¬ (k:Int)<(n:Int):=by omega
   have hj2:decide ((k:Int)<(n:Int))=false:=by simp;omega
   have hj3:decide (k<n)=false:=by simp;omega
   have HKN:=Hd (show k=n by omega)
   go_wp2_with fail
   go_ret
   refine ⟨_,rfl,?_,HBR.out⟩
   have h1:=HRW.out
   rw [List.take_of_length_le (by rw [HN.out,HKN.out];exact Nat.le_refl _)] at h1
   rw [←HKN.out]
   exact h1
theorem same05_any(a:Option Addr)(n c:Nat)(a2:Option Addr)(c2:Nat)(l:List Ps)(w:World)(hn:l.length=n)(h:Reads w 5 (.slice a n c) n (l.flatMap psC))(h2:Reads w 5 (.slice a2 n c2) n (l.flatMap psC)) :
  Calls Tryz.prog 23 #[.slice a n c,.slice a2 n c2] w fun e w'=>e=.returned (.bool true)∧Below w.heap.size w w':=by
 have HN:=Hd hn
 have HR:=Hd h
 have HR2:=Hd h2
 have hle:=h.le
 unfold maxLen at hle
 clear hn h h2
 go_enter Tryz.func23,Tryz.ntmps23
 go_wp2_with fail
 go_loopw [5] (fun i wr=>∃ k:Nat,k≤n∧i=.int .i64 k∧Below w.heap.size w wr) (fun i _=>n - (intOf i).toNat)
 case atStart=>exact ⟨0,Nat.zero_le _,rfl,Below.refl _ _⟩
 case round=>
  obtain ⟨k,hk,rfl,hbr⟩:=hrel
  have HBR:=Hd hbr
  have hzr:=hbr.size
  clear hbr
  by_cases hlt:k<n
  ·obtain ⟨x,hx⟩:∃ x,l[k]? = some x:=⟨_,List.getElem?_eq_getElem (by rw [HN.out];exact hlt)⟩
   obtain ⟨b,o,c',e,hb,r0,r1,r2,r3,r4⟩:=ps_cells (HR.out.below HBR.out) hx (by omega)
   obtain ⟨b2,o2,c2',e2,hb2,q0,q1,q2,q3,q4⟩:=ps_cells (HR2.out.below HBR.out) hx (by omega)
   obtain ⟨rfl,-,rfl⟩:=sl_inj e
   obtain ⟨rfl,-,rfl⟩:=sl_inj e2
   have hj0:(0:Int)≤(k:Int):=by omega
   have hj1:(k:Int)<(n:Int):=by omega
   clear hx e e2
   obtain ⟨xk,xo,xl,xc,xg⟩:=x
   simp only at r0 r1 r2 r3 r4 q0 q1 q2 q3 q4
   go_upto_region 6 with fail
   refine wp_region_mask0 (fun w1=>w1=_) [3,7] [0,0,3,7,0,0,48,112,255] (.op 0 0 (.op 1 0 (.op 2 0 (.op 3 2 (.op 4 0 (.op 5 0 (.op 6 0 (.op 7 2 (.op 8 0 .nil))))))))) (by kernel_rfl) (by kernel_rfl) rfl (by kernel_rfl) (by kernel_rfl) rfl ?_
   (iterate 3 refine stepM0 rfl rfl fun K hK=>?_;go_simp;refine hK _ ?_;clear hK K);refine stepM2 rfl rfl ?_ (fun w1 hS=>?_) fun K hK=>?_;rotate_left;(focus (obtain rfl:w1=_:=hS;go_simp;rfl));go_simp;refine hK _ ?_;clear hK K;(iterate 3 refine stepM0 rfl rfl fun K hK=>?_;go_simp;refine hK _ ?_;clear hK K);refine stepM2 rfl rfl ?_ (fun w1 hS=>?_) fun K hK=>?_;rotate_left;(focus (obtain rfl:w1=_:=hS;go_simp;rfl));go_simp;refine hK _ ?_;clear hK K;refine stepM0 rfl rfl fun K hK=>?_;go_simp;refine hK _ ?_;clear hK K
   try refine stepMnil0 ?_
   go_wp2_with fail
   go_roundw
   case rel=>exact ⟨k+1,by omega,by go_num,Below.drew HBR.out⟩
   case measure=>simp [intOf];omega
  ·have hj1:¬ (k:Int)<(n:Int):=by omega
   have hj2:decide ((k:Int)<(n:Int))=false:=by simp;omega
   have hj3:decide (k<n)=false:=by simp;omega
   go_wp2_with fail
   go_ret
   exact ⟨rfl,HBR.out⟩
theorem goneN_take{l:List Ps}{k:Nat}{x:Ps}(h:l[k]? = some x):goneN (l.take (k+1))=goneN (l.take k)+(if x.gone=true then 1 else 0):=by
 unfold goneN
 rw [List.take_add_one,h,List.countP_append]
 cases hg:x.gone <;> simp [hg]
theorem same09_any{w:World}{vp dp ix:Nat}{vx:Value}{v:Vl}{ns:List Nd}(h:VolAt w vp dp ix vx v)(al:Option Addr)(cl:Nat)(ad:Option Addr)(cd:Nat)(hr:Reads w 5 (.slice al v.idx.length cl) v.idx.length (v.idx.flatMap psC))(hf:v.idx.length≤4096) :
  Calls Tryz.prog 25 #[(.pointer (some ⟨vp,0,none⟩)),rvV (Rv.of v ns) al cl ad cd] w fun e w'=>e=.returned (.bool true)∧Below w.heap.size w w':=by
 have HIF:=Hd (fun (w0:World) (hb:Below w.heap.size w w0)=>show Calls Tryz.prog 66 #[(.pointer (some ⟨vp,0,none⟩))] w0 fun e w'=>e=.returned (infoV v)∧Below w0.heap.size w0 w' from info_any (h.below hb))
 unfold infoV at HIF
 have hk0:v.keys 0 5000=v.idx:=keys_zero v (by omega) (by show v.idx.length≤5000;omega)
 have HKY:=Hd (fun (w0:World) (hb:Below w.heap.size w w0)=>keys_any (h.below hb) 0 5000)
 rw [hk0] at HKY
 have HR:=Hd hr
 have hlt:=h.lt
 have HTO:=Hd (fun (a:Option Addr) (c:Nat) (w0:World) (h:Reads w0 5 (.slice a v.idx.length c) v.idx.length (v.idx.flatMap psC))=>to05_any a v.idx.length c v.idx w0 rfl h (by omega))
 have HSM:=Hd (fun (a:Option Addr) (c:Nat) (a2:Option Addr) (c2:Nat) (w0:World) (h:Reads w0 5 (.slice a v.idx.length c) v.idx.length (v.idx.flatMap psC)) (h2:Reads w0 5 (.slice a2 v.idx.length c2) v.idx.length (v.idx.flatMap psC))=>same05_any a v.idx.length c a2 c2 v.idx w0 rfl h h2)
 unfold rvV
 obtain ⟨num,gen,epoch,shut,most,size,idx⟩:=v
 simp only at HIF HKY HR HTO HSM hf ⊢
 show Calls Tryz.prog 25 #[(.pointer (some ⟨vp,0,none⟩)),.agg #[.int .i64 num,.int .i64 most,.int .i64 epoch,.int .i64 size,.bool shut,.slice al idx.length cl,.slice ad ns.length cd]] w _
 obtain ⟨il,hil⟩:∃ il,il=idx.length:=⟨_,rfl⟩
 obtain ⟨nn,hnn⟩:∃ nn,nn=ns.length:=⟨_,rfl⟩
 have HIL:=Hd hil
 rw [←hil] at HIF HKY HR HTO HSM hf ⊢
 rw [←hnn]
 obtain ⟨gn,hgn⟩:∃ gn,gn=goneN idx:=⟨_,rfl⟩
 have hgl:gn≤il:=by rw [hgn,hil];exact List.countP_le_length
 have HGN:=Hd hgn
 rw [←hgn] at HIF
 clear h hr hk0 hil hnn hgn
 go_enter Tryz.func25,Tryz.ntmps25
 go_upto_region 1 with fail
 obtain ⟨w0,hw0⟩:∃ w0:World,w0=w.alloc (.cells #[.int .i64 num,.int .i64 most,.int .i64 epoch,.int .i64 size,.bool shut,.slice al il cl,.slice ad nn cd] 43):=⟨_,rfl⟩
 have HB0:=Hd (show Below w.heap.size w w0 by rw [hw0];exact belo)
 have KV0:=Hd (show w0.heap[w.heap.size]? = some (.cells #[.int .i64 num,.int .i64 most,.int .i64 epoch,.int .i64 size,.bool shut,.slice al il cl,.slice ad nn cd] 43 (0,0)) by rw [hw0];exact heap_new w _)
 rw [←hw0]
 clear hw0
 go_wp2_with fail
 refine (HIF.out w0 HB0.out).mono ?_
 rintro e w1 ⟨rfl,hb⟩
 have KV1:=Hd (blk_below' KV0.out hb)
 have HB1:=Hd (HB0.out.trans (hb.mono HB0.out.size))
 have hz1:=HB1.out.size
 clear hb
 go_upto_region 2 with fail
 obtain ⟨w2,hw2⟩:∃ w2:World,w2=w1.alloc (.cells #[.int .i64 num,.int .i64 gen,.int .i64 epoch,.int .i64 size,.int .i64 ((il - gn:Nat):Int),.int .i64 gn,.bool shut] 154):=⟨_,rfl⟩
 have hb2:Below w1.heap.size w1 w2:=by rw [hw2];exact belo
 have KI2:=Hd (show w2.heap[w1.heap.size]? = some (.cells #[.int .i64 num,.int .i64 gen,.int .i64 epoch,.int .i64 size,.int .i64 ((il - gn:Nat):Int),.int .i64 gn,.bool shut] 154 (0,0)) by rw [hw2];exact heap_new w1 _)
 have KV2:=Hd (blk_below' KV1.out hb2)
 have HB2:=Hd (HB1.out.trans (hb2.mono hz1))
 rw [←hw2]
 clear hw2 hb2
 obtain ⟨IB,hIB⟩:∃ IB,IB=w1.heap.size:=⟨_,rfl⟩
 rw [←hIB] at KI2 ⊢
 clear hIB
 go_wp2_with fail
 go_loopw [6,7] (fun g i wr=>∃ k gk:Nat,k≤il∧i=.int .i64 k∧g=.int .i64 gk∧gk=goneN (idx.take k)∧gk≤k∧Below w2.heap.size w2 wr) (fun _ i _=>il - (intOf i).toNat)
 case atStart=>exact ⟨0,0,Nat.zero_le _,rfl,rfl,rfl,Nat.le_refl _,Below.refl _ _⟩
 case round=>
  obtain ⟨k,gk,hk,rfl,rfl,hgk,hgkk,hbr⟩:=hrel
  have HGK:=Hd hgk
  have HBR:=Hd hbr
  have KIR:=Hd (blk_below' KI2.out hbr)
  have KVR:=Hd (blk_below' KV2.out hbr)
  have HBW:=Hd (HB2.out.trans (hbr.mono HB2.out.size))
  have hzr:=hbr.size
  clear hgk hbr
  obtain ⟨v0,v1,v2,v3,v4,v5,v6⟩:=cells7' KVR.out
  obtain ⟨i0,i1,i2,i3,i4,i5,i6⟩:=cells7' KIR.out
  have hlv:=blk_lt KVR.out
  have hli:=blk_lt KIR.out
  by_cases hlt:k<il
  ·obtain ⟨x,hx⟩:∃ x,idx[k]? = some x:=⟨_,List.getElem?_eq_getElem (by rw [←HIL.out];exact hlt)⟩
   obtain ⟨b,o,c',e,hb,r0,r1,r2,r3,r4⟩:=ps_cells (HR.out.below HBW.out) hx (by omega)
   obtain ⟨rfl,-,rfl⟩:=sl_inj e
   have HX:=Hd hx
   have hj0:(0:Int)≤(k:Int):=by omega
   have hj1:(k:Int)<(il:Int):=by omega
   clear hx e r0 r1 r2 r3
   obtain ⟨xk,xo,xl,xc,xg⟩:=x
   simp only at r4
   cases xg with
   | true=>
    have HG2:=Hd (show gk+1=goneN (idx.take (k+1)) by rw [goneN_take HX.out,HGK.out];rfl)
    go_wp2_with fail
    go_roundw
    case rel=>exact ⟨k+1,gk+1,by omega,by go_num,by go_num,HG2.out,by omega,HBR.out⟩
    case measure=>simp [intOf];omega
   | false=>
    have HG2:=Hd (show gk=goneN (idx.take (k+1)) by rw [goneN_take HX.out,HGK.out];rfl)
    go_wp2_with fail
    go_roundw
    case rel=>exact ⟨k+1,gk,by omega,by go_num,rfl,HG2.out,by omega,HBR.out⟩
    case measure=>simp [intOf];omega
  ·have hj1:¬ (k:Int)<(il:Int):=by omega
   have hj2:decide ((k:Int)<(il:Int))=false:=by simp;omega
   have hj3:decide (k<il)=false:=by simp;omega
   have hge:gk=gn:=by
    rw [HGK.out,HGN.out,List.take_of_length_le (by rw [←HIL.out];omega)]
   subst hge
   have esub:((il - gk:Nat):Int)=(il:Int) - (gk:Int):=by omega
   have HES:=Hd esub
   clear HGN esub
   go_upto_region 8 with fail
   have hwp:IntKind.i64.wrap ((il:Int) - (gk:Int))=(il:Int) - (gk:Int):=by rw [IntKind.wrap_i64];omega
   clear v0 v1 v2 v3 v4 v5 v6 i0 i1 i2 i3 i4 i5 i6
   obtain ⟨SS,HSD⟩:∃ SS:World→Prop,Hid (SS=fun w'=>Below wr.heap.size wr w'):=⟨_,Hd rfl⟩
   refine wp_region_mask0 SS [1,3,7,9,14,16,21,23,28,34,36,47] [0,1,0,4,15,31,63,127,63,319,1023,2047,4095,8191,16383,8191,40959,131071,262143,524287,1048575,2097151,1048575,5242879,16777215,33554431,67108863,134217727,268435455,134217727,1073741823,2147483647,4294967295,8589934591,17179869183,8589934591,42949672959,111669149695,8589934591,523986010111,1099511627775,2199023255551,4398046511103,8796093022207,17592186044415,35184372088831,8796093022207,79164837199871,281474976710655,562949953421311,1125899906842623] (.op 0 0 (.op 1 2 (.op 2 0 (.op 3 2 (.op 4 0 (.op 5 0 (.op 6 0 (.op 7 2 (.op 8 0 (.op 9 2 (.op 10 0 (.op 11 0 (.op 12 0 (.op 13 0 (.op 14 2 (.op 15 0 (.op 16 2 (.op 17 0 (.op 18 0 (.op 19 0 (.op 20 0 (.op 21 2 (.op 22 0 (.op 23 2 (.op 24 0 (.op 25 0 (.op 26 0 (.op 27 0 (.op 28 2 (.op 29 0 (.op 30 0 (.op 31 0 (.op 32 0 (.op 33 0 (.op 34 2 (.op 35 0 (.op 36 2 (.op 37 0 (.op 38 0 (.op 39 0 (.op 40 0 (.op 41 0 (.op 42 0 (.op 43 0 (.op 46 0 (.op 47 2 (.op 44 1 (.op 45 1 (.op 48 1 (.op 49 0 (.op 50 0 .nil))))))))))))))))))))))))))))))))))))))))))))))))))) (by kernel_rfl) (by kernel_rfl) rfl (by kernel_rfl) (by kernel_rfl) ?_ ?_
   (focus (rw [HSD.out];exact Below.drew (Below.refl _ _)));refine stepM0 rfl rfl fun K hK=>?_;go_simp;refine hK _ ?_;clear hK K;refine stepM2 rfl rfl ?_ (fun w1 hS=>?_) fun K hK=>?_;rotate_left;(focus (rw [HSD.out] at hS;obtain ⟨v0,v1,v2,v3,v4,v5,v6⟩:=cells7' (blk_below' KVR.out hS);obtain ⟨i0,i1,i2,i3,i4,i5,i6⟩:=cells7' (blk_below' KIR.out hS);rw [HES.out] at i4;go_simp;rfl));go_simp;refine hK _ ?_;clear hK K;refine stepM0 rfl rfl fun K hK=>?_;go_simp;refine hK _ ?_;clear hK K;refine stepM2 rfl rfl ?_ (fun w1 hS=>?_) fun K hK=>?_;rotate_left;(focus (rw [HSD.out] at hS;obtain ⟨v0,v1,v2,v3,v4,v5,v6⟩:=cells7' (blk_below' KVR.out hS);obtain ⟨i0,i1,i2,i3,i4,i5,i6⟩:=cells7' (blk_below' KIR.out hS);rw [HES.out] at i4;go_simp;rfl));go_simp;refine hK _ ?_;clear hK K;(iterate 3 refine stepM0 rfl rfl fun K hK=>?_;go_simp;refine hK _ ?_;clear hK K);refine stepM2 rfl rfl ?_ (fun w1 hS=>?_) fun K hK=>?_;rotate_left;(focus (rw [HSD.out] at hS;obtain ⟨v0,v1,v2,v3,v4,v5,v6⟩:=cells7' (blk_below' KVR.out hS);obtain ⟨i0,i1,i2,i3,i4,i5,i6⟩:=cells7' (blk_below' KIR.out hS);rw [HES.out] at i4;go_simp;rfl));go_simp;refine hK _ ?_;clear hK K;refine stepM0 rfl rfl fun K hK=>?_;go_simp;refine hK _ ?_;clear hK K;refine stepM2 rfl rfl ?_ (fun w1 hS=>?_) fun K hK=>?_;rotate_left;(focus (rw [HSD.out] at hS;obtain ⟨v0,v1,v2,v3,v4,v5,v6⟩:=cells7' (blk_below' KVR.out hS);obtain ⟨i0,i1,i2,i3,i4,i5,i6⟩:=cells7' (blk_below' KIR.out hS);rw [HES.out] at i4;go_simp;rfl));go_simp;refine hK _ ?_;clear hK K;(iterate 4 refine stepM0 rfl rfl fun K hK=>?_;go_simp;refine hK _ ?_;clear hK K);refine stepM2 rfl rfl ?_ (fun w1 hS=>?_) fun K hK=>?_;rotate_left;(focus (rw [HSD.out] at hS;obtain ⟨v0,v1,v2,v3,v4,v5,v6⟩:=cells7' (blk_below' KVR.out hS);obtain ⟨i0,i1,i2,i3,i4,i5,i6⟩:=cells7' (blk_below' KIR.out hS);rw [HES.out] at i4;go_simp;rfl));go_simp;refine hK _ ?_;clear hK K;refine stepM0 rfl rfl fun K hK=>?_;go_simp;refine hK _ ?_;clear hK K;refine stepM2 rfl rfl ?_ (fun w1 hS=>?_) fun K hK=>?_;rotate_left;(focus (rw [HSD.out] at hS;obtain ⟨v0,v1,v2,v3,v4,v5,v6⟩:=cells7' (blk_below' KVR.out hS);obtain ⟨i0,i1,i2,i3,i4,i5,i6⟩:=cells7' (blk_below' KIR.out hS);rw [HES.out] at i4;go_simp;rfl));go_simp;refine hK _ ?_;clear hK K;(iterate 4 refine stepM0 rfl rfl fun K hK=>?_;go_simp;refine hK _ ?_;clear hK K);refine stepM2 rfl rfl ?_ (fun w1 hS=>?_) fun K hK=>?_;rotate_left;(focus (rw [HSD.out] at hS;obtain ⟨v0,v1,v2,v3,v4,v5,v6⟩:=cells7' (blk_below' KVR.out hS);obtain ⟨i0,i1,i2,i3,i4,i5,i6⟩:=cells7' (blk_below' KIR.out hS);rw [HES.out] at i4;go_simp;rfl));go_simp;refine hK _ ?_;clear hK K;refine stepM0 rfl rfl fun K hK=>?_;go_simp;refine hK _ ?_;clear hK K;refine stepM2 rfl rfl ?_ (fun w1 hS=>?_) fun K hK=>?_;rotate_left;(focus (rw [HSD.out] at hS;obtain ⟨v0,v1,v2,v3,v4,v5,v6⟩:=cells7' (blk_below' KVR.out hS);obtain ⟨i0,i1,i2,i3,i4,i5,i6⟩:=cells7' (blk_below' KIR.out hS);rw [HES.out] at i4;go_simp;rfl));go_simp;refine hK _ ?_;clear hK K;(iterate 4 refine stepM0 rfl rfl fun K hK=>?_;go_simp;refine hK _ ?_;clear hK K);refine stepM2 rfl rfl ?_ (fun w1 hS=>?_) fun K hK=>?_;rotate_left;(focus (rw [HSD.out] at hS;obtain ⟨v0,v1,v2,v3,v4,v5,v6⟩:=cells7' (blk_below' KVR.out hS);obtain ⟨i0,i1,i2,i3,i4,i5,i6⟩:=cells7' (blk_below' KIR.out hS);rw [HES.out] at i4;go_simp;rfl));go_simp;refine hK _ ?_;clear hK K;(iterate 5 refine stepM0 rfl rfl fun K hK=>?_;go_simp;refine hK _ ?_;clear hK K);refine stepM2 rfl rfl ?_ (fun w1 hS=>?_) fun K hK=>?_;rotate_left;(focus (rw [HSD.out] at hS;obtain ⟨v0,v1,v2,v3,v4,v5,v6⟩:=cells7' (blk_below' KVR.out hS);obtain ⟨i0,i1,i2,i3,i4,i5,i6⟩:=cells7' (blk_below' KIR.out hS);rw [HES.out] at i4;go_simp;rfl));go_simp;refine hK _ ?_;clear hK K;refine stepM0 rfl rfl fun K hK=>?_;go_simp;refine hK _ ?_;clear hK K;refine stepM2 rfl rfl ?_ (fun w1 hS=>?_) fun K hK=>?_;rotate_left;(focus (rw [HSD.out] at hS;obtain ⟨v0,v1,v2,v3,v4,v5,v6⟩:=cells7' (blk_below' KVR.out hS);obtain ⟨i0,i1,i2,i3,i4,i5,i6⟩:=cells7' (blk_below' KIR.out hS);rw [HES.out] at i4;go_simp;rfl));go_simp;refine hK _ ?_;clear hK K;(iterate 8 refine stepM0 rfl rfl fun K hK=>?_;go_simp;refine hK _ ?_;clear hK K);refine stepM2 rfl rfl ?_ (fun w1 hS=>?_) fun K hK=>?_;rotate_left;(focus (rw [HSD.out] at hS;obtain ⟨v0,v1,v2,v3,v4,v5,v6⟩:=cells7' (blk_below' KVR.out hS);obtain ⟨i0,i1,i2,i3,i4,i5,i6⟩:=cells7' (blk_below' KIR.out hS);rw [HES.out] at i4;go_simp;rfl));go_simp;refine hK _ ?_;clear hK K;refine stepM1S rfl rfl fun K hK=>?_
   (go_wp2_with fail;refine (HKY.out wr.drew HBW.out.drew).mono ?_;rintro e w5 ⟨kv,rfl,hok,hb5⟩;obtain ⟨ka,kc,rfl,-⟩:=slice_of hok;have HOK:=Hd hok;have HB5:=Hd (show Below wr.heap.size wr w5 from Below.trans (Below.drew (Below.refl _ _)) (hb5.mono (Nat.le_refl _)));have hz5:=HB5.out.size;clear hok hb5;go_wp2)
   refine ⟨by rw [HSD.out];exact (HB5.out),?_⟩
   refine stepM1S rfl rfl fun K hK=>?_
   (go_wp2_with fail;refine (HTO.out ka kc w5 (reads_of_owns HOK.out)).mono ?_;rintro e w6 ⟨tv,rfl,hot,hb6⟩;obtain ⟨ta,tc,rfl,-⟩:=slice_of hot;have HOT:=Hd hot;have HB6:=Hd (HB5.out.trans (hb6.mono hz5));have hz6:=HB6.out.size;clear hot hb6;go_wp2)
   refine ⟨by rw [HSD.out];exact (HB6.out),?_⟩
   refine stepM1 rfl rfl (by kernel_rfl) fun K hK=>?_
   (go_wp2_with fail;refine (HSM.out ta tc _ _ w6 (reads_of_owns HOT.out) (HR.out.below (HBW.out.trans (HB6.out.mono HBW.out.size)))).mono ?_;rintro e w7 ⟨rfl,hb7⟩;have HB7:=Hd (HB6.out.trans (hb7.mono hz6));clear hb7;go_wp2)
   (iterate 2 refine stepM0 rfl rfl fun K hK=>?_;go_simp;refine hK _ ?_;clear hK K)
   try refine stepMnil0 ?_
   clear HSD SS
   go_wp2_with fail
   go_ret
   exact ⟨rfl,HBW.out.trans (HB7.out.mono HBW.out.size)⟩
end Go.Proofs.YtfpjfoajonbndaaGreatDoor
