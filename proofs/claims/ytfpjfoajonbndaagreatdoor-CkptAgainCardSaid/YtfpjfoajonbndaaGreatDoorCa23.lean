import Derived.Test.YtfpjfoajonbndaaGreatDoorCaCheckGet
import Derived.Test.YtfpjfoajonbndaaGreatDoorCa17
import Derived.Test.YtfpjfoajonbndaaGreatDoorCa10
namespace Go.Proofs.YtfpjfoajonbndaaGreatDoor
set_option maxHeartbeats 8000000
set_option maxRecDepth 100000
open Go.RowKit
set_option maxRecDepth 100000
set_option maxHeartbeats 8000000
open Go.RowKit
theorem belCa23 {B:Nat} {w w2:World} (h:Go.RowKit.Below B w w2:=by repeat (first|(with_reducible first|exact .refl _ _|refine .setCell ?_ ?_ _|refine .alloc ?_ ?_ _|refine .drewN ?_ _|refine .drew ?_|exact Nat.le_refl _)|(focus (simp only [World.size_alloc,World.size_setCell,World.size_drew,World.size_drewN];omega))|omega|exact Nat.le_refl _|(focus (simp;done))|(focus (simp;omega)))):Go.RowKit.Below B w w2:=h
theorem ixPut_snoc:∀ {l:List Ps} {p:Ps},(∀ q∈l,q.key<p.key)→ixPut l p=l ++ [p]
 | [],_,_=>rfl
 | a :: r,p,h=>by
  unfold ixPut
  rw [if_pos (h a List.mem_cons_self),ixPut_snoc (fun q hq=>h q (List.mem_cons_of_mem _ hq))]
  rfl
theorem ixPut_take {l:List Ps} {k:Nat} {p:Ps} (hs:IxS l) (hp:l[k]? = some p):ixPut (l.take k) p=l.take (k+1):=by
 obtain ⟨h1,h2⟩:=List.getElem?_eq_some_iff.1 hp
 rw [ixPut_snoc,List.take_add_one,hp]
 ·rfl
 ·intro q hq
  obtain ⟨i,hi,rfl⟩:=List.mem_iff_getElem.1 hq
  rw [List.length_take] at hi
  rw [List.getElem_take,←h2]
  exact List.pairwise_iff_getElem.1 hs i k (by omega) h1 (by omega)
theorem inew_any (a:Option Addr) (n cap:Nat) (l:List Ps) (w:World) (h:Reads w 5 (.slice a n cap) n (l.flatMap psC)) (hn:l.length=n) (hs:IxS l) (hf:n≤4096) :
  Calls Tryz.prog 48 #[.slice a n cap] w fun e w'=>∃ ix vx,e=.returned (.pointer (some ⟨ix,0,none⟩))∧IxAt w' w.heap.size ix vx l∧Below w.heap.size w w':=by
 have HR:=Lib.hid h
 have HN:=Lib.hid hn
 have HS:=Lib.hid hs
 have HIP:=Lib.hid (fun (ix:Nat) (v:Value) (q:List Ps) (p:Ps) (w0:World) (hx:IxAt w0 w.heap.size ix v q) (hq:q.length<4096)=>iput_any w.heap.size ix v q p w0 hx (.inr hq))
 clear h hn hs
 go_enter Tryz.func48,Tryz.ntmps48
 go_upto_region 2 with fail
 obtain ⟨w1,hw1⟩:∃ w1:World,w1=w.alloc (.cells #[.slice none 0 0] 186):=⟨_,rfl⟩
 have HX1:=Lib.hid (show IxAt w1 w.heap.size w.heap.size (.slice none 0 0) [] by rw [hw1];exact IxAt.made w w.heap.size (Nat.le_refl _))
 have HB1:=Lib.hid (show Below w.heap.size w w1 by rw [hw1];exact belCa23)
 rw [←hw1]
 clear hw1
 have hw1l:w.heap.size≤w1.heap.size:=HB1.out.size
 go_wp2_with fail
 go_loopw [10] (fun i wr=>∃ (k:Nat) (vk:Value),k≤n∧i=.int .i64 k∧IxAt wr w.heap.size w.heap.size vk (l.take k)∧Below w.heap.size w wr) (fun i _=>n - (intOf i).toNat)
 case atStart=>exact ⟨0,_,Nat.zero_le _,rfl,HX1.out,HB1.out⟩
 case round=>
  obtain ⟨k,vk,hk,rfl,hix,hbr⟩:=hrel
  have HIXR:=Lib.hid hix
  have HBR:=Lib.hid hbr
  have hzr:=hbr.size
  clear hix hbr
  have hk0:(0:Int)≤(k:Int):=by omega
  by_cases hlt:k<n
  ·obtain ⟨x,hx⟩:∃ x,l[k]? = some x:=⟨_,List.getElem?_eq_getElem (by rw [HN.out];exact hlt)⟩
   have HX:=Lib.hid hx
   obtain ⟨b,o,c',e,hb,r0,r1,r2,r3,r4⟩:=ps_cells (HR.out.below HBR.out) hx (by omega)
   obtain ⟨rfl,-,rfl⟩:=sl_inj e
   have HPX:=Lib.hid (fun (w0:World) (hb:Below wr.heap.size wr w0)=>HIP.out w.heap.size vk (l.take k) x w0 (HIXR.out.below hb) (by rw [List.length_take];omega))
   rw [ixPut_take HS.out hx] at HPX
   have hj1:(k:Int)<(n:Int):=by omega
   obtain ⟨xk,xo,xl,xc,xg⟩:=x
   unfold psV at HPX
   simp only at HPX r0 r1 r2 r3 r4
   clear hx e
   go_wp2_with fail
   refine (HPX.out _ belCa23).mono ?_
   rintro e w6 ⟨rfl,vk',hix',how',hkp⟩
   have HIX6:=Lib.hid hix'
   have HB6:=Lib.hid (show Below w.heap.size w w6 from (HBR.out.alloc hzr _).trans (Keeps.below hkp (by simp;omega) fun j hj=>by
    rcases hj with h1|h1
    ·rw [h1];exact Nat.le_refl _
    ·exact (HIXR.out.row.lt j h1).1))
   clear hix' how' hkp
   go_wp2_with fail
   go_roundw
   case rel=>exact ⟨k+1,vk',by omega,by go_num,HIX6.out,HB6.out⟩
   case measure=>simp [intOf];omega
  ·have hkn:k=n:=by omega
   have hj1:¬ (k:Int)<(n:Int):=by omega
   have HE:=Lib.hid (show IxAt wr w.heap.size w.heap.size vk l by
    have h1:=HIXR.out
    rwa [hkn,List.take_of_length_le (by rw [HN.out];exact Nat.le_refl _)] at h1)
   go_wp2_with fail
   refine bodyPost_ret (v:=?_) ?_ rfl ?_
   rotate_left;(focus (simp [results,Tryz.results48,go_sem];exact rfl))
   exact ⟨_,rfl,⟨vk,HE.out⟩,HBR.out⟩
theorem base_ck {w:World} {dp K:Nat} {P:Nat→Prop} {d:Dk} {v:Vl} (c:Ck) (h:DS w dp P K d) (hn:NamesAt v.num v.gen) (hl:(cName v.num v.gen).length≤maxLen) (hw:d.whole (cName v.num v.gen)=(0,ckB c)) (hr:ckRight c=0) (hck:∀ p∈c.l,p.key<18446744073709551616∧p.cookie<4294967296) (hs:IxS c.l) (h1:c.vol=v.num) (h2:c.gen=v.gen) (sz:Nat) (hu:16≤c.upto) (hz:c.upto≤sz) :
  Calls Tryz.prog 109 #[(.pointer (some ⟨dp,0,none⟩)),.agg #[.int .i64 v.num,.int .i64 v.gen,.int .i64 v.epoch,.bool v.shut],.int .i64 sz] w (BaseTo w c.l c.upto):=by
 have HN:=Lib.hid hn
 have HNV:=Lib.hid (show namesV v.num v.gen=.tuple #[.string ⟨v.file.toArray⟩,.string ⟨(cName v.num v.gen).toArray⟩,.string ⟨(mName v.num).toArray⟩,.string ⟨(sName v.num).toArray⟩] from rfl)
 have hwh:=fun (w0:World) (hb:Below w.heap.size w w0)=>whole_ds (h.below hb) (cName v.num v.gen) hl
 rw [hw] at hwh
 have HWH:=Lib.hid hwh
 obtain ⟨hl4,hnums,-⟩:=ckRight_parts hr
 have hlen:=ckB_len c
 have HGK:=Lib.hid (fun (bk o n cp:Nat) (w0:World) (hx:Reads w0 1 (.slice (some ⟨bk,o,none⟩) n cp) n ((ckB c).map bv)) (hl:(ckB c).length=n) (hcp:n≤cp)=>ckget_good bk o n cp c w0 hx hl hcp hr hck)
 have HNW:=Lib.hid (fun (a:Option Addr) (cap:Nat) (w0:World) (hx:Reads w0 5 (.slice a c.l.length cap) c.l.length (c.l.flatMap psC))=>inew_any a c.l.length cap c.l w0 hx rfl hs hl4)
 unfold CkGetTo at HGK
 unfold ckV at HGK
 obtain ⟨bs,hbs⟩:∃ bs,bs=ckB c:=⟨_,rfl⟩
 rw [←hbs] at HWH HGK hlen
 rw [h1,h2] at HGK
 have HLB:=Lib.hid hlen
 obtain ⟨U,hU⟩:∃ U,U=c.upto:=⟨_,rfl⟩
 rw [←hU] at HGK hu hz ⊢
 have hub:U≤16777216:=by rw [hU];exact hnums.2.2.2.2
 obtain ⟨L,hL⟩:∃ L,L=c.l:=⟨_,rfl⟩
 rw [←hL] at HGK HNW HLB hl4 ⊢
 have hne1:((v.num:Int) != (v.num:Int))=false:=by simp
 have hne2:((v.gen:Int) != (v.gen:Int))=false:=by simp
 have hu1:decide ((U:Int)<16)=false:=by simp;omega
 have hu2:decide ((sz:Int)<(U:Int))=false:=by simp;omega
 have hu3:decide (U<16)=false:=by simp;omega
 have hu4:decide (sz<U)=false:=by simp;omega
 clear h hn hl hw hwh hr hck hs h1 h2 hnums hlen hbs hU hL hu hz
 go_enter Tryz.func109,Tryz.ntmps109
 go_upto_region 1 with fail
 obtain ⟨w1,hw1⟩:∃ w1:World,w1=w.alloc (.cells #[.int .i64 v.num,.int .i64 v.gen,.int .i64 v.epoch,.bool v.shut] 113):=⟨_,rfl⟩
 have HB1:=Lib.hid (show Below w.heap.size w w1 by rw [hw1];exact belCa23)
 have KM1:=Lib.hid (show w1.heap[w.heap.size]? = some (.cells #[.int .i64 v.num,.int .i64 v.gen,.int .i64 v.epoch,.bool v.shut] 113 (0,0)) by rw [hw1];exact heap_new w _)
 rw [←hw1]
 clear hw1
 obtain ⟨MB,hMB⟩:∃ MB,MB=w.heap.size:=⟨_,rfl⟩
 rw [←hMB] at KM1 ⊢
 have hMl:w.heap.size≤MB:=by omega
 clear hMB
 obtain ⟨c0,c1,c2,c3⟩:=ncells KM1.out
 have hlm:=blk_lt KM1.out
 go_wp2_with fail
 refine Calls.mono (HN.out _) ?_
 rintro e wx ⟨rfl,rfl⟩
 rw [HNV.out]
 go_wp2_with fail
 refine (HWH.out w1 HB1.out).mono ?_
 rintro e w2 ⟨v2,rfl,ho,hb⟩
 have HB2:=Lib.hid (HB1.out.trans (hb.mono HB1.out.size))
 have KM2:=Lib.hid (blk_below' KM1.out hb)
 obtain ⟨a2,cp2,rfl,hc2⟩:=slice_of ho
 have HRD:=Lib.hid (reads_of_owns ho)
 obtain ⟨bk,oo,cp3,e,hbk,-,-⟩:=reads_at HRD.out (by have:=HLB.out;omega) (by have:=HLB.out;omega)
 obtain ⟨rfl,-,rfl⟩:=sl_inj e
 rw [show errV ((0:Nat):Int)=.nilIface from rfl]
 clear ho hb c0 c1 c2 c3 hlm
 go_wp2_with fail
 refine (HGK.out bk oo bs.length cp2 w2 HRD.out rfl hc2).mono ?_
 rintro e w3 ⟨a3,cp3,rfl,hrow,hb3⟩
 have HB3:=Lib.hid (HB2.out.trans (hb3.mono HB2.out.size))
 have KM3:=Lib.hid (blk_below' KM2.out hb3)
 have HRW:=Lib.hid (reads_of_owns hrow)
 clear hrow hb3 hc2
 go_upto_region 6 with fail
 obtain ⟨w4,hw4⟩:∃ w4:World,w4=w3.alloc (.cells #[.int .i64 v.num,.int .i64 v.gen,.int .i64 U,.slice a3 L.length cp3] 159):=⟨_,rfl⟩
 have hb4:Below w3.heap.size w3 w4:=by rw [hw4];exact belCa23
 have HB4:=Lib.hid (HB3.out.trans (hb4.mono HB3.out.size))
 have KM4:=Lib.hid (blk_below' KM3.out hb4)
 have KC4:=Lib.hid (show w4.heap[w3.heap.size]? = some (.cells #[.int .i64 v.num,.int .i64 v.gen,.int .i64 U,.slice a3 L.length cp3] 159 (0,0)) by rw [hw4];exact heap_new w3 _)
 have HRW4:=Lib.hid (HRW.out.below hb4)
 rw [←hw4]
 clear hw4 hb4
 obtain ⟨CB,hCB⟩:∃ CB,CB=w3.heap.size:=⟨_,rfl⟩
 rw [←hCB] at KC4 ⊢
 clear hCB
 obtain ⟨c0,c1,c2,c3⟩:=ncells KM4.out
 obtain ⟨y0,y1,y2,y3⟩:=ncells KC4.out
 have hlm:=blk_lt KM4.out
 have hlc:=blk_lt KC4.out
 go_upto_region 8 with fail
 obtain ⟨SS,HSD⟩:∃ SS:World→Prop,Hid (SS=fun w'=>w'.cell? ⟨CB,2,none⟩=some (.int .i64 U)∧w'.cell? ⟨CB,3,none⟩=some (.slice a3 L.length cp3)):=⟨_,Lib.hid rfl⟩
 refine wp_region_mask0 SS [1,4] [0,1,3,0,8,7,63] (.op 0 0 (.op 1 2 (.op 3 0 (.op 4 2 (.op 2 1 (.op 5 0 (.op 6 0 .nil))))))) (by kernel_rfl) (by kernel_rfl) rfl (by kernel_rfl) (by kernel_rfl) ?_ ?_
 (focus (rw [HSD.out];exact ⟨y2,y3⟩));refine stepM0 rfl rfl fun K hK=>?_;go_simp;refine hK _ ?_;clear hK K;refine stepM2 rfl rfl ?_ (fun w1 hS=>?_) fun K hK=>?_;rotate_left;(focus (rw [HSD.out] at hS;obtain ⟨s1,s2⟩:=hS;go_simp;rfl));go_simp;refine hK _ ?_;clear hK K;refine stepM0 rfl rfl fun K hK=>?_;go_simp;refine hK _ ?_;clear hK K;refine stepM2 rfl rfl ?_ (fun w1 hS=>?_) fun K hK=>?_;rotate_left;(focus (rw [HSD.out] at hS;obtain ⟨s1,s2⟩:=hS;go_simp;rfl));go_simp;refine hK _ ?_;clear hK K;refine stepM1S rfl rfl fun K hK=>?_
 (go_wp2_with fail;refine (HNW.out a3 cp3 _ (HRW4.out.below belCa23)).mono ?_;rintro e w5 ⟨ix,vx,rfl,hix,hb5⟩;have HIX5:=Lib.hid hix;have HB5:=Lib.hid (show Below w4.heap.size w4 w5 from Below.trans belCa23 (hb5.mono (by first|exact Nat.le_refl _|(simp;done))));have x2:=(HB5.out.cell (p:=⟨CB,2,none⟩) hlc).trans y2;have x3:=(HB5.out.cell (p:=⟨CB,3,none⟩) hlc).trans y3;clear hix hb5;go_wp2)
 refine ⟨by rw [HSD.out];exact (⟨x2,x3⟩),?_⟩
 (iterate 2 refine stepM0 rfl rfl fun K hK=>?_;go_simp;refine hK _ ?_;clear hK K)
 try refine stepMnil0 ?_
 clear HSD SS
 go_wp2_with fail
 go_ret2
 have h1:=HIX5.out
 have hz4:=HB4.out.size
 exact ⟨ix,vx,rfl,⟨h1.blk,ownsRow_mono h1.row hz4,Nat.le_trans hz4 h1.low,h1.ne,h1.few,h1.srt⟩,Nat.le_trans hz4 h1.low,HB4.out.trans (HB5.out.mono hz4)⟩
end Go.Proofs.YtfpjfoajonbndaaGreatDoor
