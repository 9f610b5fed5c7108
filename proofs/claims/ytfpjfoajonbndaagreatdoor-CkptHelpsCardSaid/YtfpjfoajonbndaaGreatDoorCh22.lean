import Derived.Test.YtfpjfoajonbndaaGreatDoorChCheckPlain
import Derived.Test.YtfpjfoajonbndaaGreatDoorCh16
import Derived.Test.YtfpjfoajonbndaaGreatDoorCh21
import Derived.Test.YtfpjfoajonbndaaGreatDoorCh2
import Derived.Deep.LoopGhost
import Derived.Deep.DeepCutAuto
import Derived.Test.YtfpjfoajonbndaaGreatDoorCh3
import Derived.Test.YtfpjfoajonbndaaGreatDoorCh8
import Derived.Test.YtfpjfoajonbndaaGreatDoorCh11
import Derived.Test.YtfpjfoajonbndaaGreatDoorCh6
namespace Go.Proofs.YtfpjfoajonbndaaGreatDoor
set_option maxHeartbeats 8000000
set_option maxRecDepth 100000
open Go.RowKit
set_option maxRecDepth 100000
set_option maxHeartbeats 8000000
open Go.RowKit
theorem ckpos_any(p:Ps)(w:World):Calls Tryz.prog 186 #[psV p] w fun e w'=>e=.returned (.bool (ckPos p))∧Below w.heap.size w w':=by
 obtain ⟨pk,po,pl,pc,pg⟩:=p
 unfold psV ckPos
 simp only
 have hb:Below w.heap.size w (w.alloc (.cells #[.int .u64 pk,.int .i64 po,.int .i64 pl,.int .u32 pc,.bool pg] 152)):=(Below.refl _ _).alloc (Nat.le_refl _) _
 have HB:=Hd hb
 clear hb
 by_cases h1:po≤16777216
 case neg=>
  have a1:¬ (po:Int)≤16777216:=by omega
  rw [decide_eq_false h1]
  clear h1
  go_enter Tryz.func186,Tryz.ntmps186
  go_wp2_with fail
  go_ret
  exact ⟨rfl,HB.out⟩
 have a1:(po:Int)≤16777216:=by omega
 rw [decide_eq_true h1]
 clear h1
 by_cases h2:pl≤4096
 case neg=>
  have a2:¬ (pl:Int)≤4096:=by omega
  rw [decide_eq_false h2]
  clear h2
  go_enter Tryz.func186,Tryz.ntmps186
  go_wp2_with fail
  go_ret
  exact ⟨rfl,HB.out⟩
 have a2:(pl:Int)≤4096:=by omega
 rw [decide_eq_true h2]
 clear h2
 cases pg with
 | false=>
  go_enter Tryz.func186,Tryz.ntmps186
  go_wp2_with fail
  go_ret
  exact ⟨rfl,HB.out⟩
 | true=>
  by_cases h3:pl=0
  ·subst h3
   go_enter Tryz.func186,Tryz.ntmps186
   go_wp2_with fail
   go_ret
   exact ⟨rfl,HB.out⟩
  ·have a3:¬ (pl:Int)=0:=by omega
   have a4:((pl:Int) == 0)=false:=by simpa using a3
   rw [decide_eq_false h3]
   go_enter Tryz.func186,Tryz.ntmps186
   go_wp2_with fail
   go_ret
   exact ⟨rfl,HB.out⟩
def ckV (c:Ck) (a:Option Addr) (cap:Nat):Value:=.agg #[.int .i64 c.vol,.int .i64 c.gen,.int .i64 c.upto,.slice a c.l.length cap]
theorem ckright_any(c:Ck)(a:Option Addr)(cap:Nat)(w:World)(hr:Reads w 5 (.slice a c.l.length cap) c.l.length (c.l.flatMap psC))(hl:c.l.length≤1000000000) :
  Calls Tryz.prog 154 #[ckV c a cap] w fun e w'=>e=.returned (errV (ckRight c))∧Below w.heap.size w w':=by
 have HR:=Hd hr
 have HCR:=Hd (show ckRight c=if 4096<c.l.length then 2 else if ckPre (ckNums c) c.l c.l.length then 0 else 1 by unfold ckRight ckPre;rw [List.take_length])
 have HNU:=Hd (show ckNums c=decide (1≤c.vol∧c.vol≤65535∧1≤c.gen∧c.gen≤2147483647∧c.upto≤16777216) from rfl)
 obtain ⟨G,hG⟩:∃ G,G=ckRight c:=⟨_,rfl⟩
 obtain ⟨B,hB⟩:∃ B,B=ckNums c:=⟨_,rfl⟩
 rw [←hG,←hB] at HCR
 rw [←hB] at HNU
 rw [←hG]
 unfold ckV
 obtain ⟨vol,gen,upto,l⟩:=c
 simp only at HR HCR HNU hl ⊢
 obtain ⟨ln,hln⟩:∃ ln,ln=l.length:=⟨_,rfl⟩
 have HLN:=Hd hln
 rw [←hln] at HR HCR hl ⊢
 clear hr hG hB hln
 go_enter Tryz.func154,Tryz.ntmps154
 go_upto_region 1 with fail
 obtain ⟨w1,hw1⟩:∃ w1:World,w1=w.alloc (.cells #[.int .i64 vol,.int .i64 gen,.int .i64 upto,.slice a ln cap] 159):=⟨_,rfl⟩
 have HB1:=Hd (show Below w.heap.size w w1 by rw [hw1];exact belo)
 have KC1:=Hd (show w1.heap[w.heap.size]? = some (.cells #[.int .i64 vol,.int .i64 gen,.int .i64 upto,.slice a ln cap] 159 (0,0)) by rw [hw1];exact heap_new w _)
 rw [←hw1]
 clear hw1
 have hz1:=HB1.out.size
 obtain ⟨CB,hCB⟩:∃ CB,CB=w.heap.size:=⟨_,rfl⟩
 have hCB1:w.heap.size≤CB:=by omega
 rw [←hCB] at KC1 ⊢
 clear hCB
 obtain ⟨c0,c1,c2,c3⟩:=ncells KC1.out
 have hlc:=blk_lt KC1.out
 by_cases h96:4096<ln
 ·have d1:(4096:Int)<(ln:Int):=by omega
  have HE:=Hd (show G=2 by rw [HCR.out,if_pos h96])
  clear h96
  go_wp2_with fail
  go_ret
  exact ⟨by rw [HE.out];rfl,HB1.out⟩
 have d1:¬ (4096:Int)<(ln:Int):=by omega
 have HE:=Hd (show G=if ckPre B l ln then 0 else 1 by rw [HCR.out,if_neg h96])
 clear h96
 go_upto_region 3 with fail
 go_cut [3] (fun x3 wx=>x3=.bool B∧wx=w1)
 case first=>
  by_cases h1:1≤vol
  case neg=>
   have a1:¬ (1:Int)≤(vol:Int):=by omega
   have HF:=Hd (show B=false by rw [HNU.out];simp;omega)
   clear h1
   go_wp2_with fail
   go_meet
   exact ⟨by rw [HF.out],rfl⟩
  have a1:(1:Int)≤(vol:Int):=by omega
  by_cases h2:vol≤65535
  case neg=>
   have a2:¬ (vol:Int)≤65535:=by omega
   have HF:=Hd (show B=false by rw [HNU.out];simp;omega)
   clear h1 h2
   go_wp2_with fail
   go_meet
   exact ⟨by rw [HF.out],rfl⟩
  have a2:(vol:Int)≤65535:=by omega
  by_cases h3:1≤gen
  case neg=>
   have a3:¬ (1:Int)≤(gen:Int):=by omega
   have HF:=Hd (show B=false by rw [HNU.out];simp;omega)
   clear h1 h2 h3
   go_wp2_with fail
   go_meet
   exact ⟨by rw [HF.out],rfl⟩
  have a3:(1:Int)≤(gen:Int):=by omega
  by_cases h4:gen≤2147483647
  case neg=>
   have a4:¬ (gen:Int)≤2147483647:=by omega
   have HF:=Hd (show B=false by rw [HNU.out];simp;omega)
   clear h1 h2 h3 h4
   go_wp2_with fail
   go_meet
   exact ⟨by rw [HF.out],rfl⟩
  have a4:(gen:Int)≤2147483647:=by omega
  by_cases h5:upto≤16777216
  case neg=>
   have a5:¬ (upto:Int)≤16777216:=by omega
   have HF:=Hd (show B=false by rw [HNU.out];simp;omega)
   clear h1 h2 h3 h4 h5
   go_wp2_with fail
   go_meet
   exact ⟨by rw [HF.out],rfl⟩
  have a5:(upto:Int)≤16777216:=by omega
  have HF:=Hd (show B=true by rw [HNU.out];simp;omega)
  clear h1 h2 h3 h4 h5
  go_wp2_with fail
  go_meet
  exact ⟨by rw [HF.out],rfl⟩
 case rest=>
  obtain ⟨rfl,hwx⟩:=hcut
  rw [hwx]
  clear hwx
  go_upto_region 5 with fail
  go_loopw [3,42] (fun ok i wr=>∃ k:Nat,k≤ln∧i=.int .i64 k∧ok=.bool (ckPre B l k)∧Below w1.heap.size w1 wr) (fun _ i _=>ln - (intOf i).toNat)
  case atStart=>exact ⟨0,Nat.zero_le _,rfl,by rw [ckPre_zero],Below.refl _ _⟩
  case round=>
   obtain ⟨k,hk,rfl,rfl,hbr⟩:=hrel
   have HBR:=Hd hbr
   have HBW:=Hd (HB1.out.trans (hbr.mono hz1))
   have KCR:=Hd (blk_below' KC1.out hbr)
   clear hbr
   by_cases hlt:k<ln
   ·obtain ⟨⟨pk,po,pl,pc,pg⟩,hp⟩:∃ p,l[k]? = some p:=⟨_,List.getElem?_eq_getElem (by rw [←HLN.out];exact hlt)⟩
    have HP:=Hd hp
    have HPS:=Hd (ckPre_succ B l k _ hp)
    obtain ⟨b,o,c',e,hb,r0,r1,r2,r3,r4⟩:=ps_cells (HR.out.below HBW.out) hp (by omega)
    obtain ⟨rfl,-,rfl⟩:=sl_inj e
    simp only at r0 r1 r2 r3 r4
    have hj0:(0:Int)≤(k:Int):=by omega
    have hj1:(k:Int)<(ln:Int):=by omega
    clear hp e
    have hlb:=hb
    obtain ⟨P,hP⟩:∃ P,P=ckPre B l k:=⟨_,rfl⟩
    rw [←hP] at HPS ⊢
    clear hP
    go_upto_region 7 with fail
    obtain ⟨w3,hw3⟩:∃ w3:World,w3=wr.alloc (.cells #[.int .u64 pk,.int .i64 po,.int .i64 pl,.int .u32 pc,.bool pg] 152):=⟨_,rfl⟩
    have hb3:Below wr.heap.size wr w3:=by rw [hw3];exact belo
    have HB3:=Hd (HBR.out.trans (hb3.mono HBR.out.size))
    have HBW3:=Hd (HBW.out.trans (hb3.mono HBW.out.size))
    have KP3:=Hd (show w3.heap[wr.heap.size]? = some (.cells #[.int .u64 pk,.int .i64 po,.int .i64 pl,.int .u32 pc,.bool pg] 152 (0,0)) by rw [hw3];exact heap_new wr _)
    have KC3:=Hd (blk_below' KCR.out hb3)
    rw [←hw3]
    clear hw3 hb3 r0 r1 r2 r3 r4 hb hlb
    obtain ⟨PB,hPB⟩:∃ PB,PB=wr.heap.size:=⟨_,rfl⟩
    rw [←hPB] at KP3 ⊢
    clear hPB
    cases P with
    | false=>
     have HN:=Hd (show ckPre B l (k+1)=false by rw [HPS.out,Bool.false_and])
     obtain ⟨SS,HSD⟩:∃ SS:World→Prop,Hid (SS=fun w'=>Below w3.heap.size w3 w'):=⟨_,Hd rfl⟩
     refine wp_region_mask0 SS [2,10,15,17] [0,1,3,7,15,31,63,127,255,511,1023,511,2559,8191,16383,32767,511,66047,262143,524287,1048575,2097151] (.op 0 0 (.op 1 0 (.op 2 2 (.op 3 1 (.op 4 0 (.op 5 0 (.op 6 0 (.op 7 0 (.op 8 0 (.op 9 0 (.op 10 2 (.op 11 0 (.op 12 0 (.op 13 0 (.op 14 0 (.op 15 2 (.op 16 0 (.op 17 2 (.op 18 0 (.op 19 0 (.op 20 0 (.op 21 0 .nil)))))))))))))))))))))) (by kernel_rfl) (by kernel_rfl) rfl (by kernel_rfl) (by kernel_rfl) ?_ ?_
     (focus (rw [HSD.out];exact Below.drew (Below.refl _ _)));(iterate 2 refine stepM0 rfl rfl fun K hK=>?_;go_simp;refine hK _ ?_;clear hK K);refine stepMy2 rfl rfl fun K hK=>?_;go_simp;refine hK _ ?_;clear hK K;refine stepMy1 rfl rfl fun K hK=>?_;go_simp;refine hK _ ?_;clear hK K;(iterate 2 refine stepM0 rfl rfl fun K hK=>?_;go_simp;refine hK _ ?_;clear hK K);(iterate 4 refine stepMy0 rfl rfl fun K hK=>?_;go_simp;refine hK _ ?_;clear hK K);refine stepMy2 rfl rfl fun K hK=>?_;go_simp;refine hK _ ?_;clear hK K;(iterate 4 refine stepMy0 rfl rfl fun K hK=>?_;go_simp;refine hK _ ?_;clear hK K);refine stepMy2 rfl rfl fun K hK=>?_;go_simp;refine hK _ ?_;clear hK K;refine stepMy0 rfl rfl fun K hK=>?_;go_simp;refine hK _ ?_;clear hK K;refine stepMy2 rfl rfl fun K hK=>?_;go_simp;refine hK _ ?_;clear hK K;(iterate 2 refine stepMy0 rfl rfl fun K hK=>?_;go_simp;refine hK _ ?_;clear hK K);(iterate 2 refine stepM0 rfl rfl fun K hK=>?_;go_simp;refine hK _ ?_;clear hK K)
     try refine stepMnil0 ?_
     clear HSD SS
     go_wp2_with fail
     go_roundw
     case rel=>exact ⟨k+1,by omega,by go_num,by rw [HN.out],Below.drew HB3.out⟩
     case measure=>simp [intOf];omega
    | true=>
     have HCP:=Hd (ckpos_any ⟨pk,po,pl,pc,pg⟩ w3.drew)
     unfold psV at HCP
     simp only at HCP
     obtain ⟨Q,hQ⟩:∃ Q,Q=ckPos ⟨pk,po,pl,pc,pg⟩:=⟨_,rfl⟩
     rw [←hQ] at HPS HCP
     clear hQ
     obtain ⟨p0,p1,p2,p3,p4⟩:=pcells KP3.out
     have hlp:=blk_lt KP3.out
     cases Q with
     | false=>
      have HN:=Hd (show ckPre B l (k+1)=false by rw [HPS.out];rfl)
      obtain ⟨SS,HSD⟩:∃ SS:World→Prop,Hid (SS=fun w'=>Below w3.heap.size w3 w'):=⟨_,Hd rfl⟩
      refine wp_region_mask0 SS [2,10,15,17] [0,1,3,7,15,31,63,127,255,511,1023,511,2559,8191,16383,32767,511,66047,262143,524287,1048575,2097151] (.op 0 0 (.op 1 0 (.op 2 2 (.op 3 1 (.op 4 0 (.op 5 0 (.op 6 0 (.op 7 0 (.op 8 0 (.op 9 0 (.op 10 2 (.op 11 0 (.op 12 0 (.op 13 0 (.op 14 0 (.op 15 2 (.op 16 0 (.op 17 2 (.op 18 0 (.op 19 0 (.op 20 0 (.op 21 0 .nil)))))))))))))))))))))) (by kernel_rfl) (by kernel_rfl) rfl (by kernel_rfl) (by kernel_rfl) ?_ ?_
      (focus (rw [HSD.out];exact Below.drew (Below.refl _ _)));(iterate 2 refine stepM0 rfl rfl fun K hK=>?_;go_simp;refine hK _ ?_;clear hK K);refine stepM2 rfl rfl ?_ (fun w1 hS=>?_) fun K hK=>?_;rotate_left;(focus (rw [HSD.out] at hS;obtain ⟨p0,p1,p2,p3,p4⟩:=pcells (blk_below' KP3.out hS);have hlp:=blk_lt (blk_below' KP3.out hS);go_simp;rfl));go_simp;refine hK _ ?_;clear hK K;refine stepM1S rfl rfl fun K hK=>?_
      go_wp2_with fail;refine HCP.out.mono ?_;rintro e w4 ⟨rfl,hb⟩;have HB34:=Hd ((Below.drew (Below.refl w3.heap.size w3)).trans hb);clear hb;go_wp2
      refine ⟨by rw [HSD.out];exact (HB34.out),?_⟩
      (iterate 2 refine stepM0 rfl rfl fun K hK=>?_;go_simp;refine hK _ ?_;clear hK K);(iterate 4 refine stepMy0 rfl rfl fun K hK=>?_;go_simp;refine hK _ ?_;clear hK K);refine stepMy2 rfl rfl fun K hK=>?_;go_simp;refine hK _ ?_;clear hK K;(iterate 4 refine stepMy0 rfl rfl fun K hK=>?_;go_simp;refine hK _ ?_;clear hK K);refine stepMy2 rfl rfl fun K hK=>?_;go_simp;refine hK _ ?_;clear hK K;refine stepMy0 rfl rfl fun K hK=>?_;go_simp;refine hK _ ?_;clear hK K;refine stepMy2 rfl rfl fun K hK=>?_;go_simp;refine hK _ ?_;clear hK K;(iterate 2 refine stepMy0 rfl rfl fun K hK=>?_;go_simp;refine hK _ ?_;clear hK K);(iterate 2 refine stepM0 rfl rfl fun K hK=>?_;go_simp;refine hK _ ?_;clear hK K)
      try refine stepMnil0 ?_
      clear HSD SS
      go_wp2_with fail
      go_roundw
      case rel=>exact ⟨k+1,by omega,by go_num,by rw [HN.out],HB3.out.trans (HB34.out.mono HB3.out.size)⟩
      case measure=>simp [intOf];omega
     | true=>
      rcases Nat.eq_zero_or_pos k with hk0|hk0
      ·subst hk0
       have HN:=Hd (show ckPre B l (0+1)=true by rw [HPS.out];rfl)
       obtain ⟨SS,HSD⟩:∃ SS:World→Prop,Hid (SS=fun w'=>Below w3.heap.size w3 w'):=⟨_,Hd rfl⟩
       refine wp_region_mask0 SS [2,10,15,17] [0,1,3,7,15,31,63,127,255,511,1023,511,2559,8191,16383,32767,511,66047,262143,524287,1048575,2097151] (.op 0 0 (.op 1 0 (.op 2 2 (.op 3 1 (.op 4 0 (.op 5 0 (.op 6 0 (.op 7 0 (.op 8 0 (.op 9 0 (.op 10 2 (.op 11 0 (.op 12 0 (.op 13 0 (.op 14 0 (.op 15 2 (.op 16 0 (.op 17 2 (.op 18 0 (.op 19 0 (.op 20 0 (.op 21 0 .nil)))))))))))))))))))))) (by kernel_rfl) (by kernel_rfl) rfl (by kernel_rfl) (by kernel_rfl) ?_ ?_
       (focus (rw [HSD.out];exact Below.drew (Below.refl _ _)));(iterate 2 refine stepM0 rfl rfl fun K hK=>?_;go_simp;refine hK _ ?_;clear hK K);refine stepM2 rfl rfl ?_ (fun w1 hS=>?_) fun K hK=>?_;rotate_left;(focus (rw [HSD.out] at hS;obtain ⟨p0,p1,p2,p3,p4⟩:=pcells (blk_below' KP3.out hS);have hlp:=blk_lt (blk_below' KP3.out hS);go_simp;rfl));go_simp;refine hK _ ?_;clear hK K;refine stepM1S rfl rfl fun K hK=>?_
       go_wp2_with fail;refine HCP.out.mono ?_;rintro e w4 ⟨rfl,hb⟩;have HB34:=Hd ((Below.drew (Below.refl w3.heap.size w3)).trans hb);clear hb;go_wp2
       refine ⟨by rw [HSD.out];exact (HB34.out),?_⟩
       (iterate 5 refine stepM0 rfl rfl fun K hK=>?_;go_simp;refine hK _ ?_;clear hK K);refine stepMy0 rfl rfl fun K hK=>?_;go_simp;refine hK _ ?_;clear hK K;refine stepMy2 rfl rfl fun K hK=>?_;go_simp;refine hK _ ?_;clear hK K;(iterate 4 refine stepMy0 rfl rfl fun K hK=>?_;go_simp;refine hK _ ?_;clear hK K);refine stepMy2 rfl rfl fun K hK=>?_;go_simp;refine hK _ ?_;clear hK K;refine stepMy0 rfl rfl fun K hK=>?_;go_simp;refine hK _ ?_;clear hK K;refine stepMy2 rfl rfl fun K hK=>?_;go_simp;refine hK _ ?_;clear hK K;refine stepMy0 rfl rfl fun K hK=>?_;go_simp;refine hK _ ?_;clear hK K;(iterate 3 refine stepM0 rfl rfl fun K hK=>?_;go_simp;refine hK _ ?_;clear hK K)
       try refine stepMnil0 ?_
       clear HSD SS
       go_wp2_with fail
       go_roundw
       case rel=>exact ⟨0+1,by omega,by go_num,by rw [HN.out],HB3.out.trans (HB34.out.mono HB3.out.size)⟩
       case measure=>simp [intOf];omega
      ·obtain ⟨j,rfl⟩:∃ j,k=j+1:=⟨k - 1,by omega⟩
       obtain ⟨q,hq⟩:∃ q,l[j]? = some q:=⟨_,List.getElem?_eq_getElem (by rw [←HLN.out];omega)⟩
       have HQ:=Hd hq
       obtain ⟨qk,qo,ql,qc,qg⟩:=q
       have hwj:IntKind.i64.wrap (((j+1:Nat):Int) - 1)=(j:Int):=by rw [IntKind.wrap_i64];omega
       have hwj2:IntKind.i64.wrap ((j:Int)+1 - 1)=(j:Int):=by rw [IntKind.wrap_i64];omega
       have hwj3:IntKind.i64.wrap (j:Int)=(j:Int):=by rw [IntKind.wrap_i64];omega
       have hz1:(((j+1:Nat):Int) == 0)=false:=by simp;omega
       have hz2:((j:Int)+1 == 0)=false:=by simp;omega
       have hm0:(0:Int)≤(j:Int):=by omega
       have hm1:(j:Int)<(ln:Int):=by omega
       have HPV:=Hd (show ckPrev l (j+1) ⟨pk,po,pl,pc,pg⟩=decide (qk<pk) by show (match l[j]? with|some q=>decide (q.key<pk)|none=>true)=_;rw [hq])
       clear hq
       by_cases hqp:qk<pk
       ·have hd:decide ((qk:Int)<(pk:Int))=true:=by simp;omega
        have hd2:(qk:Int)<(pk:Int):=by omega
        have HN:=Hd (show ckPre B l (j+1+1)=true by rw [HPS.out,HPV.out,decide_eq_true hqp];rfl)
        clear hqp
        obtain ⟨SS,HSD⟩:∃ SS:World→Prop,Hid (SS=fun w'=>Below w3.heap.size w3 w'):=⟨_,Hd rfl⟩
        refine wp_region_mask0 SS [2,10,15,17] [0,1,3,7,15,31,63,127,255,511,1023,511,2559,8191,16383,32767,511,66047,262143,524287,1048575,2097151] (.op 0 0 (.op 1 0 (.op 2 2 (.op 3 1 (.op 4 0 (.op 5 0 (.op 6 0 (.op 7 0 (.op 8 0 (.op 9 0 (.op 10 2 (.op 11 0 (.op 12 0 (.op 13 0 (.op 14 0 (.op 15 2 (.op 16 0 (.op 17 2 (.op 18 0 (.op 19 0 (.op 20 0 (.op 21 0 .nil)))))))))))))))))))))) (by kernel_rfl) (by kernel_rfl) rfl (by kernel_rfl) (by kernel_rfl) ?_ ?_
        (focus (rw [HSD.out];exact Below.drew (Below.refl _ _)));(iterate 2 refine stepM0 rfl rfl fun K hK=>?_;go_simp;refine hK _ ?_;clear hK K);refine stepM2 rfl rfl ?_ (fun w1 hS=>?_) fun K hK=>?_;rotate_left;(focus (rw [HSD.out] at hS;obtain ⟨p0,p1,p2,p3,p4⟩:=pcells (blk_below' KP3.out hS);have hlp:=blk_lt (blk_below' KP3.out hS);obtain ⟨c0,c1,c2,c3⟩:=ncells (blk_below' KC3.out hS);have hlc:=blk_lt (blk_below' KC3.out hS);obtain ⟨b2,o2,c2',e2,hb2,s0,s1,s2,s3,s4⟩:=ps_cells (HR.out.below (HBW3.out.trans (hS.mono HBW3.out.size))) HQ.out (by omega);obtain ⟨h1,-,rfl⟩:=sl_inj e2;simp only [Option.some.injEq,Addr.mk.injEq,and_true] at h1;obtain ⟨rfl,rfl⟩:=h1;simp only at s0 s1 s2 s3 s4;go_simp;rfl));go_simp;refine hK _ ?_;clear hK K;refine stepM1S rfl rfl fun K hK=>?_
        go_wp2_with fail;refine HCP.out.mono ?_;rintro e w4 ⟨rfl,hb⟩;have HB34:=Hd ((Below.drew (Below.refl w3.heap.size w3)).trans hb);clear hb;go_wp2
        refine ⟨by rw [HSD.out];exact (HB34.out),?_⟩
        (iterate 6 refine stepM0 rfl rfl fun K hK=>?_;go_simp;refine hK _ ?_;clear hK K);refine stepM2 rfl rfl ?_ (fun w1 hS=>?_) fun K hK=>?_;rotate_left;(focus (rw [HSD.out] at hS;obtain ⟨p0,p1,p2,p3,p4⟩:=pcells (blk_below' KP3.out hS);have hlp:=blk_lt (blk_below' KP3.out hS);obtain ⟨c0,c1,c2,c3⟩:=ncells (blk_below' KC3.out hS);have hlc:=blk_lt (blk_below' KC3.out hS);obtain ⟨b2,o2,c2',e2,hb2,s0,s1,s2,s3,s4⟩:=ps_cells (HR.out.below (HBW3.out.trans (hS.mono HBW3.out.size))) HQ.out (by omega);obtain ⟨h1,-,rfl⟩:=sl_inj e2;simp only [Option.some.injEq,Addr.mk.injEq,and_true] at h1;obtain ⟨rfl,rfl⟩:=h1;simp only at s0 s1 s2 s3 s4;go_simp;rfl));go_simp;refine hK _ ?_;clear hK K;(iterate 4 refine stepM0 rfl rfl fun K hK=>?_;go_simp;refine hK _ ?_;clear hK K);refine stepM2 rfl rfl ?_ (fun w1 hS=>?_) fun K hK=>?_;rotate_left;(focus (rw [HSD.out] at hS;obtain ⟨p0,p1,p2,p3,p4⟩:=pcells (blk_below' KP3.out hS);have hlp:=blk_lt (blk_below' KP3.out hS);obtain ⟨c0,c1,c2,c3⟩:=ncells (blk_below' KC3.out hS);have hlc:=blk_lt (blk_below' KC3.out hS);obtain ⟨b2,o2,c2',e2,hb2,s0,s1,s2,s3,s4⟩:=ps_cells (HR.out.below (HBW3.out.trans (hS.mono HBW3.out.size))) HQ.out (by omega);obtain ⟨h1,-,rfl⟩:=sl_inj e2;simp only [Option.some.injEq,Addr.mk.injEq,and_true] at h1;obtain ⟨rfl,rfl⟩:=h1;simp only at s0 s1 s2 s3 s4;go_simp;rfl));go_simp;refine hK _ ?_;clear hK K;refine stepM0 rfl rfl fun K hK=>?_;go_simp;refine hK _ ?_;clear hK K;refine stepM2 rfl rfl ?_ (fun w1 hS=>?_) fun K hK=>?_;rotate_left;(focus (rw [HSD.out] at hS;obtain ⟨p0,p1,p2,p3,p4⟩:=pcells (blk_below' KP3.out hS);have hlp:=blk_lt (blk_below' KP3.out hS);obtain ⟨c0,c1,c2,c3⟩:=ncells (blk_below' KC3.out hS);have hlc:=blk_lt (blk_below' KC3.out hS);obtain ⟨b2,o2,c2',e2,hb2,s0,s1,s2,s3,s4⟩:=ps_cells (HR.out.below (HBW3.out.trans (hS.mono HBW3.out.size))) HQ.out (by omega);obtain ⟨h1,-,rfl⟩:=sl_inj e2;simp only [Option.some.injEq,Addr.mk.injEq,and_true] at h1;obtain ⟨rfl,rfl⟩:=h1;simp only at s0 s1 s2 s3 s4;go_simp;rfl));go_simp;refine hK _ ?_;clear hK K;(iterate 4 refine stepM0 rfl rfl fun K hK=>?_;go_simp;refine hK _ ?_;clear hK K)
        try refine stepMnil0 ?_
        clear HSD SS
        go_wp2_with fail
        go_roundw
        case rel=>exact ⟨j+1+1,by omega,by go_num,by first|(rw [HN.out];done)|(rw [HN.out];simp;omega),HB3.out.trans (HB34.out.mono HB3.out.size)⟩
        case measure=>simp [intOf];omega
       ·have hd:decide ((qk:Int)<(pk:Int))=false:=by simp;omega
        have hd2:¬ (qk:Int)<(pk:Int):=by omega
        have HN:=Hd (show ckPre B l (j+1+1)=false by rw [HPS.out,HPV.out,decide_eq_false hqp];rfl)
        clear hqp
        obtain ⟨SS,HSD⟩:∃ SS:World→Prop,Hid (SS=fun w'=>Below w3.heap.size w3 w'):=⟨_,Hd rfl⟩
        refine wp_region_mask0 SS [2,10,15,17] [0,1,3,7,15,31,63,127,255,511,1023,511,2559,8191,16383,32767,511,66047,262143,524287,1048575,2097151] (.op 0 0 (.op 1 0 (.op 2 2 (.op 3 1 (.op 4 0 (.op 5 0 (.op 6 0 (.op 7 0 (.op 8 0 (.op 9 0 (.op 10 2 (.op 11 0 (.op 12 0 (.op 13 0 (.op 14 0 (.op 15 2 (.op 16 0 (.op 17 2 (.op 18 0 (.op 19 0 (.op 20 0 (.op 21 0 .nil)))))))))))))))))))))) (by kernel_rfl) (by kernel_rfl) rfl (by kernel_rfl) (by kernel_rfl) ?_ ?_
        (focus (rw [HSD.out];exact Below.drew (Below.refl _ _)));(iterate 2 refine stepM0 rfl rfl fun K hK=>?_;go_simp;refine hK _ ?_;clear hK K);refine stepM2 rfl rfl ?_ (fun w1 hS=>?_) fun K hK=>?_;rotate_left;(focus (rw [HSD.out] at hS;obtain ⟨p0,p1,p2,p3,p4⟩:=pcells (blk_below' KP3.out hS);have hlp:=blk_lt (blk_below' KP3.out hS);obtain ⟨c0,c1,c2,c3⟩:=ncells (blk_below' KC3.out hS);have hlc:=blk_lt (blk_below' KC3.out hS);obtain ⟨b2,o2,c2',e2,hb2,s0,s1,s2,s3,s4⟩:=ps_cells (HR.out.below (HBW3.out.trans (hS.mono HBW3.out.size))) HQ.out (by omega);obtain ⟨h1,-,rfl⟩:=sl_inj e2;simp only [Option.some.injEq,Addr.mk.injEq,and_true] at h1;obtain ⟨rfl,rfl⟩:=h1;simp only at s0 s1 s2 s3 s4;go_simp;rfl));go_simp;refine hK _ ?_;clear hK K;refine stepM1S rfl rfl fun K hK=>?_
        go_wp2_with fail;refine HCP.out.mono ?_;rintro e w4 ⟨rfl,hb⟩;have HB34:=Hd ((Below.drew (Below.refl w3.heap.size w3)).trans hb);clear hb;go_wp2
        refine ⟨by rw [HSD.out];exact (HB34.out),?_⟩
        (iterate 6 refine stepM0 rfl rfl fun K hK=>?_;go_simp;refine hK _ ?_;clear hK K);refine stepM2 rfl rfl ?_ (fun w1 hS=>?_) fun K hK=>?_;rotate_left;(focus (rw [HSD.out] at hS;obtain ⟨p0,p1,p2,p3,p4⟩:=pcells (blk_below' KP3.out hS);have hlp:=blk_lt (blk_below' KP3.out hS);obtain ⟨c0,c1,c2,c3⟩:=ncells (blk_below' KC3.out hS);have hlc:=blk_lt (blk_below' KC3.out hS);obtain ⟨b2,o2,c2',e2,hb2,s0,s1,s2,s3,s4⟩:=ps_cells (HR.out.below (HBW3.out.trans (hS.mono HBW3.out.size))) HQ.out (by omega);obtain ⟨h1,-,rfl⟩:=sl_inj e2;simp only [Option.some.injEq,Addr.mk.injEq,and_true] at h1;obtain ⟨rfl,rfl⟩:=h1;simp only at s0 s1 s2 s3 s4;go_simp;rfl));go_simp;refine hK _ ?_;clear hK K;(iterate 4 refine stepM0 rfl rfl fun K hK=>?_;go_simp;refine hK _ ?_;clear hK K);refine stepM2 rfl rfl ?_ (fun w1 hS=>?_) fun K hK=>?_;rotate_left;(focus (rw [HSD.out] at hS;obtain ⟨p0,p1,p2,p3,p4⟩:=pcells (blk_below' KP3.out hS);have hlp:=blk_lt (blk_below' KP3.out hS);obtain ⟨c0,c1,c2,c3⟩:=ncells (blk_below' KC3.out hS);have hlc:=blk_lt (blk_below' KC3.out hS);obtain ⟨b2,o2,c2',e2,hb2,s0,s1,s2,s3,s4⟩:=ps_cells (HR.out.below (HBW3.out.trans (hS.mono HBW3.out.size))) HQ.out (by omega);obtain ⟨h1,-,rfl⟩:=sl_inj e2;simp only [Option.some.injEq,Addr.mk.injEq,and_true] at h1;obtain ⟨rfl,rfl⟩:=h1;simp only at s0 s1 s2 s3 s4;go_simp;rfl));go_simp;refine hK _ ?_;clear hK K;refine stepM0 rfl rfl fun K hK=>?_;go_simp;refine hK _ ?_;clear hK K;refine stepM2 rfl rfl ?_ (fun w1 hS=>?_) fun K hK=>?_;rotate_left;(focus (rw [HSD.out] at hS;obtain ⟨p0,p1,p2,p3,p4⟩:=pcells (blk_below' KP3.out hS);have hlp:=blk_lt (blk_below' KP3.out hS);obtain ⟨c0,c1,c2,c3⟩:=ncells (blk_below' KC3.out hS);have hlc:=blk_lt (blk_below' KC3.out hS);obtain ⟨b2,o2,c2',e2,hb2,s0,s1,s2,s3,s4⟩:=ps_cells (HR.out.below (HBW3.out.trans (hS.mono HBW3.out.size))) HQ.out (by omega);obtain ⟨h1,-,rfl⟩:=sl_inj e2;simp only [Option.some.injEq,Addr.mk.injEq,and_true] at h1;obtain ⟨rfl,rfl⟩:=h1;simp only at s0 s1 s2 s3 s4;go_simp;rfl));go_simp;refine hK _ ?_;clear hK K;(iterate 4 refine stepM0 rfl rfl fun K hK=>?_;go_simp;refine hK _ ?_;clear hK K)
        try refine stepMnil0 ?_
        clear HSD SS
        go_wp2_with fail
        go_roundw
        case rel=>exact ⟨j+1+1,by omega,by go_num,by first|(rw [HN.out];done)|(rw [HN.out];simp;omega),HB3.out.trans (HB34.out.mono HB3.out.size)⟩
        case measure=>simp [intOf];omega
   ·have hj1:¬ (k:Int)<(ln:Int):=by omega
    obtain rfl:k=ln:=by omega
    have hj2:decide ((k:Int)<(k:Int))=false:=by simp
    obtain ⟨P,hP⟩:∃ P,P=ckPre B l k:=⟨_,rfl⟩
    rw [←hP] at HE ⊢
    clear hP
    cases P with
    | false=>
     go_wp2_with fail
     go_ret
     exact ⟨by rw [HE.out];rfl,HBW.out⟩
    | true=>
     go_wp2_with fail
     go_ret
     exact ⟨by rw [HE.out];rfl,HBW.out⟩
def BufAt (w:World) (lo bk:Nat) (bs:List UInt8):Prop:=∃ a c,w.heap[bk]? = some (.cells #[.slice a bs.length c] 47 (0,0))∧w.ownsRow lo 5 1 (.slice a bs.length c) bs.length (bs.map bv)∧(Value.slice a bs.length c).ownBlock≠some bk
theorem BufAt.lt{w:World}{lo bk:Nat}{bs:List UInt8}(h:BufAt w lo bk bs):bk<w.heap.size:=by obtain ⟨a,c,h1,-⟩:=h;exact blk_lt h1
theorem BufAt.below{w w':World}{lo bk:Nat}{bs:List UInt8}(h:BufAt w lo bk bs)(hb:Below w.heap.size w w'):BufAt w' lo bk bs:=by
 obtain ⟨a,c,h1,h2,h3⟩:=h
 exact ⟨a,c,blk_below' h1 hb,ownsRow_keeps (F:=fun _=>False) h2 (keeps_below _ hb) (fun _ _ e=>e),h3⟩
theorem BufAt.reads{w:World}{lo bk:Nat}{bs:List UInt8}(h:BufAt w lo bk bs):∃ a c,w.cell? ⟨bk,0,none⟩=some (.slice a bs.length c)∧Reads w 1 (.slice a bs.length c) bs.length (bs.map bv):=by
 obtain ⟨a,c,h1,h2,h3⟩:=h
 exact ⟨a,c,bx_cell h1,reads_of_owns h2⟩
theorem cknum_any{w:World}{lo bk:Nat}{bs:List UInt8}(h:BufAt w lo bk bs)(hlo:lo≤w.heap.size)(k n:Nat)(hk:k=4∨k=8)(hn:n<256 ^ k)(hl:bs.length≤1000000) :
  Calls Tryz.prog 155 #[.int .u64 n,.int .i64 k,(.pointer (some ⟨bk,0,none⟩))] w fun e w'=>e=.returned (.tuple #[])∧BufAt w' lo bk (bs ++ le k n)∧Keeps (fun j=>j=bk) w w':=by
 have hlt:=h.lt
 have HH:=Hd h
 obtain ⟨a,c,h1,hr⟩:=h.reads
 obtain ⟨a0,c0,g1,-⟩:=h
 have hf:w.frozen? ⟨bk,0,none⟩=false:=frozen_of_row w bk 0 _ _ g1
 have HPT:=Hd (show Calls Tryz.prog 130 #[.slice a bs.length c,.int .u64 n,.int .i64 k] w fun e w'=>∃ v',e=.returned (.tuple #[v',.nilIface])∧w'.ownsRow w.heap.size 5 1 v' (bs ++ le k n).length ((bs ++ le k n).map bv)∧Below w.heap.size w w' by
  rcases hk with rfl|rfl
  ·exact put_4 _ bs n w hr (by omega) (by have:(256:Nat) ^ 4=4294967296:=rfl;omega) hn
  ·exact put_8 _ bs n w hr (by omega) (by have:(256:Nat) ^ 8=18446744073709551616:=rfl;omega) hn)
 clear hr hk hn hl g1
 go_enter Tryz.func155,Tryz.ntmps155
 go_wp2_with fail
 refine HPT.out.mono ?_
 rintro e w2 ⟨v2,rfl,ho2,hb2⟩
 obtain ⟨a2,c2,rfl,hc2⟩:=slice_of ho2
 have HO2:=Hd ho2
 have HB2:=Hd hb2
 have h3:∃ x,w2.cell? ⟨bk,0,none⟩=some x:=by
  obtain ⟨a0,c0,g1,-⟩:=HH.out
  exact ⟨_,bx_cell (blk_below' g1 hb2)⟩
 obtain ⟨x3,h3⟩:=h3
 have h2:w2.frozen? ⟨bk,0,none⟩=false:=by
  obtain ⟨a0,c0,g1,-⟩:=HH.out
  exact frozen_of_row w2 bk 0 _ _ (blk_below' g1 hb2)
 have hlt2:bk<w2.heap.size:=Nat.lt_of_lt_of_le hlt hb2.size
 clear ho2 hb2
 go_wp2_with fail
 go_end0
 refine ⟨rfl,?_,?_⟩
 ·obtain ⟨a0,c0,g1,-⟩:=HH.out
  have g2:=blk_below' g1 HB2.out
  have g3:=heap_setCell_same w2 bk 0 _ _ (.slice a2 (bs ++ le k n).length c2) g2
  have hne:(Value.slice a2 (bs ++ le k n).length c2).ownBlock≠some bk:=fun e=>by
   have:=HO2.out.lt bk e
   omega
  refine ⟨a2,c2,?_,?_,hne⟩
  ·simpa using g3
  ·refine ownsRow_mono (ownsRow_keeps (F:=fun j=>j=bk) HO2.out ?_ (fun j e e2=>hne (e2 ▸ e))) hlo
   simpa using (Keeps.refl (fun j=>j=bk) w2).setCell ⟨bk,0,none⟩ _ (fun _=>rfl)
 ·refine (keeps_below (fun j=>j=bk) HB2.out).trans ?_ (fun _ _ e=>e)
  exact (Keeps.refl (fun j=>j=bk) w2).setCell ⟨bk,0,none⟩ _ (fun _=>rfl)
theorem ckHead_words(c:Ck):ckHead c=wordsB [1128811344,c.vol,c.gen,c.upto,c.l.length]:=by simp [ckHead,wordsB]
theorem pos_take(l:List Ps)(k:Nat)(p:Ps)(h:l[k]? = some p):(l.take (k+1)).flatMap posB=(l.take k).flatMap posB ++ posB p:=by
 rw [List.take_add_one,h,List.flatMap_append]
 simp
theorem BufAt.mono{w:World}{lo bk:Nat}{bs cs:List UInt8}(h:BufAt w lo bk bs)(e:bs=cs):BufAt w lo bk cs:=e ▸ h
theorem ckput_any(c:Ck)(a:Option Addr)(cap:Nat)(w:World)(hr:Reads w 5 (.slice a c.l.length cap) c.l.length (c.l.flatMap psC))(hl:c.l.length≤1000000000)(hck:∀ p∈c.l,p.key<18446744073709551616∧p.cookie<4294967296) :
  Calls Tryz.prog 117 #[ckV c a cap] w (ReadTo w (ckRight c) (if ckRight c=0 then ckB c else [])):=by
 have HR:=Hd hr
 have HCK:=Hd hck
 have HRI:=Hd (fun (w0:World) (hb:Below w.heap.size w w0)=>ckright_any c a cap w0 (hr.below hb) hl)
 have HG0:=Hd (show ckRight c=0→c.l.length≤4096∧c.vol≤65535∧c.gen≤2147483647∧c.upto≤16777216∧∀ p∈c.l,p.off≤16777216∧p.len≤4096 from fun h=>by
  unfold ckRight at h
  by_cases h1:4096<c.l.length
  ·rw [if_pos h1] at h;cases h
  rw [if_neg h1] at h
  by_cases h2:(ckNums c && ckRow none c.l)=true
  ·simp only [Bool.and_eq_true] at h2
   obtain ⟨h3,h4⟩:=h2
   unfold ckNums at h3
   have h5:=of_decide_eq_true h3
   refine ⟨by omega,h5.2.1,h5.2.2.2.1,h5.2.2.2.2,?_⟩
   have key:∀ (l:List Ps) (k:Option Nat),ckRow k l=true→∀ p∈l,p.off≤16777216∧p.len≤4096:=by
    intro l
    induction l with
    | nil=>intro k _ p hp;exact absurd hp List.not_mem_nil
    | cons q r ih=>
     intro k hk p hp
     unfold ckRow at hk
     simp only [Bool.and_eq_true] at hk
     rcases List.mem_cons.1 hp with rfl|hp
     ·have:=hk.1.1
      unfold ckPos at this
      simp only [Bool.and_eq_true,decide_eq_true_eq] at this
      exact ⟨this.1,this.2.1⟩
     ·exact ih _ hk.2 p hp
   exact key _ _ h4
  ·rw [if_neg h2] at h;cases h)
 have HHD:=Hd (ckHead_words c)
 have HBD:=Hd (show ckB c=(ckHead c ++ c.l.flatMap posB) ++ le 4 (sumOf (ckHead c ++ c.l.flatMap posB)).toNat from rfl)
 obtain ⟨G,hG⟩:∃ G,G=ckRight c:=⟨_,rfl⟩
 obtain ⟨BB,hBB⟩:∃ BB,BB=ckB c:=⟨_,rfl⟩
 rw [←hG] at HRI HG0 ⊢
 rw [←hBB] at HBD ⊢
 obtain ⟨RS,hRS⟩:∃ RS,RS=if G=0 then BB else []:=⟨_,rfl⟩
 rw [←hRS]
 have HRS:=Hd hRS
 clear hRS
 unfold ckV at HRI ⊢
 obtain ⟨H,hH⟩:∃ H,H=ckHead c:=⟨_,rfl⟩
 rw [←hH] at HHD HBD
 obtain ⟨vol,gen,upto,l⟩:=c
 simp only at HR HCK HRI HG0 HHD HBD hl ⊢
 obtain ⟨ln,hln⟩:∃ ln,ln=l.length:=⟨_,rfl⟩
 have HLN:=Hd hln
 rw [←hln] at HR HRI HG0 HHD hl ⊢
 clear hr hck hG hBB hH hln
 go_enter Tryz.func117,Tryz.ntmps117
 go_upto_region 1 with fail
 obtain ⟨w1,hw1⟩:∃ w1:World,w1=w.alloc (.cells #[.int .i64 vol,.int .i64 gen,.int .i64 upto,.slice a ln cap] 159):=⟨_,rfl⟩
 have HB1:=Hd (show Below w.heap.size w w1 by rw [hw1];exact belo)
 have KC1:=Hd (show w1.heap[w.heap.size]? = some (.cells #[.int .i64 vol,.int .i64 gen,.int .i64 upto,.slice a ln cap] 159 (0,0)) by rw [hw1];exact heap_new w _)
 rw [←hw1]
 clear hw1
 have hz1:=HB1.out.size
 obtain ⟨CB,hCB⟩:∃ CB,CB=w.heap.size:=⟨_,rfl⟩
 have hCB1:w.heap.size≤CB:=by omega
 rw [←hCB] at KC1 ⊢
 clear hCB
 obtain ⟨c0,c1,c2,c3⟩:=ncells KC1.out
 have hlc:=blk_lt KC1.out
 go_wp2_with fail
 refine (HRI.out w1 HB1.out).mono ?_
 rintro e w2 ⟨rfl,hb⟩
 have HB2:=Hd (HB1.out.trans (hb.mono hz1))
 have KC2:=Hd (blk_below' KC1.out hb)
 clear hb c0 c1 c2 c3 hlc
 by_cases hg:G=0
 case neg=>
  have HNE:=Hd (errV_ne (k:=(G:Int)) (by omega))
  have HGN:=Hd hg
  rw [HNE.out]
  clear hg
  go_wp2_with fail
  refine bodyPost_ret (v:=?_) ?_ rfl ?_
  rotate_left;(focus (simp [results,Tryz.results117,go_sem];exact rfl))
  rw [HRS.out,if_neg HGN.out]
  exact ReadTo.none (by rw [HNE.out]) HB2.out
 obtain ⟨b1,b2,b3,b4,b5⟩:=HG0.out hg
 have HPO:=Hd b5
 have HGZ:=Hd hg
 rw [hg,show errV ((0:Nat):Int)=.nilIface from rfl]
 clear hg b5
 go_upto_region 6 with fail
 obtain ⟨w3,hw3⟩:∃ w3:World,w3=w2.alloc (.cells #[.slice none 0 0] 47):=⟨_,rfl⟩
 have hb3:Below w2.heap.size w2 w3:=by rw [hw3];exact belo
 have HB3:=Hd (HB2.out.trans (hb3.mono HB2.out.size))
 have KB3:=Hd (show w3.heap[w2.heap.size]? = some (.cells #[.slice none 0 0] 47 (0,0)) by rw [hw3];exact heap_new w2 _)
 have KC3:=Hd (blk_below' KC2.out hb3)
 rw [←hw3]
 clear hw3 hb3
 have hz2:=HB2.out.size
 have hcb2:=blk_lt KC2.out
 obtain ⟨BK,hBK⟩:∃ BK,BK=w2.heap.size:=⟨_,rfl⟩
 rw [←hBK] at KB3 ⊢
 have hBKl:w.heap.size≤BK:=by omega
 have hCBK:CB<BK:=by omega
 clear hBK
 have HBU3:=Hd (show BufAt w3 w.heap.size BK [] from ⟨none,0,KB3.out,World.ownsRow_nil _ _ _ _,by simp [Value.ownBlock]⟩)
 obtain ⟨c0,c1,c2,c3⟩:=ncells KC3.out
 have hlc:=blk_lt KC3.out
 go_upto_region 7 with fail
 obtain ⟨w4,hw4⟩:∃ w4:World,w4=w3.alloc (.cells #[.int .i64 1128811344,.int .i64 vol,.int .i64 gen,.int .i64 upto,.int .i64 ln] 3):=⟨_,rfl⟩
 have hb4:Below w3.heap.size w3 w4:=by rw [hw4];exact belo
 have HB4:=Hd (HB3.out.trans (hb4.mono HB3.out.size))
 have KR4:=Hd (show w4.heap[w3.heap.size]? = some (.cells #[.int .i64 1128811344,.int .i64 vol,.int .i64 gen,.int .i64 upto,.int .i64 ln] 3 (0,0)) by rw [hw4];exact heap_new w3 _)
 have KC4:=Hd (blk_below' KC3.out hb4)
 have HBU4:=Hd (HBU3.out.below hb4)
 rw [←hw4]
 clear hw4 hb4 c0 c1 c2 c3 hlc
 have hz3:=HB3.out.size
 have hbk3:=blk_lt KB3.out
 obtain ⟨RB,hRB⟩:∃ RB,RB=w3.heap.size:=⟨_,rfl⟩
 rw [←hRB] at KR4 hbk3 ⊢
 have hRBl:w.heap.size≤RB:=by omega
 clear hRB
 obtain ⟨NS,hNS⟩:∃ NS:List Nat,NS=[1128811344,vol,gen,upto,ln]:=⟨_,rfl⟩
 have HNS:=Hd hNS
 have HNL:=Hd (show NS.length=5 by rw [hNS];rfl)
 have HNV:=Hd (show ∀ x∈NS,x<4294967296 by
  intro x hx
  rw [hNS] at hx
  simp only [List.mem_cons,List.not_mem_nil,or_false] at hx
  omega)
 have HNC:=Hd (show ∀ (i x:Nat),NS[i]? = some x→(#[.int .i64 1128811344,.int .i64 vol,.int .i64 gen,.int .i64 upto,.int .i64 ln]:Array Value)[i]? = some (.int .i64 x) by
  intro i x hx
  rw [hNS] at hx
  match i,hx with
  | 0,hx=>cases hx;rfl
  | 1,hx=>cases hx;rfl
  | 2,hx=>cases hx;rfl
  | 3,hx=>cases hx;rfl
  | 4,hx=>cases hx;rfl
  | n+5,hx=>simp at hx)
 clear hNS
 go_loopw [29] (fun i wr=>∃ k:Nat,k≤5∧i=.int .i64 k∧BufAt wr w.heap.size BK (wordsB (NS.take k))∧Keeps (fun j=>j=BK) w4 wr) (fun i _=>5 - (intOf i).toNat)
 case atStart=>exact ⟨0,by omega,rfl,HBU4.out,Keeps.refl _ _⟩
 case round=>
  obtain ⟨k,hk,rfl,hbu,hkp⟩:=hrel
  have HKP:=Hd hkp
  have HBU:=Hd hbu
  have hzr:=hkp.size
  have KRR:=Hd ((hkp.block RB (blk_lt KR4.out) (by omega)).trans KR4.out)
  have KCR:=Hd ((hkp.block CB (blk_lt KC4.out) (by omega)).trans KC4.out)
  have hz4:=HB4.out.size
  clear hkp hbu
  by_cases hlt:k<5
  ·obtain ⟨x,hx⟩:∃ x,NS[k]? = some x:=⟨_,List.getElem?_eq_getElem (by rw [HNL.out];exact hlt)⟩
   have hcx:wr.cell? ⟨RB,k,none⟩=some (.int .i64 x):=by
    rw [cell_of_row wr RB k _ _ _ KRR.out]
    exact HNC.out k x hx
   have hx4:=HNV.out x (List.mem_of_getElem? hx)
   have hwx:IntKind.u64.wrap (x:Int)=(x:Int):=by rw [IntKind.wrap_u64];omega
   have hE:wordsB (NS.take k) ++ le 4 x=wordsB (NS.take (k+1)):=by
    rw [←wordsB_snoc,List.take_add_one,hx]
    rfl
   have HCN:=Hd (cknum_any HBU.out (by omega) 4 x (.inl rfl) (Nat.lt_of_lt_of_le hx4 (by decide)) (by rw [wordsB_len,List.length_take];omega))
   rw [hE] at HCN
   have hj0:(0:Int)≤(k:Int):=by omega
   have hj1:(k:Int)<5:=by omega
   have hlr:=blk_lt KRR.out
   clear hx hE
   go_wp2_with fail
   refine (show Calls Tryz.prog 155 #[.int .u64 x,.int .i64 4,(.pointer (some ⟨BK,0,none⟩))] wr _ from HCN.out).mono ?_
   rintro e w5 ⟨rfl,hbu,hkp⟩
   have HBU5:=Hd hbu
   have HKP5:=Hd (HKP.out.trans hkp (fun _ _ e=>e))
   clear hbu hkp
   go_wp2_with fail
   go_roundw
   case rel=>exact ⟨k+1,by omega,by go_num,HBU5.out,HKP5.out⟩
   case measure=>simp [intOf];omega
  ·have hj1:¬ (k:Int)<5:=by omega
   obtain rfl:k=5:=by omega
   obtain ⟨wo,rfl⟩:∃ wo:World,wo=wr:=⟨_,rfl⟩
   have HBH:=Hd (show BufAt wo w.heap.size BK H from HBU.out.mono (by rw [HHD.out,List.take_of_length_le (by rw [HNL.out];omega),HNS.out]))
   have HBR:=Hd (show Below w.heap.size w wo from HB4.out.trans (HKP.out.below hz4 (fun j e=>by have e':j=BK:=e;omega)))
   have hHl:H.length=20:=by rw [HHD.out,wordsB_len];rfl
   obtain ⟨c0,c1,c2,c3⟩:=ncells KCR.out
   have hlc:=blk_lt KCR.out
   have hcr:CB<wo.heap.size:=hlc
   go_upto_region 12 with fail
   go_loopw [41] (fun i wx=>∃ k:Nat,k≤ln∧i=.int .i64 k∧BufAt wx w.heap.size BK (H ++ (l.take k).flatMap posB)∧Keeps (fun j=>j=BK) wo wx) (fun i _=>ln - (intOf i).toNat)
   case atStart=>exact ⟨0,Nat.zero_le _,rfl,HBH.out.mono (by simp),Keeps.refl _ _⟩
   case round=>
    obtain ⟨k,hk,rfl,hbu,hkp⟩:=hrel
    have HKX:=Hd hkp
    have HBX:=Hd hbu
    have HBW:=Hd (show Below w.heap.size w wr from HBR.out.trans (hkp.below HBR.out.size (fun j e=>by have e':j=BK:=e;omega)))
    have hzx:=HBW.out.size
    clear hbu hkp
    by_cases hlt2:k<ln
    ·obtain ⟨⟨pk,po,pl,pc,pg⟩,hp⟩:∃ p,l[k]? = some p:=⟨_,List.getElem?_eq_getElem (by rw [←HLN.out];exact hlt2)⟩
     obtain ⟨b,o,c',e,hb,r0,r1,r2,r3,r4⟩:=ps_cells (HR.out.below HBW.out) hp (by omega)
     obtain ⟨rfl,-,rfl⟩:=sl_inj e
     simp only at r0 r1 r2 r3 r4
     have hm:=List.mem_of_getElem? hp
     have q1:=(HCK.out _ hm).1
     have q2:=(HCK.out _ hm).2
     have q3:=(HPO.out _ hm).1
     have q4:=(HPO.out _ hm).2
     simp only at q1 q2 q3 q4
     have HPT:=Hd (pos_take l k _ hp)
     have hpl:(H ++ (l.take k).flatMap posB).length≤200000:=by
      rw [List.length_append,hHl,posBs_len,List.length_take]
      omega
     obtain ⟨BS,hBS⟩:∃ BS,BS=H ++ (l.take k).flatMap posB:=⟨_,rfl⟩
     rw [←hBS] at HBX hpl
     have HBS:=Hd hBS
     have hj0:(0:Int)≤(k:Int):=by omega
     have hj1:(k:Int)<(ln:Int):=by omega
     clear hp e hm hBS
     go_upto_region 14 with fail
     obtain ⟨u0,hu0⟩:∃ u0:World,u0=wr.alloc (.cells #[.int .u64 pk,.int .i64 po,.int .i64 pl,.int .u32 pc,.bool pg] 152):=⟨_,rfl⟩
     have hb0:Below wr.heap.size wr u0:=by rw [hu0];exact belo
     have KP0:=Hd (show u0.heap[wr.heap.size]? = some (.cells #[.int .u64 pk,.int .i64 po,.int .i64 pl,.int .u32 pc,.bool pg] 152 (0,0)) by rw [hu0];exact heap_new wr _)
     have HB0:=Hd (HBX.out.below hb0)
     have HK0:=Hd (show Keeps (fun j=>j=BK) wo u0 from HKX.out.trans (keeps_below _ hb0) (fun _ _ e=>e))
     rw [←hu0]
     have hbx:=HBX.out.lt
     have hz0:w.heap.size≤u0.heap.size:=Nat.le_trans hzx hb0.size
     clear hu0 hb0 r0 r1 r2 r3 r4 hb
     obtain ⟨PB,hPB⟩:∃ PB,PB=wr.heap.size:=⟨_,rfl⟩
     rw [←hPB] at KP0 hbx ⊢
     clear hPB
     have hw1:IntKind.u64.wrap (po:Int)=(po:Int):=by rw [IntKind.wrap_u64];omega
     have hw2:IntKind.u64.wrap (pl:Int)=(pl:Int):=by rw [IntKind.wrap_u64];omega
     have hw3:IntKind.u64.wrap (pc:Int)=(pc:Int):=by rw [IntKind.wrap_u64];omega
     cases pg with
     | false=>
      obtain ⟨p0,p1,p2,p3,p4⟩:=pcells KP0.out
      have hlp:=blk_lt KP0.out
      have HC0:=Hd (cknum_any HB0.out hz0 8 pk (.inr rfl) (by have e4:(256:Nat) ^ 8=18446744073709551616:=rfl;omega) (by first|omega|(simp only [List.length_append,le_len];omega)))
      go_wp2_with fail
      refine (show Calls Tryz.prog 155 #[.int .u64 pk,.int .i64 8,(.pointer (some ⟨BK,0,none⟩))] u0 _ from HC0.out).mono ?_
      rintro e u1 ⟨rfl,hbu,hkp⟩
      have HB1:=Hd hbu
      have HK1:=Hd (HK0.out.trans hkp (fun _ _ e=>e))
      have KP1:=Hd ((hkp.block PB (blk_lt KP0.out) (by omega)).trans KP0.out)
      have hz1:=Nat.le_trans hz0 hkp.size
      clear hbu hkp p0 p1 p2 p3 p4 hlp
      have HC1:=Hd (cknum_any HB1.out hz1 4 po (.inl rfl) (by have e4:(256:Nat) ^ 4=4294967296:=rfl;omega) (by first|omega|(simp only [List.length_append,le_len];omega)))
      obtain ⟨p0,p1,p2,p3,p4⟩:=pcells KP1.out
      have hlp:=blk_lt KP1.out
      go_wp2_with fail
      refine (show Calls Tryz.prog 155 #[.int .u64 po,.int .i64 4,(.pointer (some ⟨BK,0,none⟩))] u1 _ from HC1.out).mono ?_
      rintro e u2 ⟨rfl,hbu,hkp⟩
      have HB2:=Hd hbu
      have HK2:=Hd (HK1.out.trans hkp (fun _ _ e=>e))
      have KP2:=Hd ((hkp.block PB (blk_lt KP1.out) (by omega)).trans KP1.out)
      have hz2:=Nat.le_trans hz1 hkp.size
      clear hbu hkp p0 p1 p2 p3 p4 hlp
      have HC2:=Hd (cknum_any HB2.out hz2 4 pl (.inl rfl) (by have e4:(256:Nat) ^ 4=4294967296:=rfl;omega) (by first|omega|(simp only [List.length_append,le_len];omega)))
      obtain ⟨p0,p1,p2,p3,p4⟩:=pcells KP2.out
      have hlp:=blk_lt KP2.out
      go_wp2_with fail
      refine (show Calls Tryz.prog 155 #[.int .u64 pl,.int .i64 4,(.pointer (some ⟨BK,0,none⟩))] u2 _ from HC2.out).mono ?_
      rintro e u3 ⟨rfl,hbu,hkp⟩
      have HB3:=Hd hbu
      have HK3:=Hd (HK2.out.trans hkp (fun _ _ e=>e))
      have KP3:=Hd ((hkp.block PB (blk_lt KP2.out) (by omega)).trans KP2.out)
      have hz3:=Nat.le_trans hz2 hkp.size
      clear hbu hkp p0 p1 p2 p3 p4 hlp
      have HC3:=Hd (cknum_any HB3.out hz3 4 pc (.inl rfl) (by have e4:(256:Nat) ^ 4=4294967296:=rfl;omega) (by first|omega|(simp only [List.length_append,le_len];omega)))
      obtain ⟨p0,p1,p2,p3,p4⟩:=pcells KP3.out
      have hlp:=blk_lt KP3.out
      go_wp2_with fail
      refine (show Calls Tryz.prog 155 #[.int .u64 pc,.int .i64 4,(.pointer (some ⟨BK,0,none⟩))] u3 _ from HC3.out).mono ?_
      rintro e u4 ⟨rfl,hbu,hkp⟩
      have HB4:=Hd hbu
      have HK4:=Hd (HK3.out.trans hkp (fun _ _ e=>e))
      have KP4:=Hd ((hkp.block PB (blk_lt KP3.out) (by omega)).trans KP3.out)
      have hz4:=Nat.le_trans hz3 hkp.size
      clear hbu hkp p0 p1 p2 p3 p4 hlp
      have HC4:=Hd (cknum_any HB4.out hz4 4 0 (.inl rfl) (by have e4:(256:Nat) ^ 4=4294967296:=rfl;omega) (by first|omega|(simp only [List.length_append,le_len];omega)))
      obtain ⟨p0,p1,p2,p3,p4⟩:=pcells KP4.out
      have hlp:=blk_lt KP4.out
      go_wp2_with fail
      refine (show Calls Tryz.prog 155 #[.int .u64 0,.int .i64 4,(.pointer (some ⟨BK,0,none⟩))] u4 _ from HC4.out).mono ?_
      rintro e u5 ⟨rfl,hbu,hkp⟩
      have HB5:=Hd hbu
      have HK5:=Hd (HK4.out.trans hkp (fun _ _ e=>e))
      have KP5:=Hd ((hkp.block PB (blk_lt KP4.out) (by omega)).trans KP4.out)
      have hz5:=Nat.le_trans hz4 hkp.size
      clear hbu hkp p0 p1 p2 p3 p4 hlp
      go_wp2_with fail
      go_roundw
      case rel=>
       refine ⟨k+1,by omega,by go_num,HB5.out.mono ?_,HK5.out⟩
       rw [HPT.out,HBS.out]
       simp [posB,List.append_assoc]
      case measure=>simp [intOf];omega
     | true=>
      obtain ⟨p0,p1,p2,p3,p4⟩:=pcells KP0.out
      have hlp:=blk_lt KP0.out
      have HC0:=Hd (cknum_any HB0.out hz0 8 pk (.inr rfl) (by have e4:(256:Nat) ^ 8=18446744073709551616:=rfl;omega) (by first|omega|(simp only [List.length_append,le_len];omega)))
      go_wp2_with fail
      refine (show Calls Tryz.prog 155 #[.int .u64 pk,.int .i64 8,(.pointer (some ⟨BK,0,none⟩))] u0 _ from HC0.out).mono ?_
      rintro e u1 ⟨rfl,hbu,hkp⟩
      have HB1:=Hd hbu
      have HK1:=Hd (HK0.out.trans hkp (fun _ _ e=>e))
      have KP1:=Hd ((hkp.block PB (blk_lt KP0.out) (by omega)).trans KP0.out)
      have hz1:=Nat.le_trans hz0 hkp.size
      clear hbu hkp p0 p1 p2 p3 p4 hlp
      have HC1:=Hd (cknum_any HB1.out hz1 4 po (.inl rfl) (by have e4:(256:Nat) ^ 4=4294967296:=rfl;omega) (by first|omega|(simp only [List.length_append,le_len];omega)))
      obtain ⟨p0,p1,p2,p3,p4⟩:=pcells KP1.out
      have hlp:=blk_lt KP1.out
      go_wp2_with fail
      refine (show Calls Tryz.prog 155 #[.int .u64 po,.int .i64 4,(.pointer (some ⟨BK,0,none⟩))] u1 _ from HC1.out).mono ?_
      rintro e u2 ⟨rfl,hbu,hkp⟩
      have HB2:=Hd hbu
      have HK2:=Hd (HK1.out.trans hkp (fun _ _ e=>e))
      have KP2:=Hd ((hkp.block PB (blk_lt KP1.out) (by omega)).trans KP1.out)
      have hz2:=Nat.le_trans hz1 hkp.size
      clear hbu hkp p0 p1 p2 p3 p4 hlp
      have HC2:=Hd (cknum_any HB2.out hz2 4 pl (.inl rfl) (by have e4:(256:Nat) ^ 4=4294967296:=rfl;omega) (by first|omega|(simp only [List.length_append,le_len];omega)))
      obtain ⟨p0,p1,p2,p3,p4⟩:=pcells KP2.out
      have hlp:=blk_lt KP2.out
      go_wp2_with fail
      refine (show Calls Tryz.prog 155 #[.int .u64 pl,.int .i64 4,(.pointer (some ⟨BK,0,none⟩))] u2 _ from HC2.out).mono ?_
      rintro e u3 ⟨rfl,hbu,hkp⟩
      have HB3:=Hd hbu
      have HK3:=Hd (HK2.out.trans hkp (fun _ _ e=>e))
      have KP3:=Hd ((hkp.block PB (blk_lt KP2.out) (by omega)).trans KP2.out)
      have hz3:=Nat.le_trans hz2 hkp.size
      clear hbu hkp p0 p1 p2 p3 p4 hlp
      have HC3:=Hd (cknum_any HB3.out hz3 4 pc (.inl rfl) (by have e4:(256:Nat) ^ 4=4294967296:=rfl;omega) (by first|omega|(simp only [List.length_append,le_len];omega)))
      obtain ⟨p0,p1,p2,p3,p4⟩:=pcells KP3.out
      have hlp:=blk_lt KP3.out
      go_wp2_with fail
      refine (show Calls Tryz.prog 155 #[.int .u64 pc,.int .i64 4,(.pointer (some ⟨BK,0,none⟩))] u3 _ from HC3.out).mono ?_
      rintro e u4 ⟨rfl,hbu,hkp⟩
      have HB4:=Hd hbu
      have HK4:=Hd (HK3.out.trans hkp (fun _ _ e=>e))
      have KP4:=Hd ((hkp.block PB (blk_lt KP3.out) (by omega)).trans KP3.out)
      have hz4:=Nat.le_trans hz3 hkp.size
      clear hbu hkp p0 p1 p2 p3 p4 hlp
      have HC4:=Hd (cknum_any HB4.out hz4 4 1 (.inl rfl) (by have e4:(256:Nat) ^ 4=4294967296:=rfl;omega) (by first|omega|(simp only [List.length_append,le_len];omega)))
      obtain ⟨p0,p1,p2,p3,p4⟩:=pcells KP4.out
      have hlp:=blk_lt KP4.out
      go_wp2_with fail
      refine (show Calls Tryz.prog 155 #[.int .u64 1,.int .i64 4,(.pointer (some ⟨BK,0,none⟩))] u4 _ from HC4.out).mono ?_
      rintro e u5 ⟨rfl,hbu,hkp⟩
      have HB5:=Hd hbu
      have HK5:=Hd (HK4.out.trans hkp (fun _ _ e=>e))
      have KP5:=Hd ((hkp.block PB (blk_lt KP4.out) (by omega)).trans KP4.out)
      have hz5:=Nat.le_trans hz4 hkp.size
      clear hbu hkp p0 p1 p2 p3 p4 hlp
      go_wp2_with fail
      go_roundw
      case rel=>
       refine ⟨k+1,by omega,by go_num,HB5.out.mono ?_,HK5.out⟩
       rw [HPT.out,HBS.out]
       simp [posB,List.append_assoc]
      case measure=>simp [intOf];omega
    ·have hj1:¬ (k:Int)<(ln:Int):=by omega
     obtain rfl:k=ln:=by omega
     have HBE:=Hd (show BufAt wr w.heap.size BK (H ++ l.flatMap posB) from HBX.out.mono (by rw [HLN.out,List.take_length]))
     have hel:(H ++ l.flatMap posB).length≤100000:=by rw [List.length_append,hHl,posBs_len,←HLN.out];omega
     obtain ⟨ES,hES⟩:∃ ES,ES=H ++ l.flatMap posB:=⟨_,rfl⟩
     rw [←hES] at HBE HBD hel
     clear hES
     obtain ⟨a9,c9,g1,g2⟩:=HBE.out.reads
     have HSE:=Hd (seal_any _ ES wr g2 hel)
     have hlb:=HBE.out.lt
     clear g2
     go_wp2_with fail
     refine HSE.out.mono ?_
     rintro e w9 ⟨v9,rfl,ho,hb⟩
     obtain ⟨ae,ce,rfl,hce⟩:=slice_of ho
     have HO:=Hd ho
     have HBF:=Hd (HBW.out.trans (hb.mono HBW.out.size))
     clear ho hb
     go_wp2_with fail
     refine bodyPost_ret (v:=?_) ?_ rfl ?_
     rotate_left;(focus (simp [results,Tryz.results117,go_sem];exact rfl))
     rw [HRS.out,if_pos HGZ.out,HGZ.out,HBD.out]
     exact ⟨_,rfl,by simpa using ownsRow_mono HO.out HBW.out.size,HBF.out⟩
end Go.Proofs.YtfpjfoajonbndaaGreatDoor
