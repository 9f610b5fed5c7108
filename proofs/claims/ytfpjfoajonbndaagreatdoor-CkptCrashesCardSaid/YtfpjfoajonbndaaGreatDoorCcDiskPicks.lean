import Derived.Test.YtfpjfoajonbndaaGreatDoorCc7
import Derived.Test.YtfpjfoajonbndaaGreatDoorCc2
import Derived.Deep.AppendLies
import Derived.IntWalk
namespace Go.Proofs.YtfpjfoajonbndaaGreatDoor
set_option maxHeartbeats 8000000
set_option maxRecDepth 100000
open Go.RowKit
set_option maxRecDepth 100000
set_option maxHeartbeats 8000000
open Go.RowKit
theorem take_snoc_at{α:Type}(l:List α)(k:Nat)(x:α)(hx:l[k]? = some x):l.take (k+1)=l.take k ++ [x]:=by
 obtain ⟨hk,hx'⟩:=List.getElem?_eq_some_iff.1 hx
 rw [List.take_succ_eq_append_getElem hk,hx']
theorem reads_at{w:World}{sz:Nat}{v:Value}{n:Nat}{xs:List Value}(h:Reads w sz v n xs)(hn:0<n)(hz:0<sz) :
  ∃ b o c,v=.slice (some ⟨b,o,none⟩) n c∧b<w.heap.size∧n≤maxLen∧∀ (j:Nat) (u:Value),xs[j]? = some u→w.cell? ⟨b,o+j,none⟩=some u:=by
 obtain ⟨hl,⟨_,h0⟩|⟨a,c,rfl,hm,hc⟩⟩:=h
 ·omega
 ·have hpos:0<xs.length:=by rw [hl];exact Nat.mul_pos hn hz
  have h0:xs[0]? = some xs[0]:=List.getElem?_eq_getElem hpos
  have h1:=hc 0 _ h0
  have ha:a=⟨a.block,a.off,none⟩:=spot_none (by simpa [Addr.add] using h1)
  have hb:=World.block_lt_of_cell? w _ h1
  refine ⟨a.block,a.off,c,by rw [←ha],by simpa [Addr.add] using hb,hm,fun j u hu=>?_⟩
  have h2:=hc j u hu
  have e:a.add j=⟨a.block,a.off+j,none⟩:=by
   rw [ha]
   unfold Addr.add
   split
   ·rename_i hz;rw [hz];rfl
   ·rfl
  rw [←e]
  exact h2
theorem pick_at{w:World}{v:Value}{n:Nat}{fs:List DPick}(h:Reads w 2 v n (fs.flatMap DPick.row)){k:Nat}{x:DPick}(hx:fs[k]? = some x)(hn:0<n) :
  ∃ b o c,v=.slice (some ⟨b,o,none⟩) n c∧b<w.heap.size∧w.cell? ⟨b,o+k * 2,none⟩=some (.int .i64 x.keep)∧w.cell? ⟨b,o+k * 2+1,none⟩=some (.int .u8 x.turn.toNat):=by
 obtain ⟨b,o,c,e,h1,_,h2⟩:=reads_at h hn (by omega)
 refine ⟨b,o,c,e,h1,h2 (k * 2) _ ?_,h2 (k * 2+1) _ ?_⟩
 ·have:=getElem?_flatMap_row DPick.row 2 DPick.row_len fs k 0 (by omega)
  simp only [Nat.add_zero] at this
  rw [this,hx]
  rfl
 ·have:=getElem?_flatMap_row DPick.row 2 DPick.row_len fs k 1 (by omega)
  rw [this,hx]
  rfl
theorem picks_any(nm:Int)(fs:List DPick)(af:Option Addr)(n cf:Nat)(w:World)(hl:fs.length=n)(hn:n≤1000)(hp:Reads w 2 (.slice af n cf) n (fs.flatMap DPick.row)) :
  Calls Tryz.prog 19 #[.agg #[.int .i64 nm,.slice af n cf]] w fun e w'=>∃ v,e=.returned (.agg #[.int .i64 nm,v])∧w'.ownsRow w.heap.size 136 2 v n (fs.flatMap DPick.row)∧Below w.heap.size w w':=by
 have HL:=Hd hl
 have HP:=Hd hp
 clear hl hp
 obtain ⟨i0,hi,hz0,hz1,hz2⟩:=info_parts pick_info
 have HI:=Hd hi
 have HZ0:=Hd hz0
 have HZ1:=Hd hz1
 have HZ2:=Hd hz2
 clear hi hz0 hz1 hz2
 go_enter Tryz.func19,Tryz.ntmps19
 go_wp2_with fail
 go_loopw [4] (fun i wr=>∃(k:Nat)(v:Value),k≤n∧i=.int .i64 k∧wr.heap[w.heap.size]? = some (.cells #[.int .i64 nm,.slice af n cf] 25 (0,0))∧wr.heap[w.heap.size+1]? = some (.cells #[.int .i64 0,.slice none 0 0] 57 (0,0))∧wr.heap[w.heap.size+2]? = some (.cells #[.int .i64 nm,v] 57 (0,0))∧wr.ownsRow (w.heap.size+3) 136 2 v k ((fs.take k).flatMap DPick.row)∧Below w.heap.size w wr∧w.heap.size+3≤wr.heap.size) (fun i _=>n - (intOf i).toNat)
 case atStart=>exact ⟨0,.slice none 0 0,Nat.zero_le _,rfl,(by repeat (first|(with_reducible refine blk_drew ?_)|(with_reducible refine blk_drewN _ ?_)|((with_reducible refine blk_new _ ?_);(focus (simp;done)))|(with_reducible refine blk_alloc ?_ _))),(by repeat (first|(with_reducible refine blk_drew ?_)|(with_reducible refine blk_drewN _ ?_)|((with_reducible refine blk_new _ ?_);(focus (simp;done)))|(with_reducible refine blk_alloc ?_ _))),(by repeat (first|(with_reducible refine blk_drew ?_)|(with_reducible refine blk_drewN _ ?_)|((with_reducible refine blk_new _ ?_);(focus (simp;done)))|(with_reducible refine blk_alloc ?_ _))),World.ownsRow_nil _ _ _ _,belo,(by first|omega|(simp;done)|(simp;omega))⟩
 case round=>
  obtain ⟨k,v,hk,rfl,hb0,hb1,hb2,hown,hbw,hsz⟩:=hrel
  obtain ⟨av,cv,hv⟩:=ownsRow_len hown
  subst hv
  have HB0:=Hd hb0
  have HB1:=Hd hb1
  have HB2:=Hd hb2
  have HO:=Hd hown
  have HBW:=Hd hbw
  obtain ⟨x0,x1⟩:wr.cell? ⟨w.heap.size,0,none⟩=some (.int .i64 nm)∧wr.cell? ⟨w.heap.size,1,none⟩=some (.slice af n cf):=by
   have e:=fun j=>cell_of_row wr w.heap.size j _ _ _ hb0
   exact ⟨e 0,e 1⟩
  obtain ⟨y0,y1⟩:wr.cell? ⟨w.heap.size+1,0,none⟩=some (.int .i64 0)∧wr.cell? ⟨w.heap.size+1,1,none⟩=some (.slice none 0 0):=by
   have e:=fun j=>cell_of_row wr (w.heap.size+1) j _ _ _ hb1
   exact ⟨e 0,e 1⟩
  have yf:=frozen_of_row wr (w.heap.size+1) 0 _ _ hb1
  have yf1:=frozen_of_row wr (w.heap.size+1) 1 _ _ hb1
  have zf:=frozen_of_row wr (w.heap.size+2) 0 _ _ hb2
  have zf1:=frozen_of_row wr (w.heap.size+2) 1 _ _ hb2
  obtain ⟨z0,z1⟩:wr.cell? ⟨w.heap.size+2,0,none⟩=some (.int .i64 nm)∧wr.cell? ⟨w.heap.size+2,1,none⟩=some (.slice av k cv):=by
   have e:=fun j=>cell_of_row wr (w.heap.size+2) j _ _ _ hb2
   exact ⟨e 0,e 1⟩
  clear hb0 hb1 hb2 hown hbw
  have hl0:w.heap.size<wr.heap.size:=by omega
  have hl2:w.heap.size+2<wr.heap.size:=by omega
  have hl1:w.heap.size+1<wr.heap.size:=by omega
  by_cases hlt:k<n
  ·obtain ⟨x,hx⟩:∃ x,fs[k]? = some x:=⟨_,List.getElem?_eq_getElem (by rw [HL.out];exact hlt)⟩
   obtain ⟨b,o,c,e,hbl,q0,q1⟩:=pick_at (HP.out.below HBW.out) hx (by omega)
   obtain ⟨e1,-,e3⟩:=sl_inj e
   subst e1 e3
   have HTK:=Hd (take_snoc_at fs k x hx)
   have hne:(Value.slice av k cv).ownBlock≠some (w.heap.size+2):=fun e=>by have:=(HO.out.lt _ e).1;omega
   have HNE:=Hd hne
   clear hx e hne
   have hk0:(0:Int)≤(k:Int):=by omega
   have hk1:(k:Int)<(n:Int):=by omega
   obtain ⟨xk,xt⟩:=x
   simp only at q0 q1
   go_wp2_with fail
   refine wp_region_order (fun w'=>w'.cell? ⟨w.heap.size+2,1,none⟩=some (.slice av k cv)∧w'.cell? ⟨w.heap.size,1,none⟩=some (.slice (some ⟨b,o,none⟩) n cf)∧w'.cell? ⟨b,o+k * 2,none⟩=some (.int .i64 xk)∧w'.cell? ⟨b,o+k * 2+1,none⟩=some (.int .u8 xt.toNat)) [1,3,6] [(0,0),(1,2),(2,0),(3,2),(4,0),(5,0),(6,2),(7,1),(8,1),(9,0),(10,1)] (by kernel_rfl) (by kernel_rfl) rfl (by kernel_rfl) (fun c a d v w h=>by cases d <;> exact h) ?_ ?_
   (focus (exact ⟨z1,x1,q0,q1⟩));refine stepE0 rfl rfl fun K hK=>?_;go_simp;refine hK _ ?_;clear hK K;refine stepE2 rfl rfl ?_ (fun w1 hS=>?_) fun K hK=>?_;rotate_left;(focus (obtain ⟨s0,s1,s2,s3⟩:=hS;go_simp;rfl));go_simp;refine hK _ ?_;clear hK K;refine stepE0 rfl rfl fun K hK=>?_;go_simp;refine hK _ ?_;clear hK K;refine stepE2 rfl rfl ?_ (fun w1 hS=>?_) fun K hK=>?_;rotate_left;(focus (obtain ⟨s0,s1,s2,s3⟩:=hS;go_simp;rfl));go_simp;refine hK _ ?_;clear hK K;(iterate 2 refine stepE0 rfl rfl fun K hK=>?_;go_simp;refine hK _ ?_;clear hK K);refine stepE2 rfl rfl ?_ (fun w1 hS=>?_) fun K hK=>?_;rotate_left;(focus (obtain ⟨s0,s1,s2,s3⟩:=hS;go_simp;rfl));go_simp;refine hK _ ?_;clear hK K;refine stepE1S rfl rfl fun K hK=>?_;go_wp2
   refine ⟨by refine ⟨?_,?_,?_,?_⟩ <;> go_simp,?_⟩
   refine stepE1 rfl rfl (by kernel_rfl) fun K hK=>?_
   (refine wp_append_lies _ _ _ 55 rfl (w.heap.size+3) 136 i0 (.agg #[.int .i64 0,.int .u8 0]) 2 16 Tryz.underlying55 HI.out HZ0.out HZ1.out HZ2.out rfl (by decide) (.slice av k cv) k _ rfl ((HO.out.alloc _).drew) ⟨wr.heap.size,0,none⟩ 1 1 [.int .i64 xk,.int .u8 xt.toNat] rfl rfl (World.news_of_block (cs:=#[.int .i64 xk,.int .u8 xt.toNat]) (t:=136) (fr:=(0,0)) (heap_alloc_new wr _)) (by simp [Value.oneCell']) (by omega) (by unfold maxLen;omega) (by omega) (by simp;omega) _ rfl ?_;intro gg cap2 w2 hown2 hgrow hat hlt2;have kc2:w2.cell? ⟨w.heap.size+2,1,none⟩=some (.slice av k cv):=(grown_cell hgrow (by simp;omega) HNE.out).trans (by go_simp);have kf2:w2.frozen? ⟨w.heap.size+2,1,none⟩=false:=(grown_frozen hgrow (by simp;omega) HNE.out).trans (by go_simp);go_wp2)
   refine stepE0 rfl rfl fun K hK=>?_;go_simp;refine hK _ ?_;clear hK K;refine stepE1 rfl rfl (by kernel_rfl) fun K hK=>?_;go_wp2
   try refine stepEnil ?_
   go_wp2_with fail
   have hs2:wr.heap.size≤w2.heap.size:=by have:=hgrow.size;simp at this;omega
   have hk2:∀ j X,j<w.heap.size+3→wr.heap[j]? = some X→w2.heap[j]? = some X:=fun j X hj hX=>(hgrow.block j (by simp;omega) (fun e=>by have:=(HO.out.lt _ e.symm).1;omega)).trans (by exact blk_alloc hX _)
   have HK2:=Hd hk2
   have HW2:=Hd hown2
   have HG2:=Hd hgrow
   clear hk2 hown2 hgrow
   go_roundw
   case rel=>
    refine ⟨k+1,.slice (some ⟨gg,0,none⟩) (k+1) cap2,by omega,by go_num,?_,?_,?_,?_,?_,?_⟩
    ·exact blk_set (HK2.out _ _ (by omega) HB0.out) _ _ (by simp;omega)
    ·exact blk_set (HK2.out _ _ (by omega) HB1.out) _ _ (by simp)
    ·exact blk_put (HK2.out _ _ (by omega) HB2.out) 1 _
    ·have:=HW2.out
     rw [HTK.out,List.flatMap_append]
     refine ownsRow_at (by simpa [DPick.row] using this) fun g hg=>Below.heap_setCell w2 _ _ g (fun e=>by have:=(HW2.out.lt g hg).1;simp at e;omega)
    ·exact Below.setCell (Below.grown (Below.drew (HBW.out.alloc (by omega) _)) HG2.out (by simp;omega) (fun g e=>by have:=(HO.out.lt _ e).1;omega)) (by simp;omega) _
    ·simp;omega
   case measure=>simp [intOf];omega
  ·have hkn:k=n:=by omega
   subst hkn
   have HFS:=Hd (show fs.take k=fs from List.take_of_length_le (by rw [HL.out];exact Nat.le_refl _))
   go_wp2_with fail
   refine bodyPost_ret (v:=?_) ?_ rfl ?_
   rotate_left;(focus (simp [results,Tryz.results19,go_sem,y0,y1,hl1];exact rfl))
   refine ⟨_,rfl,?_,?_⟩
   ·have:=HO.out
    rw [HFS.out] at this
    refine ownsRow_mono (ownsRow_at this fun g hg=>?_) (by omega)
    have h9:=(HO.out.lt g hg).1
    exact (Below.heap_setCell _ _ _ g (by simp;omega)).trans (Below.heap_setCell _ _ _ g (by simp;omega))
   ·exact Below.setCell (Below.setCell HBW.out (by simp) _) (by simp) _
end Go.Proofs.YtfpjfoajonbndaaGreatDoor
