import Derived.Test.YtfpjfoajonbndaaGreatDoorCh5
import Derived.Test.YtfpjfoajonbndaaGreatDoorChBytesClone
import Derived.IntWalk
import Derived.Laws.BitsAllLaws
namespace Go.Proofs.YtfpjfoajonbndaaGreatDoor
set_option maxHeartbeats 8000000
set_option maxRecDepth 100000
open Go.RowKit
set_option maxRecDepth 100000
set_option maxHeartbeats 8000000
open Go.RowKit Go.Maps
theorem append_any(d:Nat)(F:Nat→Prop)(q:DW)(st:Dk)(s:Nm)(vb:Value)(b:List UInt8)(K:Nat)(w:World)(h:DiskAt w d F q st)(hok:DkOk K st)(hs:s.length≤maxLen)(hr:Reads w 1 vb b.length (b.map bv)) :
  Calls Tryz.prog 91 #[(.pointer (some ⟨d,0,none⟩)),.string ⟨s.toArray⟩,vb] w fun e w'=>e=.returned (errV (st.append s b).1)∧DiskTo w w' d F (st.append s b).2:=by
 have H:=Hd h
 have HOK:=Hd hok
 have HR:=Hd hr
 have hbl:=hr.le
 unfold maxLen at hbl
 obtain ⟨ab,cb,rfl⟩:=reads_len hr
 clear hr
 by_cases hf:(st.fnd s).1=0
 ·obtain ⟨i,hi⟩:∃ i,i=(st.fnd s).2:=⟨_,rfl⟩
  have hil:i<st.files.length:=by rw [hi];exact hok.fnd (by rw [hf];simp)
  have HF:=Hd hf
  have HI:=Hd hi
  obtain ⟨h1,h2⟩:=h.file hil
  have H1:=Hd h1
  have H2:=Hd h2
  obtain ⟨a,c,hv,-⟩:=h2.len
  have HV:=Hd hv
  obtain ⟨c0,c1,c2,cf⟩:=cells3 h1
  rw [hv] at c1
  obtain ⟨e0,e1,e2,e3,e4,e5,ef⟩:=cells6 h.blk
  have hff:=(h.files.ff i hil).1
  have hle:=(hok.at i).2
  obtain ⟨n,hn⟩:∃ n,n=(st.fileAt i).b.length:=⟨_,rfl⟩
  have HN:=Hd hn
  rw [←hn] at c1 hle
  have hdl:=blk_lt h.blk
  have hfl:=blk_lt h1
  by_cases hlong:16777216<n+b.length
  ·have e:st.append s b=(2,st):=by
    unfold Dk.append
    rw [if_neg (by rw [hf];simp),←hi,←hn,if_pos hlong]
   rw [e]
   have ht:decide ((16777216:Int) - (n:Int)<(b.length:Int))=true:=by simp;omega
   clear e hf h hok h1 h2 c0 hv hi hn e0 e1 e2 e3 e4 e5 ef c2 hlong
   go_enter Tryz.func91,Tryz.ntmps91
   go_wp2_with fail
   refine (find_any d F q st s _ H.out hs).mono ?_
   rintro e w' ⟨rfl,rfl⟩
   rw [if_pos HF.out,HF.out,Int.natCast_zero,errV_zero,←HI.out]
   go_wp2_with fail
   go_ret
   exact ⟨rfl,H.out.same⟩
  have ht:decide ((16777216:Int) - (n:Int)<(b.length:Int))=false:=by simp;omega
  by_cases hfull:st.cap<st.used+b.length
  ·have e:st.append s b=(11,st):=by
    unfold Dk.append
    rw [if_neg (by rw [hf];simp),←hi,←hn,if_neg hlong,if_pos hfull]
   rw [e]
   have hcap:=hok.cap
   have hu:st.used≤64 * 16777216:=Nat.le_trans (by
    have:=seenSum_le (fun i=>(st.fileAt i).b.length) 16777216 (fun i=>(hok.at i).2) (fun _=>false) st.now
    rw [seenSum_all] at this
    exact this) (Nat.mul_le_mul_right 16777216 hok.lnow)
   have hwr:IntKind.i64.wrap ((st.cap:Int) - (st.used:Int))=(st.cap:Int) - (st.used:Int):=IntWalk.i64_in _ (by omega)
   have ht2:decide ((st.cap:Int) - (st.used:Int)<(b.length:Int))=true:=by simp;omega
   clear e hf h hok h1 h2 c0 hv hi hn e1 e2 e3 e4 e5 ef c2 hlong hfull
   go_enter Tryz.func91,Tryz.ntmps91
   go_wp2_with fail
   refine (find_any d F q st s _ H.out hs).mono ?_
   rintro e w' ⟨rfl,rfl⟩
   rw [if_pos HF.out,HF.out,Int.natCast_zero,errV_zero,←HI.out]
   go_wp2_with fail
   obtain ⟨SS,HSD⟩:∃ SS:World→Prop,Hid (SS=fun w'=>w'.cell? ⟨d,0,none⟩=some (.int .i64 st.cap)):=⟨_,Hd rfl⟩
   refine wp_region_order0 SS [5] [(0,0),(1,0),(2,0),(3,0),(4,0),(5,2),(6,0),(7,1),(8,0),(9,0),(10,0)] (by kernel_rfl) (by kernel_rfl) rfl (by kernel_rfl) ?_ ?_
   (focus (rw [HSD.out];exact e0));(iterate 5 refine stepE0 rfl rfl fun K hK=>?_;go_simp;refine hK _ ?_;clear hK K);refine stepE2 rfl rfl ?_ (fun w1 hS=>?_) fun K hK=>?_;rotate_left;(focus (rw [HSD.out] at hS;have c0':=hS;go_simp;rfl));go_simp;refine hK _ ?_;clear hK K;refine stepE0 rfl rfl fun K hK=>?_;go_simp;refine hK _ ?_;clear hK K;refine stepE1S rfl rfl fun K hK=>?_
   (go_wp2_with fail;refine Calls.mono (used_any d F q st _ _ (H.out.below belo) HOK.out) ?_;rintro e w5 ⟨rfl,hu5⟩;have HU:=Hd hu5;clear hu5;go_wp2)
   refine ⟨by rw [HSD.out];exact ((HU.out.cell (p:=⟨d,0,none⟩) hdl).trans e0),?_⟩
   (iterate 3 refine stepE0 rfl rfl fun K hK=>?_;go_simp;refine hK _ ?_;clear hK K)
   try refine stepEnil0 ?_
   clear HSD SS
   go_wp2_with fail
   go_ret
   exact ⟨rfl,H.out.later (show Below w.heap.size w w5 from ((Below.refl w.heap.size w).drew).trans HU.out)⟩
  ·have e:st.append s b=(0,(st.setF i ⟨(st.fileAt i).b ++ b,(st.fileAt i).lasts⟩).did):=by
    unfold Dk.append
    rw [if_neg (by rw [hf];simp),←hi,←hn,if_neg hlong,if_neg hfull]
   rw [e]
   have hcap:=hok.cap
   have hu:st.used≤64 * 16777216:=Nat.le_trans (by
    have:=seenSum_le (fun i=>(st.fileAt i).b.length) 16777216 (fun i=>(hok.at i).2) (fun _=>false) st.now
    rw [seenSum_all] at this
    exact this) (Nat.mul_le_mul_right 16777216 hok.lnow)
   have hwr:IntKind.i64.wrap ((st.cap:Int) - (st.used:Int))=(st.cap:Int) - (st.used:Int):=IntWalk.i64_in _ (by omega)
   have ht2:decide ((st.cap:Int) - (st.used:Int)<(b.length:Int))=false:=by simp;omega
   obtain ⟨i0,hi0,hz0,hz1,hz2⟩:=info_parts byteT_info
   have HI0:=Hd hi0
   have HZ0:=Hd hz0
   have HZ1:=Hd hz1
   have HZ2:=Hd hz2
   have hsum:n+b.length≤16777216:=by omega
   clear e hf h hok h1 h2 c0 hv hi hn e1 e2 e3 e4 e5 ef c2 hlong hfull hi0 hz0 hz1 hz2
   go_enter Tryz.func91,Tryz.ntmps91
   go_wp2_with fail
   refine (find_any d F q st s _ H.out hs).mono ?_
   rintro e w' ⟨rfl,rfl⟩
   rw [if_pos HF.out,HF.out,Int.natCast_zero,errV_zero,←HI.out]
   go_wp2_with fail
   obtain ⟨SS,HSD⟩:∃ SS:World→Prop,Hid (SS=fun w'=>w'.cell? ⟨d,0,none⟩=some (.int .i64 st.cap)):=⟨_,Hd rfl⟩
   refine wp_region_order0 SS [5] [(0,0),(1,0),(2,0),(3,0),(4,0),(5,2),(6,0),(7,1),(8,0),(9,0),(10,0)] (by kernel_rfl) (by kernel_rfl) rfl (by kernel_rfl) ?_ ?_
   (focus (rw [HSD.out];exact e0));(iterate 5 refine stepE0 rfl rfl fun K hK=>?_;go_simp;refine hK _ ?_;clear hK K);refine stepE2 rfl rfl ?_ (fun w1 hS=>?_) fun K hK=>?_;rotate_left;(focus (rw [HSD.out] at hS;have c0':=hS;go_simp;rfl));go_simp;refine hK _ ?_;clear hK K;refine stepE0 rfl rfl fun K hK=>?_;go_simp;refine hK _ ?_;clear hK K;refine stepE1S rfl rfl fun K hK=>?_
   (go_wp2_with fail;refine Calls.mono (used_any d F q st _ _ (H.out.below belo) HOK.out) ?_;rintro e w5 ⟨rfl,hu5⟩;have HU:=Hd hu5;clear hu5;go_wp2)
   refine ⟨by rw [HSD.out];exact ((HU.out.cell (p:=⟨d,0,none⟩) hdl).trans e0),?_⟩
   (iterate 3 refine stepE0 rfl rfl fun K hK=>?_;go_simp;refine hK _ ?_;clear hK K)
   try refine stepEnil0 ?_
   clear HSD SS
   have hb5:Below w.heap.size w w5:=((Below.refl w.heap.size w).drew).trans HU.out
   have HB5:=Hd hb5
   have HD5:=Hd (H.out.below hb5)
   have HF5:=Hd (blk_below H1.out hb5)
   have HR5:=Hd (show FRow w5 (.slice a n c) (st.fileAt i).b by rw [HN.out,←HV.out];exact H2.out.below hb5)
   have hz5:=hb5.size
   obtain ⟨g0,g1,g2,gf⟩:=cells3 HF5.out
   rw [HV.out,←HN.out] at g1
   clear hb5 g0 g2 c1 cf e0
   go_wp2_with (at_builtin;refine wpList_append_frow _ rfl _ _ 47 rfl i0 Tryz.underlying47 HI0.out HZ0.out HZ1.out HZ2.out (.slice a n c) (st.fileAt i).b rfl HR5.out (.slice ab b.length cb) b rfl (HR.out.below HB5.out) (by rw [←HN.out];omega) ?_;rw [←HN.out];intro a2 k2 w2 hown2 hg2 hloc2;have HO2:=Hd hown2;have HG2:=Hd (keeps_own hg2);have HL2:=Hd hloc2;have HF2:=Hd (keep_blk HG2.out (hits_frow HR5.out) HF5.out (by simp [kindO]));obtain ⟨p0,p1,p2,pf⟩:=cells3 HF2.out;clear hown2 hg2 hloc2 p0 p2)
   have h6:=HD5.out.one hil (G:=fun k=>k=q.fb i∨(Value.slice a n c).ownBlock=some k) ((HG2.out.mono fun _ _ e=>.inr e).trans ((keeps_set (b:=q.fb i) 1 (.slice a2 (n+b.length) k2)).mono fun _ _ e=>.inl e) fun _ _ e=>e) (fun k _ e=>e.imp id fun e=>by rw [HV.out,←HN.out];exact e)
    ⟨(st.fileAt i).b ++ b,(st.fileAt i).lasts⟩ (.slice a2 (n+b.length) k2) (by simpa using blk_put HF2.out 1 (.slice a2 (n+b.length) k2)) (keep_frow (keeps_set _ _) (hits_one HF2.out) HO2.out (by simp [kindO]))
    (fun g hg=>(HL2.out g hg).imp (fun e=>by rw [HV.out,←HN.out];exact e) id)
   have HK6:=Hd (show Keeps F w (w2.setCell ⟨q.fb i,1,none⟩ (.slice a2 (n+b.length) k2)) from ((keeps_below F HB5.out).trans (HG2.out.mono (G:=F) fun k _ e=>(H.out.files.ff i hil).2 k (by rw [HV.out,←HN.out];exact e)) fun _ _ h=>h).setCell _ _ fun _=>hff)
   have H6:=Hd h6
   clear h6
   go_wp2_with fail
   refine (did_any d _ _ _ _ H6.out HOK.out.armed.1 HOK.out.armed.2).mono ?_
   rintro e w7 ⟨rfl,h7,hk7⟩
   have H7:=Hd (h7.to (HK6.out.trans hk7 fun _ _ e=>e ▸ H.out.fd) (fun k hk=>hk.imp id (Nat.le_trans hz5)))
   clear h7 hk7
   go_wp2_with fail
   go_ret
   exact ⟨rfl,H7.out⟩
 ·have e:st.append s b=((st.fnd s).1,st):=by unfold Dk.append;rw [if_pos hf]
  rw [e]
  have HF:=Hd hf
  have HE:=Hd (errV_ne (k:=((st.fnd s).1:Int)) (by omega))
  clear e hf h hok
  go_enter Tryz.func91,Tryz.ntmps91
  go_wp2_with fail
  refine (find_any d F q st s _ H.out hs).mono ?_
  rintro e w' ⟨rfl,rfl⟩
  rw [if_neg HF.out,HE.out]
  go_wp2_with fail
  go_ret
  exact ⟨by rw [HE.out];rfl,H.out.same⟩
open Go.RowKit Go.Maps
def ReadTo (w:World) (k:Nat) (xs:List UInt8) (e:Ending) (w':World):Prop:=∃ v,e=.returned (.tuple #[v,errV k])∧w'.ownsRow w.heap.size 5 1 v xs.length (xs.map bv)∧Below w.heap.size w w'
theorem ReadTo.none{w w':World}{k:Nat}{e:Ending}(he:e=.returned (.tuple #[.slice none 0 0,errV k]))(hb:Below w.heap.size w w'):ReadTo w k [] e w':=⟨_,he,World.ownsRow_nil _ _ _ _,hb⟩
theorem read_any(d:Nat)(F:Nat→Prop)(q:DW)(st:Dk)(s:Nm)(off n:Int)(K:Nat)(w:World)(h:DiskAt w d F q st)(hok:DkOk K st)(hs:s.length≤maxLen)(hn2:n≤9223372036854775807)(ho2:off≤9223372036854775807) :
  Calls Tryz.prog 35 #[(.pointer (some ⟨d,0,none⟩)),.string ⟨s.toArray⟩,.int .i64 off,.int .i64 n] w (ReadTo w (st.read s off n).1 (st.read s off n).2):=by
 have H:=Hd h
 by_cases hf:(st.fnd s).1=0
 ·obtain ⟨i,hi⟩:∃ i,i=(st.fnd s).2:=⟨_,rfl⟩
  have hil:i<st.files.length:=by rw [hi];exact hok.fnd (by rw [hf];simp)
  have HF:=Hd hf
  have HI:=Hd hi
  obtain ⟨h1,h2⟩:=h.file hil
  obtain ⟨a,c,hv,hac⟩:=h2.len
  obtain ⟨c0,c1,c2,cf⟩:=cells3 h1
  rw [hv] at c1 h2
  have hle:=(hok.at i).2
  obtain ⟨b,hb⟩:∃ b,b=(st.fileAt i).b:=⟨_,rfl⟩
  rw [←hb] at c1 hle h2
  have H2:=Hd h2
  clear h1 c0 c2 cf hv hac h2
  by_cases hneg:off<0∨n<0
  ·have e:st.read s off n=(1,[]):=by unfold Dk.read;rw [if_neg (by rw [hf];simp),if_pos hneg]
   rw [e]
   clear e hf h hok hi hb
   by_cases h0:off<0
   ·go_enter Tryz.func35,Tryz.ntmps35
    go_wp2_with fail
    refine (find_any d F q st s _ H.out hs).mono ?_
    rintro e w' ⟨rfl,rfl⟩
    rw [if_pos HF.out,HF.out,Int.natCast_zero,errV_zero,←HI.out]
    go_wp2_with fail
    go_ret2
    exact .none rfl belo
   ·have hn0:n<0:=by omega
    have h0':decide (off<0)=false:=by simp;omega
    clear hneg h0
    go_enter Tryz.func35,Tryz.ntmps35
    go_wp2_with fail
    refine (find_any d F q st s _ H.out hs).mono ?_
    rintro e w' ⟨rfl,rfl⟩
    rw [if_pos HF.out,HF.out,Int.natCast_zero,errV_zero,←HI.out]
    go_wp2_with fail
    go_ret2
    exact .none rfl belo
  obtain ⟨o,rfl⟩:=Int.eq_ofNat_of_zero_le (show 0≤off by omega)
  obtain ⟨m,rfl⟩:=Int.eq_ofNat_of_zero_le (show 0≤n by omega)
  have g0:decide ((o:Int)<0)=false:=by simp
  have g1:decide ((m:Int)<0)=false:=by simp
  by_cases hsh:b.length<o+m
  ·have e:st.read s o m=(3,[]):=by unfold Dk.read;rw [if_neg (by rw [hf];simp),if_neg hneg,←hi,←hb,if_pos (by omega)]
   rw [e]
   clear e hf h hok hi hb hneg
   by_cases hob:b.length<o
   ·have t1:decide ((b.length:Int)<(o:Int))=true:=by simp;omega
    go_enter Tryz.func35,Tryz.ntmps35
    go_wp2_with fail
    refine (find_any d F q st s _ H.out hs).mono ?_
    rintro e w' ⟨rfl,rfl⟩
    rw [if_pos HF.out,HF.out,Int.natCast_zero,errV_zero,←HI.out]
    go_wp2_with fail
    go_ret2
    exact .none rfl belo
   ·have t1:decide ((b.length:Int)<(o:Int))=false:=by simp;omega
    have t2:decide ((b.length:Int) - (o:Int)<(m:Int))=true:=by simp;omega
    have hob':o≤b.length:=by omega
    clear hob
    go_enter Tryz.func35,Tryz.ntmps35
    go_wp2_with fail
    refine (find_any d F q st s _ H.out hs).mono ?_
    rintro e w' ⟨rfl,rfl⟩
    rw [if_pos HF.out,HF.out,Int.natCast_zero,errV_zero,←HI.out]
    go_wp2_with fail
    go_ret2
    exact .none rfl belo
  ·have e:st.read s o m=(0,(b.drop o).take m):=by unfold Dk.read;rw [if_neg (by rw [hf];simp),if_neg hneg,←hi,←hb,if_neg (by omega)];simp
   rw [e]
   have hlen:((b.drop o).take m).length=m:=by rw [List.length_take,List.length_drop];omega
   obtain ⟨xs,hxs⟩:∃ xs,xs=(b.drop o).take m:=⟨_,rfl⟩
   obtain ⟨a',c',hrun,hrd⟩:=H2.out.cut o m (by omega)
   rw [←hxs] at hlen hrd ⊢
   subst hlen
   have HRD:=Hd hrd
   have t1:decide ((b.length:Int)<(o:Int))=false:=by simp;omega
   have t2:decide ((b.length:Int) - (o:Int)<(xs.length:Int))=false:=by simp;omega
   have hob':o+xs.length≤b.length:=by omega
   clear e hf h hok hi hb hneg hxs hrd hsh
   go_enter Tryz.func35,Tryz.ntmps35
   go_wp2_with fail
   refine (find_any d F q st s _ H.out hs).mono ?_
   rintro e w' ⟨rfl,rfl⟩
   rw [if_pos HF.out,HF.out,Int.natCast_zero,errV_zero,←HI.out]
   go_wp2_with fail
   refine (bclone_any _ xs _ HRD.out (by omega)).mono ?_
   rintro e w' ⟨v',rfl,ho,_,hbw⟩
   have HO:=Hd ho
   have HBW:=Hd hbw
   clear ho hbw
   go_wp2_with fail
   go_ret2
   exact ⟨_,rfl,HO.out,HBW.out⟩
 ·have e:st.read s off n=((st.fnd s).1,[]):=by unfold Dk.read;rw [if_pos hf]
  rw [e]
  have HF:=Hd hf
  have HE:=Hd (errV_ne (k:=((st.fnd s).1:Int)) (by omega))
  clear e hf h hok
  go_enter Tryz.func35,Tryz.ntmps35
  go_wp2_with fail
  refine (find_any d F q st s _ H.out hs).mono ?_
  rintro e w' ⟨rfl,rfl⟩
  rw [if_neg HF.out,HE.out]
  go_wp2_with fail
  go_ret2
  exact .none (by rw [HE.out];rfl) belo
open Go.RowKit Go.Maps
theorem clip_any(a:Option Addr)(n c:Nat)(ha:(a=none∧n=0)∨∃ g,a=some ⟨g,0,none⟩)(hn:n≤c)(w:World) :
  Calls Tryz.prog 150 #[.slice a n c] w fun e w'=>e=.returned (.slice a n n)∧w=w':=by
 have hrun:=run_clip a n c ha hn
 clear ha
 go_enter Tryz.func150,Tryz.ntmps150
 go_wp2
 go_ret
 exact ⟨rfl,rfl⟩
theorem xor_bv(x y:UInt8):Value.int .u8 (bits .xor .u8 (x.toNat:Int) (y.toNat:Int))=bv (x ^^^ y):=by
 rw [u8_xor_nat _ _ x.toNat_lt y.toNat_lt]
 unfold bv
 rw [UInt8.toNat_xor]
theorem cut_any(d:Nat)(F:Nat→Prop)(q:DW)(st:Dk)(s:Nm)(n:Int)(K:Nat)(w:World)(h:DiskAt w d F q st)(hok:DkOk K st)(hs:s.length≤maxLen) :
  Calls Tryz.prog 111 #[(.pointer (some ⟨d,0,none⟩)),.string ⟨s.toArray⟩,.int .i64 n] w fun e w'=>e=.returned (errV (st.cut s n).1)∧DiskTo w w' d F (st.cut s n).2:=by
 have H:=Hd h
 have HOK:=Hd hok
 by_cases hf:(st.fnd s).1=0
 ·obtain ⟨i,hi⟩:∃ i,i=(st.fnd s).2:=⟨_,rfl⟩
  have hil:i<st.files.length:=by rw [hi];exact hok.fnd (by rw [hf];simp)
  have HF:=Hd hf
  have HI:=Hd hi
  obtain ⟨h1,h2⟩:=h.file hil
  have hff:=(h.files.ff i hil).1
  obtain ⟨a,c,hv,hac⟩:=h2.len
  obtain ⟨c0,c1,c2,cf⟩:=cells3 h1
  have H1:=Hd h1
  have HV:=Hd hv
  rw [hv] at c1 h2
  have H2:=Hd h2
  have hle:=(hok.at i).2
  obtain ⟨m,hm⟩:∃ m,m=(st.fileAt i).b.length:=⟨_,rfl⟩
  rw [←hm] at c1 hle hac
  have HM:=Hd hm
  clear h1 c0 hv h2
  by_cases h0:n<0
  ·have e:st.cut s n=(1,st):=by unfold Dk.cut;rw [if_neg (by rw [hf];simp),if_pos (.inl h0)]
   rw [e]
   clear e hf h hok hi hm
   go_enter Tryz.func111,Tryz.ntmps111
   go_wp2_with fail
   refine (find_any d F q st s _ H.out hs).mono ?_
   rintro e w' ⟨rfl,rfl⟩
   rw [if_pos HF.out,HF.out,Int.natCast_zero,errV_zero,←HI.out]
   go_wp2_with fail
   go_ret
   exact ⟨rfl,H.out.same⟩
  obtain ⟨k,rfl⟩:=Int.eq_ofNat_of_zero_le (show 0≤n by omega)
  have g0:decide ((k:Int)<0)=false:=by simp
  by_cases hlt:m<k
  ·have e:st.cut s k=(1,st):=by unfold Dk.cut;rw [if_neg (by rw [hf];simp),if_pos (.inr (by rw [←hi,←hm];omega))]
   rw [e]
   clear e hf h hok hi h0 hm
   go_enter Tryz.func111,Tryz.ntmps111
   go_wp2_with fail
   refine (find_any d F q st s _ H.out hs).mono ?_
   rintro e w' ⟨rfl,rfl⟩
   rw [if_pos HF.out,HF.out,Int.natCast_zero,errV_zero,←HI.out]
   go_wp2_with fail
   go_ret
   exact ⟨rfl,H.out.same⟩
  ·have e:st.cut s k=(0,(st.setF i ⟨(st.fileAt i).b.take k,k⟩).did):=by unfold Dk.cut;rw [if_neg (by rw [hf];simp),if_neg (by rw [←hi,←hm];omega),←hi];simp
   rw [e]
   have g1:decide ((m:Int)<(k:Int))=false:=by simp;omega
   have hkm:k≤m:=by omega
   have hkl:k≤(st.fileAt i).b.length:=by omega
   have hclip:=H2.out.clip k hkl
   have hrun:=run_prefix a m c k (H2.out.addr.imp (fun e=>⟨e.1,e.2.2⟩) id) (by omega)
   have HA:=Hd (show (a=none∧k=0)∨∃ g,a=some ⟨g,0,none⟩ from H2.out.addr.imp (fun e=>⟨e.1,by have:=congrArg List.length e.2.1;simp at this;omega⟩) id)
   have HC:=Hd hclip
   have hkc:k≤c:=by omega
   clear e hf h hok hi h0 hm hclip hkl hlt
   go_enter Tryz.func111,Tryz.ntmps111
   go_wp2_with fail
   refine (find_any d F q st s _ H.out hs).mono ?_
   rintro e w' ⟨rfl,rfl⟩
   rw [if_pos HF.out,HF.out,Int.natCast_zero,errV_zero,←HI.out]
   go_wp2_with fail
   refine (clip_any a k c HA.out hkc _).mono ?_
   rintro e w' ⟨rfl,rfl⟩
   go_wp2_with fail
   have hkk:Keeps (fun j=>j=q.fb i) w ((w.setCell ⟨q.fb i,1,none⟩ (.slice a k k)).setCell ⟨q.fb i,2,none⟩ (.int .i64 k)):=(keeps_set _ _).trans (keeps_set _ _) fun _ _ e=>e
   have h6:=H.out.one hil hkk (fun _ _ e=>.inl e) ⟨(st.fileAt i).b.take k,k⟩ (.slice a k k) (by simpa using blk_put (blk_put H1.out 1 (.slice a k k)) 2 (.int .i64 k)) (keep_frow hkk (hits_one H1.out) HC.out (by simp [kindO])) (fun g hg=>.inl (by rw [HV.out];cases a <;> exact hg))
   refine (did_any d _ _ _ _ h6 HOK.out.armed.1 HOK.out.armed.2).mono ?_
   rintro e w7 ⟨rfl,h7,hk7⟩
   have H7:=Hd (h7.to ((hkk.mono (G:=F) fun _ _ e=>e ▸ hff).trans hk7 fun _ _ e=>e ▸ H.out.fd) (fun k hk=>hk))
   clear h7 hk7 h6 hkk
   go_wp2_with fail
   go_ret
   exact ⟨rfl,H7.out⟩
 ·have e:st.cut s n=((st.fnd s).1,st):=by unfold Dk.cut;rw [if_pos hf]
  rw [e]
  have HF:=Hd hf
  have HE:=Hd (errV_ne (k:=((st.fnd s).1:Int)) (by omega))
  clear e hf h hok
  go_enter Tryz.func111,Tryz.ntmps111
  go_wp2_with fail
  refine (find_any d F q st s _ H.out hs).mono ?_
  rintro e w' ⟨rfl,rfl⟩
  rw [if_neg HF.out,HE.out]
  go_wp2_with fail
  go_ret
  exact ⟨by rw [HE.out];rfl,H.out.same⟩
theorem spoil_any(d:Nat)(F:Nat→Prop)(q:DW)(st:Dk)(s:Nm)(n:Int)(x:UInt8)(K:Nat)(w:World)(h:DiskAt w d F q st)(hok:DkOk K st)(hs:s.length≤maxLen) :
  Calls Tryz.prog 39 #[(.pointer (some ⟨d,0,none⟩)),.string ⟨s.toArray⟩,.int .i64 n,.int .u8 x.toNat] w fun e w'=>e=.returned (errV (st.spoil s n x).1)∧DiskTo w w' d F (st.spoil s n x).2:=by
 have H:=Hd h
 have HOK:=Hd hok
 by_cases hf:(st.fnd s).1=0
 ·obtain ⟨i,hi⟩:∃ i,i=(st.fnd s).2:=⟨_,rfl⟩
  have hil:i<st.files.length:=by rw [hi];exact hok.fnd (by rw [hf];simp)
  have HF:=Hd hf
  have HI:=Hd hi
  obtain ⟨h1,h2⟩:=h.file hil
  have hff:=(h.files.ff i hil)
  obtain ⟨a,c,hv,hac⟩:=h2.len
  obtain ⟨c0,c1,c2,cf⟩:=cells3 h1
  have H1:=Hd h1
  have HV:=Hd hv
  rw [hv] at c1 h2
  have H2:=Hd h2
  have hle:=(hok.at i).2
  obtain ⟨m,hm⟩:∃ m,m=(st.fileAt i).b.length:=⟨_,rfl⟩
  rw [←hm] at c1 hle hac
  have HM:=Hd hm
  have HFF:=Hd hff
  clear h1 c0 hv h2 hff
  by_cases h0:n<0
  ·have e:st.spoil s n x=(1,st):=by unfold Dk.spoil;rw [if_neg (by rw [hf];simp),if_pos (.inl h0)]
   rw [e]
   clear e hf h hok hi hm
   go_enter Tryz.func39,Tryz.ntmps39
   go_wp2_with fail
   refine (find_any d F q st s _ H.out hs).mono ?_
   rintro e w' ⟨rfl,rfl⟩
   rw [if_pos HF.out,HF.out,Int.natCast_zero,errV_zero,←HI.out]
   go_wp2_with fail
   go_ret
   exact ⟨rfl,H.out.same⟩
  obtain ⟨k,rfl⟩:=Int.eq_ofNat_of_zero_le (show 0≤n by omega)
  have g0:decide ((k:Int)<0)=false:=by simp
  by_cases hlt:m≤k
  ·have e:st.spoil s k x=(1,st):=by unfold Dk.spoil;rw [if_neg (by rw [hf];simp),if_pos (.inr (by rw [←hi,←hm];omega))]
   rw [e]
   clear e hf h hok hi h0 hm
   go_enter Tryz.func39,Tryz.ntmps39
   go_wp2_with fail
   refine (find_any d F q st s _ H.out hs).mono ?_
   rintro e w' ⟨rfl,rfl⟩
   rw [if_pos HF.out,HF.out,Int.natCast_zero,errV_zero,←HI.out]
   go_wp2_with fail
   go_ret
   exact ⟨rfl,H.out.same⟩
  ·have e:st.spoil s k x=(0,st.setF i ⟨xorAt (st.fileAt i).b k x,(st.fileAt i).lasts⟩):=by unfold Dk.spoil;rw [if_neg (by rw [hf];simp),if_neg (by rw [←hi,←hm];omega),←hi];simp
   rw [e]
   have g1:decide ((m:Int)≤(k:Int))=false:=by simp;omega
   have hkm:k<m:=by omega
   have hkl:k<(st.fileAt i).b.length:=by omega
   obtain ⟨g,rfl⟩:∃ g,a=some ⟨g,0,none⟩:=H2.out.addr.elim (fun e=>by rw [e.2.1] at hkl;simp at hkl) id
   obtain ⟨y,hy⟩:∃ y,y=(st.fileAt i).b[k]:=⟨_,rfl⟩
   have hcell:w.cell? ⟨g,k,none⟩=some (.int .u8 y.toNat):=by
    obtain ⟨_,⟨e,_⟩|⟨a0,c0,e,_,hc⟩⟩:=H2.out.reads
    ·cases e
    ·simp only [Value.slice.injEq,Option.some.injEq] at e
     have:=hc k (bv (st.fileAt i).b[k]) (by rw [List.getElem?_map,List.getElem?_eq_getElem hkl];rfl)
     rw [←e.1,add_zero_off,←hy] at this
     exact this
   obtain ⟨cur,hcur⟩:=H2.out.blk (g:=g) rfl
   have hfz:w.frozen? ⟨g,k,none⟩=false:=frozen_of_row w g k _ _ hcur
   have hset:=H2.out.set k (y ^^^ x) hkl
   have hx:xorAt (st.fileAt i).b k x=(st.fileAt i).b.set k (y ^^^ x):=by unfold xorAt;rw [List.getElem?_eq_getElem hkl,hy];rfl
   rw [hx]
   have HS:=Hd hset
   have HX:=Hd (xor_bv y x)
   have hkc:k<c:=by omega
   have hgf:F g:=HFF.out.2 g (by rw [HV.out];rfl)
   have hgn:g≠q.fb i:=fun e=>by rw [e,H1.out] at hcur;injection hcur with hcur;injection hcur with _ h9;exact absurd h9 (by decide)
   clear e hf h hok hi h0 hm hkl hlt hy hcur hx hset
   go_enter Tryz.func39,Tryz.ntmps39
   go_wp2_with fail
   refine (find_any d F q st s _ H.out hs).mono ?_
   rintro e w' ⟨rfl,rfl⟩
   rw [if_pos HF.out,HF.out,Int.natCast_zero,errV_zero,←HI.out]
   go_wp2_with fail
   rw [HX.out]
   have hkk:Keeps (fun j=>j=g) w (w.setCell ⟨g,k,none⟩ (bv (y ^^^ x))):=keeps_set _ _
   have h6:=H.out.one hil hkk (fun j _ e=>.inr (by rw [HV.out];exact congrArg some e.symm)) ⟨(st.fileAt i).b.set k (y ^^^ x),(st.fileAt i).lasts⟩ (.slice (some ⟨g,0,none⟩) (st.fileAt i).b.length c) (blk_set (by rw [←HV.out];exact H1.out) _ _ (Ne.symm hgn)) HS.out (fun g' hg'=>.inl (by rw [HV.out];exact hg'))
   go_ret
   exact ⟨rfl,h6.to (hkk.mono (G:=F) fun _ _ e=>e ▸ hgf) (fun _ h=>h)⟩
 ·have e:st.spoil s n x=((st.fnd s).1,st):=by unfold Dk.spoil;rw [if_pos hf]
  rw [e]
  have HF:=Hd hf
  have HE:=Hd (errV_ne (k:=((st.fnd s).1:Int)) (by omega))
  clear e hf h hok
  go_enter Tryz.func39,Tryz.ntmps39
  go_wp2_with fail
  refine (find_any d F q st s _ H.out hs).mono ?_
  rintro e w' ⟨rfl,rfl⟩
  rw [if_neg HF.out,HE.out]
  go_wp2_with fail
  go_ret
  exact ⟨by rw [HE.out];rfl,H.out.same⟩
end Go.Proofs.YtfpjfoajonbndaaGreatDoor
