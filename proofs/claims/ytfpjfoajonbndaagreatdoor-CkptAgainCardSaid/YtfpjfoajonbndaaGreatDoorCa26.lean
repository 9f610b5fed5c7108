import Derived.Test.YtfpjfoajonbndaaGreatDoorCa21
import Derived.Test.YtfpjfoajonbndaaGreatDoorCa14
import Derived.Test.YtfpjfoajonbndaaGreatDoorCa20
import Derived.Test.YtfpjfoajonbndaaGreatDoorCa16
import Derived.Test.YtfpjfoajonbndaaGreatDoorCaShipTake
namespace Go.Proofs.YtfpjfoajonbndaaGreatDoor
set_option maxHeartbeats 8000000
set_option maxRecDepth 100000
open Go.RowKit
set_option maxRecDepth 100000
set_option maxHeartbeats 8000000
open Go.RowKit
theorem belCa26 {B:Nat} {w w2:World} (h:Go.RowKit.Below B w w2:=by repeat (first|(with_reducible first|exact .refl _ _|refine .setCell ?_ ?_ _|refine .alloc ?_ ?_ _|refine .drewN ?_ _|refine .drew ?_|exact Nat.le_refl _)|(focus (simp only [World.size_alloc,World.size_setCell,World.size_drew,World.size_drewN];omega))|omega|exact Nat.le_refl _|(focus (simp;done))|(focus (simp;omega)))):Go.RowKit.Below B w w2:=h
def DoTo (w:World) (P:Nat→Prop) (r:Nat×Rv) (N:Option Nd) (K:List Ps) (e:Ending) (w':World):Prop:=
 ∃ val nv kv y,e=.returned (.tuple #[val,nv,kv,.int .i64 r.1])∧RvIn w' (PNew P w) val r.2∧Below w.heap.size w w'∧nv=ndOV y∧y.map NdE.n=N∧(∀ x,y=some x→NdArg w' x)∧Reads w' 5 kv K.length (K.flatMap psC)
theorem acells {w:World} {b:Nat} {v0 v1 v2 v3 v4 v5:Value} {t:TypeId} (h:w.heap[b]? = some (.cells #[v0,v1,v2,v3,v4,v5] t (0,0))):w.cell? ⟨b,0,none⟩=some v0∧w.cell? ⟨b,1,none⟩=some v1∧w.cell? ⟨b,2,none⟩=some v2∧w.cell? ⟨b,3,none⟩=some v3∧w.cell? ⟨b,4,none⟩=some v4∧w.cell? ⟨b,5,none⟩=some v5:=by
 refine ⟨?_,?_,?_,?_,?_,?_⟩ <;> (rw [cell_of_row w b _ _ _ _ h];rfl)
theorem set7_drew {w:World} {b k:Nat} {x:Obj} {u0 u1 u2 u3 u4 u5 u6:Value} (h:w.heap[k]? = some x) (hne:k≠b):(((((((w.setCell ⟨b,0,none⟩ u0).setCell ⟨b,1,none⟩ u1).setCell ⟨b,2,none⟩ u2).setCell ⟨b,3,none⟩ u3).setCell ⟨b,4,none⟩ u4).setCell ⟨b,5,none⟩ u5).setCell ⟨b,6,none⟩ u6).drew.heap[k]? = some x:=by
 have hk:=(set7i_keeps w b u0 u1 u2 u3 u4 u5 u6).block k (blk_lt h) hne
 unfold set7i at hk
 exact blk_drew (hk.trans h)
theorem RvIn.ret2 {P:Nat→Prop} {w w0 w1 w2 w3 w4 wf:World} {val:Value} {v:Rv} {R S:Nat} (h:RvIn w1 (PNew (POld P w) w0) val v) (hR:w.heap.size≤R) (hR0:R<w0.heap.size) (hS:w.heap.size≤S) (hS0:S<w0.heap.size) (hk2:Keeps (fun k=>k=R) w1 w2) (hk3:Keeps (fun k=>k=R) w2 w3) (hk4:Keeps (fun k=>k=S) w3 w4) (hwf:Keeps (fun _=>False) w4 wf:=by exact (Keeps.refl _ _).drew):RvIn wf (PNew P w) val v:=by
 have hq:∀ k,PNew (POld P w) w0 k→k≠R∧k≠S:=fun k e=>by
  rcases e with ⟨_,f⟩|f <;> omega
 have hkp:KP (PNew (POld P w) w0) w1 wf:=((Keeps.mono hk2 (fun k _ e f=>(hq k f).1 e)).trans (Keeps.mono hk3 (fun k _ e f=>(hq k f).1 e)) (fun _ _ e=>e)).trans ((Keeps.mono hk4 (fun k _ e f=>(hq k f).2 e)).trans (Keeps.mono hwf (fun _ _ e=>e.elim)) (fun _ _ e=>e)) (fun _ _ e=>e)
 refine (h.kp hkp).wide (fun k hq _=>?_)
 rcases hq with ⟨f,_⟩|f
 ·exact .inl f
 ·exact .inr (by omega)
theorem rdo0 (P:Nat→Prop) (v:Rv) (al:Option Addr) (cl:Nat) (ad:Option Addr) (cd:Nat) (xs:List NdE) (m:Int) (x:NdE) (w:World) (h:RvAt w P v al cl ad cd xs) (hx:NdP w P x) (hdl:x.n.data.length≤1000000000) (hs:IxS v.l) (hz:v.size≤1000000000) (hm:v.most≤1000000000) (hf:v.l.length≤4096) (hdn:v.d.length≤1000000) :
  Calls Tryz.prog 17 #[rvV v al cl ad cd,.agg #[.int .i64 0,.int .i64 m,.int .u64 x.n.key,.int .u32 x.n.cookie,.bool x.n.gone,.slice x.a x.n.data.length x.c]] w (DoTo w P (v.put x.n) none []):=by
 have HCALL:=Lib.hid (fun (w0:World) (hb:Below w.heap.size w w0)=>rput9_any (POld P w) v al cl ad cd xs x w0 (h.old hb) (hx.old hb) hdl hs hz hm hf hdn)
 have HO:=Lib.hid (fun (w':World) (hb:Below w.heap.size w w')=>h.out' hb)
 obtain ⟨R,hR⟩:∃ R,R=v.put x.n:=⟨_,rfl⟩
 rw [←hR] at HCALL ⊢
 have hnd:NdE.cs x=[.int .u64 x.n.key,.int .u32 x.n.cookie,.bool x.n.gone,.slice x.a x.n.data.length x.c]:=rfl
 rw [hnd] at HCALL
 clear hR
 obtain ⟨⟨key,cookie,gone,data⟩,xa,xc⟩:=x
 obtain ⟨num,most,epoch,size,shut,l,dd⟩:=v
 unfold rvV at HCALL HO ⊢
 simp only at HCALL HO ⊢
 obtain ⟨ln,hln⟩:∃ ln,ln=l.length:=⟨_,rfl⟩
 obtain ⟨dn,hdn2⟩:∃ dn,dn=dd.length:=⟨_,rfl⟩
 obtain ⟨xn,hxn⟩:∃ xn,xn=data.length:=⟨_,rfl⟩
 rw [←hln,←hdn2] at HCALL HO ⊢
 rw [←hxn] at HCALL ⊢
 clear h hln hdn2 hx hxn
 go_enter Tryz.func17,Tryz.ntmps17
 go_upto_region 2 with fail
 obtain ⟨w0,hw0⟩:∃ w0:World,w0=((((w.alloc (.cells #[.int .i64 num,.int .i64 most,.int .i64 epoch,.int .i64 size,.bool shut,.slice al ln cl,.slice ad dn cd] 43)).alloc (.cells #[.int .i64 0,.int .i64 m,.int .u64 key,.int .u32 cookie,.bool gone,.slice xa xn xc] 53)).alloc (.cells #[.int .i64 0,.int .i64 0,.int .i64 0,.int .i64 0,.bool false,.slice none 0 0,.slice none 0 0] 43)).alloc (.cells #[.int .u64 0,.int .u32 0,.bool false,.slice none 0 0] 49)).alloc (.cells #[.int .u64 0,.int .u32 0,.bool false,.slice none 0 0] 49):=⟨_,rfl⟩
 have HB0:=Lib.hid (show Below w.heap.size w w0 by rw [hw0];exact belCa26)
 have KV0:=Lib.hid (show w0.heap[w.heap.size]? = some (.cells #[.int .i64 num,.int .i64 most,.int .i64 epoch,.int .i64 size,.bool shut,.slice al ln cl,.slice ad dn cd] 43 (0,0)) by rw [hw0];exact blk_alloc (blk_alloc (blk_alloc (blk_alloc (heap_new w _) _) _) _) _)
 have KA0:=Lib.hid (show w0.heap[w.heap.size+1]? = some (.cells #[.int .i64 0,.int .i64 m,.int .u64 key,.int .u32 cookie,.bool gone,.slice xa xn xc] 53 (0,0)) by rw [hw0];exact blk_alloc (blk_alloc (blk_alloc (blk_new _ (by simp)) _) _) _)
 have KR0:=Lib.hid (show w0.heap[w.heap.size+2]? = some (.cells #[.int .i64 0,.int .i64 0,.int .i64 0,.int .i64 0,.bool false,.slice none 0 0,.slice none 0 0] 43 (0,0)) by rw [hw0];exact blk_alloc (blk_alloc (blk_new _ (by simp)) _) _)
 have KN0:=Lib.hid (show w0.heap[w.heap.size+3]? = some (.cells #[.int .u64 0,.int .u32 0,.bool false,.slice none 0 0] 49 (0,0)) by rw [hw0];exact blk_alloc (blk_new _ (by simp)) _)
 have KE0:=Lib.hid (show w0.heap[w.heap.size+4]? = some (.cells #[.int .u64 0,.int .u32 0,.bool false,.slice none 0 0] 49 (0,0)) by rw [hw0];exact blk_new _ (by simp))
 rw [←hw0,show w.heap.size+1+1=w.heap.size+2 from rfl,show w.heap.size+2+1=w.heap.size+3 from rfl,show w.heap.size+3+1=w.heap.size+4 from rfl]
 clear hw0
 have hz0:=HB0.out.size
 obtain ⟨v0,v1,v2,v3,v4,v5,v6⟩:=cells7' KV0.out
 obtain ⟨a0,a1,a2,a3,a4,a5⟩:=acells KA0.out
 have hl0:=blk_lt KE0.out
 go_wp2_with fail
 refine (HCALL.out w0 HB0.out).mono ?_
 rintro e w1 ⟨val,rfl,hin,hb⟩
 obtain ⟨N2,W2⟩:=R
 have hin0:=hin
 obtain ⟨al2,cl2,ad2,cd2,xs2,rfl,-⟩:=hin0
 have HIN:=Lib.hid hin
 clear hin
 obtain ⟨num2,most2,epoch2,size2,shut2,l2,dd2⟩:=W2
 unfold rvV at HIN ⊢
 simp only at HIN ⊢
 obtain ⟨ln2,hln2⟩:∃ ln2,ln2=l2.length:=⟨_,rfl⟩
 obtain ⟨dn2,hdn2⟩:∃ dn2,dn2=dd2.length:=⟨_,rfl⟩
 rw [←hln2,←hdn2] at HIN ⊢
 clear hln2 hdn2 v0 v1 v2 v3 v4 v5 v6 a0 a1 a2 a3 a4 a5
 have hz1:=hb.size
 obtain ⟨w2,hw2⟩:∃ w2:World,w2=w1.alloc (.cells #[.int .i64 num2,.int .i64 most2,.int .i64 epoch2,.int .i64 size2,.bool shut2,.slice al2 ln2 cl2,.slice ad2 dn2 cd2] 43):=⟨_,rfl⟩
 have HB2:=Lib.hid (show Below w.heap.size w w2 by rw [hw2];exact (HB0.out.trans (hb.mono hz0)).alloc (by omega) _)
 have KR2:=Lib.hid (show w2.heap[w.heap.size+2]? = some (.cells #[.int .i64 0,.int .i64 0,.int .i64 0,.int .i64 0,.bool false,.slice none 0 0,.slice none 0 0] 43 (0,0)) by rw [hw2];exact blk_alloc (blk_below' KR0.out hb) _)
 have KN2:=Lib.hid (show w2.heap[w.heap.size+3]? = some (.cells #[.int .u64 0,.int .u32 0,.bool false,.slice none 0 0] 49 (0,0)) by rw [hw2];exact blk_alloc (blk_below' KN0.out hb) _)
 have KE2:=Lib.hid (show w2.heap[w.heap.size+4]? = some (.cells #[.int .u64 0,.int .u32 0,.bool false,.slice none 0 0] 49 (0,0)) by rw [hw2];exact blk_alloc (blk_below' KE0.out hb) _)
 have KT2:=Lib.hid (show w2.heap[w1.heap.size]? = some (.cells #[.int .i64 num2,.int .i64 most2,.int .i64 epoch2,.int .i64 size2,.bool shut2,.slice al2 ln2 cl2,.slice ad2 dn2 cd2] 43 (0,0)) by rw [hw2];exact heap_new w1 _)
 have hk2:Keeps (fun k=>k=w.heap.size+2) w1 w2:=by rw [hw2];exact (Keeps.refl _ w1).alloc _
 have HK2:=Lib.hid hk2
 clear hk2 hb
 obtain ⟨t0,t1,t2,t3,t4,t5,t6⟩:=cells7' KT2.out
 obtain ⟨r0,r1,r2,r3,r4,r5,r6⟩:=cells7' KR2.out
 obtain ⟨g0,g1,g2,g3,g4,g5,g6⟩:=free7 KR2.out
 obtain ⟨n0,n1,n2,n3⟩:=ncells KN2.out
 obtain ⟨o0,o1,o2,o3⟩:=nfree KN2.out
 obtain ⟨y0,y1,y2,y3⟩:=ncells KE2.out
 have hle:=blk_lt KE2.out
 have hlr:=blk_lt KR2.out
 have hlk:=blk_lt KN2.out
 go_upto_region 5 with fail
 rw [←hw2]
 clear hw2
 obtain ⟨B,hB⟩:∃ B,B=w1.heap.size:=⟨_,rfl⟩
 have KB:=Lib.hid (show w2.heap[B]? = some (.cells #[.int .i64 num2,.int .i64 most2,.int .i64 epoch2,.int .i64 size2,.bool shut2,.slice al2 ln2 cl2,.slice ad2 dn2 cd2] 43 (0,0)) by rw [hB];exact KT2.out)
 have KB2:=Lib.hid (show w2.heap[w1.heap.size]? = some (.cells #[.int .i64 num2,.int .i64 most2,.int .i64 epoch2,.int .i64 size2,.bool shut2,.slice al2 ln2 cl2,.slice ad2 dn2 cd2] 43 (0,0)) from KT2.out)
 have hBl:=blk_lt KB.out
 have hBn:B≠w.heap.size+2:=by omega
 obtain ⟨SS,HSD⟩:∃ SS:World→Prop,Hid (SS=fun w'=>w'.heap[w.heap.size+4]? = some (.cells #[.int .u64 0,.int .u32 0,.bool false,.slice none 0 0] 49 (0,0))∧w'.heap[w1.heap.size]? = some (.cells #[.int .i64 num2,.int .i64 most2,.int .i64 epoch2,.int .i64 size2,.bool shut2,.slice al2 ln2 cl2,.slice ad2 dn2 cd2] 43 (0,0))):=⟨_,Lib.hid rfl⟩
 refine wp_region_order0 SS [0,1] [(0,2),(1,2),(2,0),(3,1),(4,1),(5,0),(6,0)] (by kernel_rfl) (by kernel_rfl) rfl (by kernel_rfl) ?_ ?_
 (focus (rw [HSD.out];exact ⟨KE2.out,hB ▸ KB.out⟩));refine stepE2 rfl rfl ?_ (fun w1 hS=>?_) fun K hK=>?_;rotate_left;(focus (rw [HSD.out] at hS;obtain ⟨hS1,hS2⟩:=hS;obtain ⟨z0,z1,z2,z3⟩:=ncells hS1;obtain ⟨z4,z5,z6,z7,z8,z9,z10⟩:=cells7' hS2;go_simp;rfl));go_simp;refine hK _ ?_;clear hK K;refine stepE2 rfl rfl ?_ (fun w1 hS=>?_) fun K hK=>?_;rotate_left;(focus (rw [HSD.out] at hS;obtain ⟨hS1,hS2⟩:=hS;obtain ⟨z0,z1,z2,z3⟩:=ncells hS1;obtain ⟨z4,z5,z6,z7,z8,z9,z10⟩:=cells7' hS2;go_simp;rfl));go_simp;refine hK _ ?_;clear hK K;refine stepE0 rfl rfl fun K hK=>?_;go_simp;refine hK _ ?_;clear hK K;refine stepE1S rfl rfl fun K hK=>?_;go_wp2
 refine ⟨by rw [HSD.out];exact ((by show _∧_;exact ⟨set7_drew KE2.out (by omega),set7_drew KB2.out (by omega)⟩)),?_⟩
 refine stepE1 rfl rfl (by kernel_rfl) fun K hK=>?_;go_wp2;(iterate 2 refine stepE0 rfl rfl fun K hK=>?_;go_simp;refine hK _ ?_;clear hK K)
 try refine stepEnil0 ?_
 clear HSD SS
 go_wp2
 obtain ⟨w3,hw3⟩:∃ w3,w3=set7i w2 (w.heap.size+2) (.int .i64 num2) (.int .i64 most2) (.int .i64 epoch2) (.int .i64 size2) (.bool shut2) (.slice al2 ln2 cl2) (.slice ad2 dn2 cd2):=⟨_,rfl⟩
 have hb3:=set7i_below (w:=w2) (B:=w.heap.size) (b:=w.heap.size+2) (by omega) (.int .i64 num2) (.int .i64 most2) (.int .i64 epoch2) (.int .i64 size2) (.bool shut2) (.slice al2 ln2 cl2) (.slice ad2 dn2 cd2)
 have k3:=store7i (KR2.out) (.int .i64 num2) (.int .i64 most2) (.int .i64 epoch2) (.int .i64 size2) (.bool shut2) (.slice al2 ln2 cl2) (.slice ad2 dn2 cd2)
 have hk3:=set7i_keeps w2 (w.heap.size+2) (.int .i64 num2) (.int .i64 most2) (.int .i64 epoch2) (.int .i64 size2) (.bool shut2) (.slice al2 ln2 cl2) (.slice ad2 dn2 cd2)
 have n3:w3.heap[w.heap.size+3]? = some (.cells #[.int .u64 0,.int .u32 0,.bool false,.slice none 0 0] 49 (0,0)):=by rw [hw3];exact (hk3.block _ hlk (by omega)).trans KN2.out
 rw [←hw3] at hb3 k3 hk3
 obtain ⟨w4,hw4⟩:∃ w4,w4=set4 w3 (w.heap.size+3) (.int .u64 0) (.int .u32 0) (.bool false) (.slice none 0 0):=⟨_,rfl⟩
 have hb4:=set4_below (w:=w3) (B:=w.heap.size) (b:=w.heap.size+3) (by omega) (.int .u64 0) (.int .u32 0) (.bool false) (.slice none 0 0)
 have k4:=store4 n3 (.int .u64 0) (.int .u32 0) (.bool false) (.slice none 0 0)
 have hk4:=set4_keeps w3 (w.heap.size+3) (.int .u64 0) (.int .u32 0) (.bool false) (.slice none 0 0)
 have k34:w4.heap[w.heap.size+2]? = _:=hw4 ▸ (hk4.block _ (blk_lt k3) (by omega)).trans k3
 rw [←hw4] at hb4 k4 hk4
 have HBX:=Lib.hid ((HB2.out.trans hb3).trans hb4)
 unfold set7i at hw3
 unfold set4 at hw4
 rw [hw3] at hw4
 rw [←hw4]
 clear hw3 hw4 hb3 hb4
 obtain ⟨s0,s1,s2,s3,s4,s5,s6⟩:=cells7' (blk_drew k34)
 obtain ⟨m0,m1,m2,m3⟩:=ncells (blk_drew k4)
 refine bodyPost_ret (v:=?_) ?_ rfl ?_
 rotate_left;(focus (simp [results,Tryz.results17,go_sem,s0,s1,s2,s3,s4,s5,s6,m0,m1,m2,m3];exact rfl))
 have hin1:=HIN.out.ret2 (w:=w) (wf:=w4.drew) (by omega) (by omega) (by omega) (by omega) HK2.out hk3 hk4
 exact ⟨_,_,_,none,rfl,hin1,HBX.out.drew,rfl,rfl,(fun x e=>by cases e),reads_none _ _⟩
theorem rdo1 (P:Nat→Prop) (v:Rv) (al:Option Addr) (cl:Nat) (ad:Option Addr) (cd:Nat) (xs:List NdE) (m:Int) (x:NdE) (w:World) (h:RvAt w P v al cl ad cd xs) (hx:NdP w P x) (hdl:x.n.data.length≤1000000000) (hs:IxS v.l) (hz:v.size≤1000000000) (hm:v.most≤1000000000) (hf:v.l.length≤4096) (hdn:v.d.length≤1000000) :
  Calls Tryz.prog 17 #[rvV v al cl ad cd,.agg #[.int .i64 1,.int .i64 m,.int .u64 x.n.key,.int .u32 x.n.cookie,.bool x.n.gone,.slice x.a x.n.data.length x.c]] w (DoTo w P (v.del x.n.key x.n.cookie) none []):=by
 have HCALL:=Lib.hid (fun (w0:World) (hb:Below w.heap.size w w0)=>rdel_any (POld P w) v al cl ad cd xs x.n.key x.n.cookie w0 (h.old hb) hx.1.key hx.1.cookie hs hz hm hf hdn)
 have HO:=Lib.hid (fun (w':World) (hb:Below w.heap.size w w')=>h.out' hb)
 obtain ⟨R,hR⟩:∃ R,R=v.del x.n.key x.n.cookie:=⟨_,rfl⟩
 rw [←hR] at HCALL ⊢
 clear hR
 obtain ⟨⟨key,cookie,gone,data⟩,xa,xc⟩:=x
 obtain ⟨num,most,epoch,size,shut,l,dd⟩:=v
 unfold rvV at HCALL HO ⊢
 simp only at HCALL HO ⊢
 obtain ⟨ln,hln⟩:∃ ln,ln=l.length:=⟨_,rfl⟩
 obtain ⟨dn,hdn2⟩:∃ dn,dn=dd.length:=⟨_,rfl⟩
 obtain ⟨xn,hxn⟩:∃ xn,xn=data.length:=⟨_,rfl⟩
 rw [←hln,←hdn2] at HCALL HO ⊢
 rw [←hxn]
 clear h hln hdn2 hx hxn
 go_enter Tryz.func17,Tryz.ntmps17
 go_upto_region 2 with fail
 obtain ⟨w0,hw0⟩:∃ w0:World,w0=((((w.alloc (.cells #[.int .i64 num,.int .i64 most,.int .i64 epoch,.int .i64 size,.bool shut,.slice al ln cl,.slice ad dn cd] 43)).alloc (.cells #[.int .i64 1,.int .i64 m,.int .u64 key,.int .u32 cookie,.bool gone,.slice xa xn xc] 53)).alloc (.cells #[.int .i64 0,.int .i64 0,.int .i64 0,.int .i64 0,.bool false,.slice none 0 0,.slice none 0 0] 43)).alloc (.cells #[.int .u64 0,.int .u32 0,.bool false,.slice none 0 0] 49)).alloc (.cells #[.int .u64 0,.int .u32 0,.bool false,.slice none 0 0] 49):=⟨_,rfl⟩
 have HB0:=Lib.hid (show Below w.heap.size w w0 by rw [hw0];exact belCa26)
 have KV0:=Lib.hid (show w0.heap[w.heap.size]? = some (.cells #[.int .i64 num,.int .i64 most,.int .i64 epoch,.int .i64 size,.bool shut,.slice al ln cl,.slice ad dn cd] 43 (0,0)) by rw [hw0];exact blk_alloc (blk_alloc (blk_alloc (blk_alloc (heap_new w _) _) _) _) _)
 have KA0:=Lib.hid (show w0.heap[w.heap.size+1]? = some (.cells #[.int .i64 1,.int .i64 m,.int .u64 key,.int .u32 cookie,.bool gone,.slice xa xn xc] 53 (0,0)) by rw [hw0];exact blk_alloc (blk_alloc (blk_alloc (blk_new _ (by simp)) _) _) _)
 have KR0:=Lib.hid (show w0.heap[w.heap.size+2]? = some (.cells #[.int .i64 0,.int .i64 0,.int .i64 0,.int .i64 0,.bool false,.slice none 0 0,.slice none 0 0] 43 (0,0)) by rw [hw0];exact blk_alloc (blk_alloc (blk_new _ (by simp)) _) _)
 have KN0:=Lib.hid (show w0.heap[w.heap.size+3]? = some (.cells #[.int .u64 0,.int .u32 0,.bool false,.slice none 0 0] 49 (0,0)) by rw [hw0];exact blk_alloc (blk_new _ (by simp)) _)
 have KE0:=Lib.hid (show w0.heap[w.heap.size+4]? = some (.cells #[.int .u64 0,.int .u32 0,.bool false,.slice none 0 0] 49 (0,0)) by rw [hw0];exact blk_new _ (by simp))
 rw [←hw0,show w.heap.size+1+1=w.heap.size+2 from rfl,show w.heap.size+2+1=w.heap.size+3 from rfl,show w.heap.size+3+1=w.heap.size+4 from rfl]
 clear hw0
 have hz0:=HB0.out.size
 obtain ⟨v0,v1,v2,v3,v4,v5,v6⟩:=cells7' KV0.out
 obtain ⟨a0,a1,a2,a3,a4,a5⟩:=acells KA0.out
 have hl0:=blk_lt KE0.out
 go_wp2_with fail
 refine (HCALL.out w0 HB0.out).mono ?_
 rintro e w1 ⟨val,rfl,hin,hb⟩
 obtain ⟨N2,W2⟩:=R
 have hin0:=hin
 obtain ⟨al2,cl2,ad2,cd2,xs2,rfl,-⟩:=hin0
 have HIN:=Lib.hid hin
 clear hin
 obtain ⟨num2,most2,epoch2,size2,shut2,l2,dd2⟩:=W2
 unfold rvV at HIN ⊢
 simp only at HIN ⊢
 obtain ⟨ln2,hln2⟩:∃ ln2,ln2=l2.length:=⟨_,rfl⟩
 obtain ⟨dn2,hdn2⟩:∃ dn2,dn2=dd2.length:=⟨_,rfl⟩
 rw [←hln2,←hdn2] at HIN ⊢
 clear hln2 hdn2 v0 v1 v2 v3 v4 v5 v6 a0 a1 a2 a3 a4 a5
 have hz1:=hb.size
 obtain ⟨w2,hw2⟩:∃ w2:World,w2=w1.alloc (.cells #[.int .i64 num2,.int .i64 most2,.int .i64 epoch2,.int .i64 size2,.bool shut2,.slice al2 ln2 cl2,.slice ad2 dn2 cd2] 43):=⟨_,rfl⟩
 have HB2:=Lib.hid (show Below w.heap.size w w2 by rw [hw2];exact (HB0.out.trans (hb.mono hz0)).alloc (by omega) _)
 have KR2:=Lib.hid (show w2.heap[w.heap.size+2]? = some (.cells #[.int .i64 0,.int .i64 0,.int .i64 0,.int .i64 0,.bool false,.slice none 0 0,.slice none 0 0] 43 (0,0)) by rw [hw2];exact blk_alloc (blk_below' KR0.out hb) _)
 have KN2:=Lib.hid (show w2.heap[w.heap.size+3]? = some (.cells #[.int .u64 0,.int .u32 0,.bool false,.slice none 0 0] 49 (0,0)) by rw [hw2];exact blk_alloc (blk_below' KN0.out hb) _)
 have KE2:=Lib.hid (show w2.heap[w.heap.size+4]? = some (.cells #[.int .u64 0,.int .u32 0,.bool false,.slice none 0 0] 49 (0,0)) by rw [hw2];exact blk_alloc (blk_below' KE0.out hb) _)
 have KT2:=Lib.hid (show w2.heap[w1.heap.size]? = some (.cells #[.int .i64 num2,.int .i64 most2,.int .i64 epoch2,.int .i64 size2,.bool shut2,.slice al2 ln2 cl2,.slice ad2 dn2 cd2] 43 (0,0)) by rw [hw2];exact heap_new w1 _)
 have hk2:Keeps (fun k=>k=w.heap.size+2) w1 w2:=by rw [hw2];exact (Keeps.refl _ w1).alloc _
 have HK2:=Lib.hid hk2
 clear hk2 hb
 obtain ⟨t0,t1,t2,t3,t4,t5,t6⟩:=cells7' KT2.out
 obtain ⟨r0,r1,r2,r3,r4,r5,r6⟩:=cells7' KR2.out
 obtain ⟨g0,g1,g2,g3,g4,g5,g6⟩:=free7 KR2.out
 obtain ⟨n0,n1,n2,n3⟩:=ncells KN2.out
 obtain ⟨o0,o1,o2,o3⟩:=nfree KN2.out
 obtain ⟨y0,y1,y2,y3⟩:=ncells KE2.out
 have hle:=blk_lt KE2.out
 have hlr:=blk_lt KR2.out
 have hlk:=blk_lt KN2.out
 go_upto_region 8 with fail
 rw [←hw2]
 clear hw2
 obtain ⟨B,hB⟩:∃ B,B=w1.heap.size:=⟨_,rfl⟩
 have KB:=Lib.hid (show w2.heap[B]? = some (.cells #[.int .i64 num2,.int .i64 most2,.int .i64 epoch2,.int .i64 size2,.bool shut2,.slice al2 ln2 cl2,.slice ad2 dn2 cd2] 43 (0,0)) by rw [hB];exact KT2.out)
 have KB2:=Lib.hid (show w2.heap[w1.heap.size]? = some (.cells #[.int .i64 num2,.int .i64 most2,.int .i64 epoch2,.int .i64 size2,.bool shut2,.slice al2 ln2 cl2,.slice ad2 dn2 cd2] 43 (0,0)) from KT2.out)
 have hBl:=blk_lt KB.out
 have hBn:B≠w.heap.size+2:=by omega
 obtain ⟨SS,HSD⟩:∃ SS:World→Prop,Hid (SS=fun w'=>w'.heap[w.heap.size+4]? = some (.cells #[.int .u64 0,.int .u32 0,.bool false,.slice none 0 0] 49 (0,0))∧w'.heap[w1.heap.size]? = some (.cells #[.int .i64 num2,.int .i64 most2,.int .i64 epoch2,.int .i64 size2,.bool shut2,.slice al2 ln2 cl2,.slice ad2 dn2 cd2] 43 (0,0))):=⟨_,Lib.hid rfl⟩
 refine wp_region_order0 SS [0,1] [(0,2),(1,2),(2,0),(3,1),(4,1),(5,0),(6,0)] (by kernel_rfl) (by kernel_rfl) rfl (by kernel_rfl) ?_ ?_
 (focus (rw [HSD.out];exact ⟨KE2.out,hB ▸ KB.out⟩));refine stepE2 rfl rfl ?_ (fun w1 hS=>?_) fun K hK=>?_;rotate_left;(focus (rw [HSD.out] at hS;obtain ⟨hS1,hS2⟩:=hS;obtain ⟨z0,z1,z2,z3⟩:=ncells hS1;obtain ⟨z4,z5,z6,z7,z8,z9,z10⟩:=cells7' hS2;go_simp;rfl));go_simp;refine hK _ ?_;clear hK K;refine stepE2 rfl rfl ?_ (fun w1 hS=>?_) fun K hK=>?_;rotate_left;(focus (rw [HSD.out] at hS;obtain ⟨hS1,hS2⟩:=hS;obtain ⟨z0,z1,z2,z3⟩:=ncells hS1;obtain ⟨z4,z5,z6,z7,z8,z9,z10⟩:=cells7' hS2;go_simp;rfl));go_simp;refine hK _ ?_;clear hK K;refine stepE0 rfl rfl fun K hK=>?_;go_simp;refine hK _ ?_;clear hK K;refine stepE1S rfl rfl fun K hK=>?_;go_wp2
 refine ⟨by rw [HSD.out];exact ((by show _∧_;exact ⟨set7_drew KE2.out (by omega),set7_drew KB2.out (by omega)⟩)),?_⟩
 refine stepE1 rfl rfl (by kernel_rfl) fun K hK=>?_;go_wp2;(iterate 2 refine stepE0 rfl rfl fun K hK=>?_;go_simp;refine hK _ ?_;clear hK K)
 try refine stepEnil0 ?_
 clear HSD SS
 go_wp2
 obtain ⟨w3,hw3⟩:∃ w3,w3=set7i w2 (w.heap.size+2) (.int .i64 num2) (.int .i64 most2) (.int .i64 epoch2) (.int .i64 size2) (.bool shut2) (.slice al2 ln2 cl2) (.slice ad2 dn2 cd2):=⟨_,rfl⟩
 have hb3:=set7i_below (w:=w2) (B:=w.heap.size) (b:=w.heap.size+2) (by omega) (.int .i64 num2) (.int .i64 most2) (.int .i64 epoch2) (.int .i64 size2) (.bool shut2) (.slice al2 ln2 cl2) (.slice ad2 dn2 cd2)
 have k3:=store7i (KR2.out) (.int .i64 num2) (.int .i64 most2) (.int .i64 epoch2) (.int .i64 size2) (.bool shut2) (.slice al2 ln2 cl2) (.slice ad2 dn2 cd2)
 have hk3:=set7i_keeps w2 (w.heap.size+2) (.int .i64 num2) (.int .i64 most2) (.int .i64 epoch2) (.int .i64 size2) (.bool shut2) (.slice al2 ln2 cl2) (.slice ad2 dn2 cd2)
 have n3:w3.heap[w.heap.size+3]? = some (.cells #[.int .u64 0,.int .u32 0,.bool false,.slice none 0 0] 49 (0,0)):=by rw [hw3];exact (hk3.block _ hlk (by omega)).trans KN2.out
 rw [←hw3] at hb3 k3 hk3
 obtain ⟨w4,hw4⟩:∃ w4,w4=set4 w3 (w.heap.size+3) (.int .u64 0) (.int .u32 0) (.bool false) (.slice none 0 0):=⟨_,rfl⟩
 have hb4:=set4_below (w:=w3) (B:=w.heap.size) (b:=w.heap.size+3) (by omega) (.int .u64 0) (.int .u32 0) (.bool false) (.slice none 0 0)
 have k4:=store4 n3 (.int .u64 0) (.int .u32 0) (.bool false) (.slice none 0 0)
 have hk4:=set4_keeps w3 (w.heap.size+3) (.int .u64 0) (.int .u32 0) (.bool false) (.slice none 0 0)
 have k34:w4.heap[w.heap.size+2]? = _:=hw4 ▸ (hk4.block _ (blk_lt k3) (by omega)).trans k3
 rw [←hw4] at hb4 k4 hk4
 have HBX:=Lib.hid ((HB2.out.trans hb3).trans hb4)
 unfold set7i at hw3
 unfold set4 at hw4
 rw [hw3] at hw4
 rw [←hw4]
 clear hw3 hw4 hb3 hb4
 obtain ⟨s0,s1,s2,s3,s4,s5,s6⟩:=cells7' (blk_drew k34)
 obtain ⟨m0,m1,m2,m3⟩:=ncells (blk_drew k4)
 refine bodyPost_ret (v:=?_) ?_ rfl ?_
 rotate_left;(focus (simp [results,Tryz.results17,go_sem,s0,s1,s2,s3,s4,s5,s6,m0,m1,m2,m3];exact rfl))
 have hin1:=HIN.out.ret2 (w:=w) (wf:=w4.drew) (by omega) (by omega) (by omega) (by omega) HK2.out hk3 hk4
 exact ⟨_,_,_,none,rfl,hin1,HBX.out.drew,rfl,rfl,(fun x e=>by cases e),reads_none _ _⟩
theorem rdo4 (P:Nat→Prop) (v:Rv) (al:Option Addr) (cl:Nat) (ad:Option Addr) (cd:Nat) (xs:List NdE) (m:Int) (x:NdE) (w:World) (h:RvAt w P v al cl ad cd xs) (hx:NdP w P x) (hdl:x.n.data.length≤1000000000) (hs:IxS v.l) (hz:v.size≤1000000000) (hm:v.most≤1000000000) (hf:v.l.length≤4096) (hdn:v.d.length≤1000000) :
  Calls Tryz.prog 17 #[rvV v al cl ad cd,.agg #[.int .i64 4,.int .i64 m,.int .u64 x.n.key,.int .u32 x.n.cookie,.bool x.n.gone,.slice x.a x.n.data.length x.c]] w (DoTo w P (v.set m x.n.gone) none []):=by
 have HCALL:=Lib.hid (fun (w0:World) (hb:Below w.heap.size w w0)=>rset_any (POld P w) v al cl ad cd xs m x.n.gone w0 (h.old hb))
 have HO:=Lib.hid (fun (w':World) (hb:Below w.heap.size w w')=>h.out' hb)
 obtain ⟨R,hR⟩:∃ R,R=v.set m x.n.gone:=⟨_,rfl⟩
 rw [←hR] at HCALL ⊢
 clear hR
 obtain ⟨⟨key,cookie,gone,data⟩,xa,xc⟩:=x
 obtain ⟨num,most,epoch,size,shut,l,dd⟩:=v
 unfold rvV at HCALL HO ⊢
 simp only at HCALL HO ⊢
 obtain ⟨ln,hln⟩:∃ ln,ln=l.length:=⟨_,rfl⟩
 obtain ⟨dn,hdn2⟩:∃ dn,dn=dd.length:=⟨_,rfl⟩
 obtain ⟨xn,hxn⟩:∃ xn,xn=data.length:=⟨_,rfl⟩
 rw [←hln,←hdn2] at HCALL HO ⊢
 rw [←hxn]
 clear h hln hdn2 hx hxn
 go_enter Tryz.func17,Tryz.ntmps17
 go_upto_region 2 with fail
 obtain ⟨w0,hw0⟩:∃ w0:World,w0=((((w.alloc (.cells #[.int .i64 num,.int .i64 most,.int .i64 epoch,.int .i64 size,.bool shut,.slice al ln cl,.slice ad dn cd] 43)).alloc (.cells #[.int .i64 4,.int .i64 m,.int .u64 key,.int .u32 cookie,.bool gone,.slice xa xn xc] 53)).alloc (.cells #[.int .i64 0,.int .i64 0,.int .i64 0,.int .i64 0,.bool false,.slice none 0 0,.slice none 0 0] 43)).alloc (.cells #[.int .u64 0,.int .u32 0,.bool false,.slice none 0 0] 49)).alloc (.cells #[.int .u64 0,.int .u32 0,.bool false,.slice none 0 0] 49):=⟨_,rfl⟩
 have HB0:=Lib.hid (show Below w.heap.size w w0 by rw [hw0];exact belCa26)
 have KV0:=Lib.hid (show w0.heap[w.heap.size]? = some (.cells #[.int .i64 num,.int .i64 most,.int .i64 epoch,.int .i64 size,.bool shut,.slice al ln cl,.slice ad dn cd] 43 (0,0)) by rw [hw0];exact blk_alloc (blk_alloc (blk_alloc (blk_alloc (heap_new w _) _) _) _) _)
 have KA0:=Lib.hid (show w0.heap[w.heap.size+1]? = some (.cells #[.int .i64 4,.int .i64 m,.int .u64 key,.int .u32 cookie,.bool gone,.slice xa xn xc] 53 (0,0)) by rw [hw0];exact blk_alloc (blk_alloc (blk_alloc (blk_new _ (by simp)) _) _) _)
 have KR0:=Lib.hid (show w0.heap[w.heap.size+2]? = some (.cells #[.int .i64 0,.int .i64 0,.int .i64 0,.int .i64 0,.bool false,.slice none 0 0,.slice none 0 0] 43 (0,0)) by rw [hw0];exact blk_alloc (blk_alloc (blk_new _ (by simp)) _) _)
 have KN0:=Lib.hid (show w0.heap[w.heap.size+3]? = some (.cells #[.int .u64 0,.int .u32 0,.bool false,.slice none 0 0] 49 (0,0)) by rw [hw0];exact blk_alloc (blk_new _ (by simp)) _)
 have KE0:=Lib.hid (show w0.heap[w.heap.size+4]? = some (.cells #[.int .u64 0,.int .u32 0,.bool false,.slice none 0 0] 49 (0,0)) by rw [hw0];exact blk_new _ (by simp))
 rw [←hw0,show w.heap.size+1+1=w.heap.size+2 from rfl,show w.heap.size+2+1=w.heap.size+3 from rfl,show w.heap.size+3+1=w.heap.size+4 from rfl]
 clear hw0
 have hz0:=HB0.out.size
 obtain ⟨v0,v1,v2,v3,v4,v5,v6⟩:=cells7' KV0.out
 obtain ⟨a0,a1,a2,a3,a4,a5⟩:=acells KA0.out
 have hl0:=blk_lt KE0.out
 go_wp2_with fail
 refine (HCALL.out w0 HB0.out).mono ?_
 rintro e w1 ⟨val,rfl,hin,hb⟩
 obtain ⟨N2,W2⟩:=R
 have hin0:=hin
 obtain ⟨al2,cl2,ad2,cd2,xs2,rfl,-⟩:=hin0
 have HIN:=Lib.hid hin
 clear hin
 obtain ⟨num2,most2,epoch2,size2,shut2,l2,dd2⟩:=W2
 unfold rvV at HIN ⊢
 simp only at HIN ⊢
 obtain ⟨ln2,hln2⟩:∃ ln2,ln2=l2.length:=⟨_,rfl⟩
 obtain ⟨dn2,hdn2⟩:∃ dn2,dn2=dd2.length:=⟨_,rfl⟩
 rw [←hln2,←hdn2] at HIN ⊢
 clear hln2 hdn2 v0 v1 v2 v3 v4 v5 v6 a0 a1 a2 a3 a4 a5
 have hz1:=hb.size
 obtain ⟨w2,hw2⟩:∃ w2:World,w2=w1.alloc (.cells #[.int .i64 num2,.int .i64 most2,.int .i64 epoch2,.int .i64 size2,.bool shut2,.slice al2 ln2 cl2,.slice ad2 dn2 cd2] 43):=⟨_,rfl⟩
 have HB2:=Lib.hid (show Below w.heap.size w w2 by rw [hw2];exact (HB0.out.trans (hb.mono hz0)).alloc (by omega) _)
 have KR2:=Lib.hid (show w2.heap[w.heap.size+2]? = some (.cells #[.int .i64 0,.int .i64 0,.int .i64 0,.int .i64 0,.bool false,.slice none 0 0,.slice none 0 0] 43 (0,0)) by rw [hw2];exact blk_alloc (blk_below' KR0.out hb) _)
 have KN2:=Lib.hid (show w2.heap[w.heap.size+3]? = some (.cells #[.int .u64 0,.int .u32 0,.bool false,.slice none 0 0] 49 (0,0)) by rw [hw2];exact blk_alloc (blk_below' KN0.out hb) _)
 have KE2:=Lib.hid (show w2.heap[w.heap.size+4]? = some (.cells #[.int .u64 0,.int .u32 0,.bool false,.slice none 0 0] 49 (0,0)) by rw [hw2];exact blk_alloc (blk_below' KE0.out hb) _)
 have KT2:=Lib.hid (show w2.heap[w1.heap.size]? = some (.cells #[.int .i64 num2,.int .i64 most2,.int .i64 epoch2,.int .i64 size2,.bool shut2,.slice al2 ln2 cl2,.slice ad2 dn2 cd2] 43 (0,0)) by rw [hw2];exact heap_new w1 _)
 have hk2:Keeps (fun k=>k=w.heap.size+2) w1 w2:=by rw [hw2];exact (Keeps.refl _ w1).alloc _
 have HK2:=Lib.hid hk2
 clear hk2 hb
 obtain ⟨t0,t1,t2,t3,t4,t5,t6⟩:=cells7' KT2.out
 obtain ⟨r0,r1,r2,r3,r4,r5,r6⟩:=cells7' KR2.out
 obtain ⟨g0,g1,g2,g3,g4,g5,g6⟩:=free7 KR2.out
 obtain ⟨n0,n1,n2,n3⟩:=ncells KN2.out
 obtain ⟨o0,o1,o2,o3⟩:=nfree KN2.out
 obtain ⟨y0,y1,y2,y3⟩:=ncells KE2.out
 have hle:=blk_lt KE2.out
 have hlr:=blk_lt KR2.out
 have hlk:=blk_lt KN2.out
 go_upto_region 25 with fail
 rw [←hw2]
 clear hw2
 obtain ⟨B,hB⟩:∃ B,B=w1.heap.size:=⟨_,rfl⟩
 have KB:=Lib.hid (show w2.heap[B]? = some (.cells #[.int .i64 num2,.int .i64 most2,.int .i64 epoch2,.int .i64 size2,.bool shut2,.slice al2 ln2 cl2,.slice ad2 dn2 cd2] 43 (0,0)) by rw [hB];exact KT2.out)
 have KB2:=Lib.hid (show w2.heap[w1.heap.size]? = some (.cells #[.int .i64 num2,.int .i64 most2,.int .i64 epoch2,.int .i64 size2,.bool shut2,.slice al2 ln2 cl2,.slice ad2 dn2 cd2] 43 (0,0)) from KT2.out)
 have hBl:=blk_lt KB.out
 have hBn:B≠w.heap.size+2:=by omega
 obtain ⟨SS,HSD⟩:∃ SS:World→Prop,Hid (SS=fun w'=>w'.heap[w.heap.size+4]? = some (.cells #[.int .u64 0,.int .u32 0,.bool false,.slice none 0 0] 49 (0,0))∧w'.heap[w1.heap.size]? = some (.cells #[.int .i64 num2,.int .i64 most2,.int .i64 epoch2,.int .i64 size2,.bool shut2,.slice al2 ln2 cl2,.slice ad2 dn2 cd2] 43 (0,0))):=⟨_,Lib.hid rfl⟩
 refine wp_region_order0 SS [0,1] [(0,2),(1,2),(2,0),(3,1),(4,1),(5,0),(6,0)] (by kernel_rfl) (by kernel_rfl) rfl (by kernel_rfl) ?_ ?_
 (focus (rw [HSD.out];exact ⟨KE2.out,hB ▸ KB.out⟩));refine stepE2 rfl rfl ?_ (fun w1 hS=>?_) fun K hK=>?_;rotate_left;(focus (rw [HSD.out] at hS;obtain ⟨hS1,hS2⟩:=hS;obtain ⟨z0,z1,z2,z3⟩:=ncells hS1;obtain ⟨z4,z5,z6,z7,z8,z9,z10⟩:=cells7' hS2;go_simp;rfl));go_simp;refine hK _ ?_;clear hK K;refine stepE2 rfl rfl ?_ (fun w1 hS=>?_) fun K hK=>?_;rotate_left;(focus (rw [HSD.out] at hS;obtain ⟨hS1,hS2⟩:=hS;obtain ⟨z0,z1,z2,z3⟩:=ncells hS1;obtain ⟨z4,z5,z6,z7,z8,z9,z10⟩:=cells7' hS2;go_simp;rfl));go_simp;refine hK _ ?_;clear hK K;refine stepE0 rfl rfl fun K hK=>?_;go_simp;refine hK _ ?_;clear hK K;refine stepE1S rfl rfl fun K hK=>?_;go_wp2
 refine ⟨by rw [HSD.out];exact ((by show _∧_;exact ⟨set7_drew KE2.out (by omega),set7_drew KB2.out (by omega)⟩)),?_⟩
 refine stepE1 rfl rfl (by kernel_rfl) fun K hK=>?_;go_wp2;(iterate 2 refine stepE0 rfl rfl fun K hK=>?_;go_simp;refine hK _ ?_;clear hK K)
 try refine stepEnil0 ?_
 clear HSD SS
 go_wp2
 obtain ⟨w3,hw3⟩:∃ w3,w3=set7i w2 (w.heap.size+2) (.int .i64 num2) (.int .i64 most2) (.int .i64 epoch2) (.int .i64 size2) (.bool shut2) (.slice al2 ln2 cl2) (.slice ad2 dn2 cd2):=⟨_,rfl⟩
 have hb3:=set7i_below (w:=w2) (B:=w.heap.size) (b:=w.heap.size+2) (by omega) (.int .i64 num2) (.int .i64 most2) (.int .i64 epoch2) (.int .i64 size2) (.bool shut2) (.slice al2 ln2 cl2) (.slice ad2 dn2 cd2)
 have k3:=store7i (KR2.out) (.int .i64 num2) (.int .i64 most2) (.int .i64 epoch2) (.int .i64 size2) (.bool shut2) (.slice al2 ln2 cl2) (.slice ad2 dn2 cd2)
 have hk3:=set7i_keeps w2 (w.heap.size+2) (.int .i64 num2) (.int .i64 most2) (.int .i64 epoch2) (.int .i64 size2) (.bool shut2) (.slice al2 ln2 cl2) (.slice ad2 dn2 cd2)
 have n3:w3.heap[w.heap.size+3]? = some (.cells #[.int .u64 0,.int .u32 0,.bool false,.slice none 0 0] 49 (0,0)):=by rw [hw3];exact (hk3.block _ hlk (by omega)).trans KN2.out
 rw [←hw3] at hb3 k3 hk3
 obtain ⟨w4,hw4⟩:∃ w4,w4=set4 w3 (w.heap.size+3) (.int .u64 0) (.int .u32 0) (.bool false) (.slice none 0 0):=⟨_,rfl⟩
 have hb4:=set4_below (w:=w3) (B:=w.heap.size) (b:=w.heap.size+3) (by omega) (.int .u64 0) (.int .u32 0) (.bool false) (.slice none 0 0)
 have k4:=store4 n3 (.int .u64 0) (.int .u32 0) (.bool false) (.slice none 0 0)
 have hk4:=set4_keeps w3 (w.heap.size+3) (.int .u64 0) (.int .u32 0) (.bool false) (.slice none 0 0)
 have k34:w4.heap[w.heap.size+2]? = _:=hw4 ▸ (hk4.block _ (blk_lt k3) (by omega)).trans k3
 rw [←hw4] at hb4 k4 hk4
 have HBX:=Lib.hid ((HB2.out.trans hb3).trans hb4)
 unfold set7i at hw3
 unfold set4 at hw4
 rw [hw3] at hw4
 rw [←hw4]
 clear hw3 hw4 hb3 hb4
 obtain ⟨s0,s1,s2,s3,s4,s5,s6⟩:=cells7' (blk_drew k34)
 obtain ⟨m0,m1,m2,m3⟩:=ncells (blk_drew k4)
 refine bodyPost_ret (v:=?_) ?_ rfl ?_
 rotate_left;(focus (simp [results,Tryz.results17,go_sem,s0,s1,s2,s3,s4,s5,s6,m0,m1,m2,m3];exact rfl))
 have hin1:=HIN.out.ret2 (w:=w) (wf:=w4.drew) (by omega) (by omega) (by omega) (by omega) HK2.out hk3 hk4
 exact ⟨_,_,_,none,rfl,hin1,HBX.out.drew,rfl,rfl,(fun x e=>by cases e),reads_none _ _⟩
theorem rdoE (P:Nat→Prop) (v:Rv) (al:Option Addr) (cl:Nat) (ad:Option Addr) (cd:Nat) (xs:List NdE) (kd m:Int) (x:NdE) (w:World) (hk0:kd≠0) (hk1:kd≠1) (hk2:kd≠2) (hk3:kd≠3) (hk4:kd≠4) (h:RvAt w P v al cl ad cd xs) (hx:NdP w P x) (hdl:x.n.data.length≤1000000000) (hs:IxS v.l) (hz:v.size≤1000000000) (hm:v.most≤1000000000) (hf:v.l.length≤4096) (hdn:v.d.length≤1000000) :
  Calls Tryz.prog 17 #[rvV v al cl ad cd,.agg #[.int .i64 kd,.int .i64 m,.int .u64 x.n.key,.int .u32 x.n.cookie,.bool x.n.gone,.slice x.a x.n.data.length x.c]] w (DoTo w P ((0,v)) none []):=by
 have HO:=Lib.hid (fun (w':World) (hb:Below w.heap.size w w')=>h.out' hb)
 obtain ⟨⟨key,cookie,gone,data⟩,xa,xc⟩:=x
 obtain ⟨num,most,epoch,size,shut,l,dd⟩:=v
 unfold rvV at HO ⊢
 simp only at HO ⊢
 obtain ⟨ln,hln⟩:∃ ln,ln=l.length:=⟨_,rfl⟩
 obtain ⟨dn,hdn2⟩:∃ dn,dn=dd.length:=⟨_,rfl⟩
 obtain ⟨xn,hxn⟩:∃ xn,xn=data.length:=⟨_,rfl⟩
 rw [←hln,←hdn2] at HO ⊢
 rw [←hxn]
 clear h hln hdn2 hx hxn
 have e0:(kd == 0)=false:=by simp;omega
 have f0:decide (kd=0)=false:=by simp;omega
 have e1:(kd == 1)=false:=by simp;omega
 have f1:decide (kd=1)=false:=by simp;omega
 have e2:(kd == 2)=false:=by simp;omega
 have f2:decide (kd=2)=false:=by simp;omega
 have e3:(kd == 3)=false:=by simp;omega
 have f3:decide (kd=3)=false:=by simp;omega
 have e4:(kd == 4)=false:=by simp;omega
 have f4:decide (kd=4)=false:=by simp;omega
 clear hk0 hk1 hk2 hk3 hk4
 go_enter Tryz.func17,Tryz.ntmps17
 go_upto_region 2 with fail
 obtain ⟨w0,hw0⟩:∃ w0:World,w0=((((w.alloc (.cells #[.int .i64 num,.int .i64 most,.int .i64 epoch,.int .i64 size,.bool shut,.slice al ln cl,.slice ad dn cd] 43)).alloc (.cells #[.int .i64 kd,.int .i64 m,.int .u64 key,.int .u32 cookie,.bool gone,.slice xa xn xc] 53)).alloc (.cells #[.int .i64 0,.int .i64 0,.int .i64 0,.int .i64 0,.bool false,.slice none 0 0,.slice none 0 0] 43)).alloc (.cells #[.int .u64 0,.int .u32 0,.bool false,.slice none 0 0] 49)).alloc (.cells #[.int .u64 0,.int .u32 0,.bool false,.slice none 0 0] 49):=⟨_,rfl⟩
 have HB0:=Lib.hid (show Below w.heap.size w w0 by rw [hw0];exact belCa26)
 have KV0:=Lib.hid (show w0.heap[w.heap.size]? = some (.cells #[.int .i64 num,.int .i64 most,.int .i64 epoch,.int .i64 size,.bool shut,.slice al ln cl,.slice ad dn cd] 43 (0,0)) by rw [hw0];exact blk_alloc (blk_alloc (blk_alloc (blk_alloc (heap_new w _) _) _) _) _)
 have KA0:=Lib.hid (show w0.heap[w.heap.size+1]? = some (.cells #[.int .i64 kd,.int .i64 m,.int .u64 key,.int .u32 cookie,.bool gone,.slice xa xn xc] 53 (0,0)) by rw [hw0];exact blk_alloc (blk_alloc (blk_alloc (blk_new _ (by simp)) _) _) _)
 have KR0:=Lib.hid (show w0.heap[w.heap.size+2]? = some (.cells #[.int .i64 0,.int .i64 0,.int .i64 0,.int .i64 0,.bool false,.slice none 0 0,.slice none 0 0] 43 (0,0)) by rw [hw0];exact blk_alloc (blk_alloc (blk_new _ (by simp)) _) _)
 have KN0:=Lib.hid (show w0.heap[w.heap.size+3]? = some (.cells #[.int .u64 0,.int .u32 0,.bool false,.slice none 0 0] 49 (0,0)) by rw [hw0];exact blk_alloc (blk_new _ (by simp)) _)
 have KE0:=Lib.hid (show w0.heap[w.heap.size+4]? = some (.cells #[.int .u64 0,.int .u32 0,.bool false,.slice none 0 0] 49 (0,0)) by rw [hw0];exact blk_new _ (by simp))
 rw [←hw0,show w.heap.size+1+1=w.heap.size+2 from rfl,show w.heap.size+2+1=w.heap.size+3 from rfl,show w.heap.size+3+1=w.heap.size+4 from rfl]
 clear hw0
 have hz0:=HB0.out.size
 obtain ⟨v0,v1,v2,v3,v4,v5,v6⟩:=cells7' KV0.out
 obtain ⟨a0,a1,a2,a3,a4,a5⟩:=acells KA0.out
 have hl0:=blk_lt KE0.out
 obtain ⟨r0,r1,r2,r3,r4,r5,r6⟩:=cells7' KR0.out
 obtain ⟨g0,g1,g2,g3,g4,g5,g6⟩:=free7 KR0.out
 obtain ⟨n0,n1,n2,n3⟩:=ncells KN0.out
 obtain ⟨o0,o1,o2,o3⟩:=nfree KN0.out
 obtain ⟨y0,y1,y2,y3⟩:=ncells KE0.out
 have hle:=blk_lt KE0.out
 have hlr:=blk_lt KR0.out
 have hlk:=blk_lt KN0.out
 go_upto_region 26 with fail
 obtain ⟨B,hB⟩:∃ B,B=w.heap.size:=⟨_,rfl⟩
 have KB:=Lib.hid (show w0.heap[B]? = some (.cells #[.int .i64 num,.int .i64 most,.int .i64 epoch,.int .i64 size,.bool shut,.slice al ln cl,.slice ad dn cd] 43 (0,0)) by rw [hB];exact KV0.out)
 have KB2:=Lib.hid (show w0.heap[w.heap.size]? = some (.cells #[.int .i64 num,.int .i64 most,.int .i64 epoch,.int .i64 size,.bool shut,.slice al ln cl,.slice ad dn cd] 43 (0,0)) from KV0.out)
 have hBl:=blk_lt KB.out
 have hBn:B≠w.heap.size+2:=by omega
 obtain ⟨SS,HSD⟩:∃ SS:World→Prop,Hid (SS=fun w'=>w'.heap[w.heap.size+4]? = some (.cells #[.int .u64 0,.int .u32 0,.bool false,.slice none 0 0] 49 (0,0))∧w'.heap[w.heap.size]? = some (.cells #[.int .i64 num,.int .i64 most,.int .i64 epoch,.int .i64 size,.bool shut,.slice al ln cl,.slice ad dn cd] 43 (0,0))):=⟨_,Lib.hid rfl⟩
 refine wp_region_order0 SS [0,1] [(0,2),(1,2),(2,1),(3,1),(4,0),(5,0)] (by kernel_rfl) (by kernel_rfl) rfl (by kernel_rfl) ?_ ?_
 (focus (rw [HSD.out];exact ⟨KE0.out,hB ▸ KB.out⟩));refine stepE2 rfl rfl ?_ (fun w1 hS=>?_) fun K hK=>?_;rotate_left;(focus (rw [HSD.out] at hS;obtain ⟨hS1,hS2⟩:=hS;obtain ⟨z0,z1,z2,z3⟩:=ncells hS1;obtain ⟨z4,z5,z6,z7,z8,z9,z10⟩:=cells7' hS2;go_simp;rfl));go_simp;refine hK _ ?_;clear hK K;refine stepE2 rfl rfl ?_ (fun w1 hS=>?_) fun K hK=>?_;rotate_left;(focus (rw [HSD.out] at hS;obtain ⟨hS1,hS2⟩:=hS;obtain ⟨z0,z1,z2,z3⟩:=ncells hS1;obtain ⟨z4,z5,z6,z7,z8,z9,z10⟩:=cells7' hS2;go_simp;rfl));go_simp;refine hK _ ?_;clear hK K;refine stepE1S rfl rfl fun K hK=>?_;go_wp2
 refine ⟨by rw [HSD.out];exact ((by show _∧_;exact ⟨set7_drew KE0.out (by omega),set7_drew KB2.out (by omega)⟩)),?_⟩
 refine stepE1 rfl rfl (by kernel_rfl) fun K hK=>?_;go_wp2;(iterate 2 refine stepE0 rfl rfl fun K hK=>?_;go_simp;refine hK _ ?_;clear hK K)
 try refine stepEnil0 ?_
 clear HSD SS
 go_wp2
 obtain ⟨w3,hw3⟩:∃ w3,w3=set7i w0 (w.heap.size+2) (.int .i64 num) (.int .i64 most) (.int .i64 epoch) (.int .i64 size) (.bool shut) (.slice al ln cl) (.slice ad dn cd):=⟨_,rfl⟩
 have hb3:=set7i_below (w:=w0) (B:=w.heap.size) (b:=w.heap.size+2) (by omega) (.int .i64 num) (.int .i64 most) (.int .i64 epoch) (.int .i64 size) (.bool shut) (.slice al ln cl) (.slice ad dn cd)
 have k3:=store7i (KR0.out) (.int .i64 num) (.int .i64 most) (.int .i64 epoch) (.int .i64 size) (.bool shut) (.slice al ln cl) (.slice ad dn cd)
 have hk3:=set7i_keeps w0 (w.heap.size+2) (.int .i64 num) (.int .i64 most) (.int .i64 epoch) (.int .i64 size) (.bool shut) (.slice al ln cl) (.slice ad dn cd)
 have n3:w3.heap[w.heap.size+3]? = some (.cells #[.int .u64 0,.int .u32 0,.bool false,.slice none 0 0] 49 (0,0)):=by rw [hw3];exact (hk3.block _ hlk (by omega)).trans KN0.out
 rw [←hw3] at hb3 k3 hk3
 obtain ⟨w4,hw4⟩:∃ w4,w4=set4 w3 (w.heap.size+3) (.int .u64 0) (.int .u32 0) (.bool false) (.slice none 0 0):=⟨_,rfl⟩
 have hb4:=set4_below (w:=w3) (B:=w.heap.size) (b:=w.heap.size+3) (by omega) (.int .u64 0) (.int .u32 0) (.bool false) (.slice none 0 0)
 have k4:=store4 n3 (.int .u64 0) (.int .u32 0) (.bool false) (.slice none 0 0)
 have hk4:=set4_keeps w3 (w.heap.size+3) (.int .u64 0) (.int .u32 0) (.bool false) (.slice none 0 0)
 have k34:w4.heap[w.heap.size+2]? = _:=hw4 ▸ (hk4.block _ (blk_lt k3) (by omega)).trans k3
 rw [←hw4] at hb4 k4 hk4
 have HBX:=Lib.hid ((HB0.out.trans hb3).trans hb4)
 unfold set7i at hw3
 unfold set4 at hw4
 rw [hw3] at hw4
 rw [←hw4]
 clear hw3 hw4 hb3 hb4
 obtain ⟨s0,s1,s2,s3,s4,s5,s6⟩:=cells7' (blk_drew k34)
 obtain ⟨m0,m1,m2,m3⟩:=ncells (blk_drew k4)
 refine bodyPost_ret (v:=?_) ?_ rfl ?_
 rotate_left;(focus (simp [results,Tryz.results17,go_sem,s0,s1,s2,s3,s4,s5,s6,m0,m1,m2,m3];exact rfl))
 exact ⟨_,_,_,none,rfl,HO.out _ HBX.out.drew,HBX.out.drew,rfl,rfl,(fun x e=>by cases e),reads_none _ _⟩
theorem rdo2 (P:Nat→Prop) (v:Rv) (al:Option Addr) (cl:Nat) (ad:Option Addr) (cd:Nat) (xs:List NdE) (m:Int) (x:NdE) (w:World) (h:RvAt w P v al cl ad cd xs) :
  Calls Tryz.prog 17 #[rvV v al cl ad cd,.agg #[.int .i64 2,.int .i64 m,.int .u64 x.n.key,.int .u32 x.n.cookie,.bool x.n.gone,.slice x.a x.n.data.length x.c]] w (DoTo w P (v.look x.n.key x.n.cookie,v) (if v.look x.n.key x.n.cookie=0 then lastOf v.d x.n.key else none) []):=by
 have HLK:=Lib.hid (fun (w0:World) (hb:Below w.heap.size w w0)=>rlook_any P v al cl ad cd xs x.n.key x.n.cookie w0 (h.kp (KP.of hb)))
 have HNW:=Lib.hid (fun (w0:World) (hb:Below w.heap.size w w0)=>rnewest_any v.num v.most v.epoch v.size v.shut (.slice al v.l.length cl) ad v.d.length cd xs x.n.key w0 h.rd.len (h.rd.row.below hb) ⟨_,_,_,rfl⟩)
 have HO:=Lib.hid (fun (w':World) (hb:Below w.heap.size w w')=>h.out' hb)
 have HIN:=Lib.hid (fun (w':World) (hb:Below w.heap.size w w') (y:NdE) (hy:y∈xs)=>(NdP.below (show NdP w P y from h.rd.ins y hy) hb).1)
 have HSM:=Lib.hid (show v.look x.n.key x.n.cookie=0→lastOf v.d x.n.key≠none from fun e0 e1=>by
  unfold Rv.look at e0
  rw [e1] at e0
  cases e0)
 obtain ⟨K,hK⟩:∃ K,K=v.look x.n.key x.n.cookie:=⟨_,rfl⟩
 rw [←hK] at HLK HSM ⊢
 obtain ⟨L,hL⟩:∃ L,L=lastOf v.d x.n.key:=⟨_,rfl⟩
 rw [h.eq,←hL] at HNW
 rw [←hL] at HSM ⊢
 obtain ⟨F,hF⟩:∃ F,F=(if K=0 then L else none):=⟨_,rfl⟩
 rw [←hF]
 have HF:=Lib.hid hF
 clear hK hL hF
 obtain ⟨⟨key,cookie,gone,data⟩,xa,xc⟩:=x
 obtain ⟨num,most,epoch,size,shut,l,dd⟩:=v
 unfold rvV at HLK HO ⊢
 simp only at HLK HNW HO ⊢
 obtain ⟨ln,hln⟩:∃ ln,ln=l.length:=⟨_,rfl⟩
 obtain ⟨dn,hdn2⟩:∃ dn,dn=dd.length:=⟨_,rfl⟩
 obtain ⟨xn,hxn⟩:∃ xn,xn=data.length:=⟨_,rfl⟩
 rw [←hln,←hdn2] at HLK HNW HO ⊢
 rw [←hxn]
 clear h hln hdn2 hxn
 go_enter Tryz.func17,Tryz.ntmps17
 go_upto_region 2 with fail
 obtain ⟨w0,hw0⟩:∃ w0:World,w0=((((w.alloc (.cells #[.int .i64 num,.int .i64 most,.int .i64 epoch,.int .i64 size,.bool shut,.slice al ln cl,.slice ad dn cd] 43)).alloc (.cells #[.int .i64 2,.int .i64 m,.int .u64 key,.int .u32 cookie,.bool gone,.slice xa xn xc] 53)).alloc (.cells #[.int .i64 0,.int .i64 0,.int .i64 0,.int .i64 0,.bool false,.slice none 0 0,.slice none 0 0] 43)).alloc (.cells #[.int .u64 0,.int .u32 0,.bool false,.slice none 0 0] 49)).alloc (.cells #[.int .u64 0,.int .u32 0,.bool false,.slice none 0 0] 49):=⟨_,rfl⟩
 have HB0:=Lib.hid (show Below w.heap.size w w0 by rw [hw0];exact belCa26)
 have KV0:=Lib.hid (show w0.heap[w.heap.size]? = some (.cells #[.int .i64 num,.int .i64 most,.int .i64 epoch,.int .i64 size,.bool shut,.slice al ln cl,.slice ad dn cd] 43 (0,0)) by rw [hw0];exact blk_alloc (blk_alloc (blk_alloc (blk_alloc (heap_new w _) _) _) _) _)
 have KA0:=Lib.hid (show w0.heap[w.heap.size+1]? = some (.cells #[.int .i64 2,.int .i64 m,.int .u64 key,.int .u32 cookie,.bool gone,.slice xa xn xc] 53 (0,0)) by rw [hw0];exact blk_alloc (blk_alloc (blk_alloc (blk_new _ (by simp)) _) _) _)
 have KR0:=Lib.hid (show w0.heap[w.heap.size+2]? = some (.cells #[.int .i64 0,.int .i64 0,.int .i64 0,.int .i64 0,.bool false,.slice none 0 0,.slice none 0 0] 43 (0,0)) by rw [hw0];exact blk_alloc (blk_alloc (blk_new _ (by simp)) _) _)
 have KN0:=Lib.hid (show w0.heap[w.heap.size+3]? = some (.cells #[.int .u64 0,.int .u32 0,.bool false,.slice none 0 0] 49 (0,0)) by rw [hw0];exact blk_alloc (blk_new _ (by simp)) _)
 have KE0:=Lib.hid (show w0.heap[w.heap.size+4]? = some (.cells #[.int .u64 0,.int .u32 0,.bool false,.slice none 0 0] 49 (0,0)) by rw [hw0];exact blk_new _ (by simp))
 rw [←hw0,show w.heap.size+1+1=w.heap.size+2 from rfl,show w.heap.size+2+1=w.heap.size+3 from rfl,show w.heap.size+3+1=w.heap.size+4 from rfl]
 clear hw0
 have hz0:=HB0.out.size
 obtain ⟨v0,v1,v2,v3,v4,v5,v6⟩:=cells7' KV0.out
 obtain ⟨a0,a1,a2,a3,a4,a5⟩:=acells KA0.out
 have hl0:=blk_lt KE0.out
 go_wp2_with fail
 refine (HLK.out w0 HB0.out).mono ?_
 rintro e w1 ⟨rfl,hb⟩
 have KV1:=Lib.hid (blk_below' KV0.out hb)
 have KA1:=Lib.hid (blk_below' KA0.out hb)
 have KR1:=Lib.hid (blk_below' KR0.out hb)
 have KN1:=Lib.hid (blk_below' KN0.out hb)
 have KE1:=Lib.hid (blk_below' KE0.out hb)
 have HB1:=Lib.hid (HB0.out.trans (hb.mono hz0))
 have hz1:=hb.size
 clear hb v0 v1 v2 v3 v4 v5 v6 a0 a1 a2 a3 a4 a5
 by_cases hk0:K=0
 case neg=>
  have e1:((K:Int) != 0)=true:=by simp;omega
  have HE:=Lib.hid (HF.out.trans (if_neg hk0))
  clear hk0
  obtain ⟨r0,r1,r2,r3,r4,r5,r6⟩:=cells7' KR1.out
  obtain ⟨g0,g1,g2,g3,g4,g5,g6⟩:=free7 KR1.out
  obtain ⟨n0,n1,n2,n3⟩:=ncells KN1.out
  obtain ⟨o0,o1,o2,o3⟩:=nfree KN1.out
  obtain ⟨y0,y1,y2,y3⟩:=ncells KE1.out
  have hle:=blk_lt KE1.out
  have hlr:=blk_lt KR1.out
  have hlk:=blk_lt KN1.out
  go_upto_region 12 with fail
  obtain ⟨SS,HSD⟩:∃ SS:World→Prop,Hid (SS=fun w'=>w'.heap[w.heap.size+4]? = some (.cells #[.int .u64 0,.int .u32 0,.bool false,.slice none 0 0] 49 (0,0))∧w'.heap[w.heap.size]? = some (.cells #[.int .i64 num,.int .i64 most,.int .i64 epoch,.int .i64 size,.bool shut,.slice al ln cl,.slice ad dn cd] 43 (0,0))):=⟨_,Lib.hid rfl⟩
  refine wp_region_order0 SS [0,1] [(0,2),(1,2),(2,0),(3,1),(4,1),(5,0),(6,0)] (by kernel_rfl) (by kernel_rfl) rfl (by kernel_rfl) ?_ ?_
  (focus (rw [HSD.out];exact ⟨KE1.out,KV1.out⟩));refine stepE2 rfl rfl ?_ (fun w1 hS=>?_) fun K hK=>?_;rotate_left;(focus (rw [HSD.out] at hS;obtain ⟨hS1,hS2⟩:=hS;obtain ⟨z0,z1,z2,z3⟩:=ncells hS1;obtain ⟨z4,z5,z6,z7,z8,z9,z10⟩:=cells7' hS2;go_simp;rfl));go_simp;refine hK _ ?_;clear hK K;refine stepE2 rfl rfl ?_ (fun w1 hS=>?_) fun K hK=>?_;rotate_left;(focus (rw [HSD.out] at hS;obtain ⟨hS1,hS2⟩:=hS;obtain ⟨z0,z1,z2,z3⟩:=ncells hS1;obtain ⟨z4,z5,z6,z7,z8,z9,z10⟩:=cells7' hS2;go_simp;rfl));go_simp;refine hK _ ?_;clear hK K;refine stepE0 rfl rfl fun K hK=>?_;go_simp;refine hK _ ?_;clear hK K;refine stepE1S rfl rfl fun K hK=>?_;go_wp2
  refine ⟨by rw [HSD.out];exact ((by show _∧_;exact ⟨set7_drew KE1.out (by omega),set7_drew KV1.out (by omega)⟩)),?_⟩
  refine stepE1 rfl rfl (by kernel_rfl) fun K hK=>?_;go_wp2;(iterate 2 refine stepE0 rfl rfl fun K hK=>?_;go_simp;refine hK _ ?_;clear hK K)
  try refine stepEnil0 ?_
  clear HSD SS
  go_wp2
  obtain ⟨w3,hw3⟩:∃ w3,w3=set7i w1 (w.heap.size+2) (.int .i64 num) (.int .i64 most) (.int .i64 epoch) (.int .i64 size) (.bool shut) (.slice al ln cl) (.slice ad dn cd):=⟨_,rfl⟩
  have hb3:=set7i_below (w:=w1) (B:=w.heap.size) (b:=w.heap.size+2) (by omega) (.int .i64 num) (.int .i64 most) (.int .i64 epoch) (.int .i64 size) (.bool shut) (.slice al ln cl) (.slice ad dn cd)
  have k3:=store7i (KR1.out) (.int .i64 num) (.int .i64 most) (.int .i64 epoch) (.int .i64 size) (.bool shut) (.slice al ln cl) (.slice ad dn cd)
  have hk3:=set7i_keeps w1 (w.heap.size+2) (.int .i64 num) (.int .i64 most) (.int .i64 epoch) (.int .i64 size) (.bool shut) (.slice al ln cl) (.slice ad dn cd)
  have n3:w3.heap[w.heap.size+3]? = some (.cells #[.int .u64 0,.int .u32 0,.bool false,.slice none 0 0] 49 (0,0)):=by rw [hw3];exact (hk3.block _ hlk (by omega)).trans KN1.out
  rw [←hw3] at hb3 k3 hk3
  obtain ⟨w4,hw4⟩:∃ w4,w4=set4 w3 (w.heap.size+3) (.int .u64 0) (.int .u32 0) (.bool false) (.slice none 0 0):=⟨_,rfl⟩
  have hb4:=set4_below (w:=w3) (B:=w.heap.size) (b:=w.heap.size+3) (by omega) (.int .u64 0) (.int .u32 0) (.bool false) (.slice none 0 0)
  have k4:=store4 n3 (.int .u64 0) (.int .u32 0) (.bool false) (.slice none 0 0)
  have hk4:=set4_keeps w3 (w.heap.size+3) (.int .u64 0) (.int .u32 0) (.bool false) (.slice none 0 0)
  have k34:w4.heap[w.heap.size+2]? = _:=hw4 ▸ (hk4.block _ (blk_lt k3) (by omega)).trans k3
  rw [←hw4] at hb4 k4 hk4
  have HBX:=Lib.hid ((HB1.out.trans hb3).trans hb4)
  unfold set7i at hw3
  unfold set4 at hw4
  rw [hw3] at hw4
  rw [←hw4]
  clear hw3 hw4 hb3 hb4
  obtain ⟨s0,s1,s2,s3,s4,s5,s6⟩:=cells7' (blk_drew k34)
  obtain ⟨m0,m1,m2,m3⟩:=ncells (blk_drew k4)
  refine bodyPost_ret (v:=?_) ?_ rfl ?_
  rotate_left;(focus (simp [results,Tryz.results17,go_sem,s0,s1,s2,s3,s4,s5,s6,m0,m1,m2,m3];exact rfl))
  rw [HE.out]
  exact ⟨_,_,_,none,rfl,HO.out _ HBX.out.drew,HBX.out.drew,rfl,rfl,(fun x e=>by cases e),reads_none _ _⟩
 case pos=>
  have e1:((K:Int) != 0)=false:=by simp;omega
  have HE:=Lib.hid (HF.out.trans (if_pos hk0))
  have hsm:=HSM.out hk0
  have HK0:=Lib.hid hk0
  clear hk0
  obtain ⟨v0,v1,v2,v3,v4,v5,v6⟩:=cells7' KV1.out
  obtain ⟨a0,a1,a2,a3,a4,a5⟩:=acells KA1.out
  go_upto_region 13 with fail
  go_wp2_with fail
  refine (HNW.out w1 HB1.out).mono ?_
  rintro e w2 ⟨r,rfl,hr,hrm,hb⟩
  cases r with
  | none=>exact absurd hr.symm hsm
  | some y=>
  have HR:=Lib.hid hr
  have hmem:=hrm y rfl
  have HY:=Lib.hid (fun (w':World) (hb:Below w.heap.size w w')=>HIN.out w' hb y hmem)
  clear hr hrm hmem hsm v0 v1 v2 v3 v4 v5 v6 a0 a1 a2 a3 a4 a5
  obtain ⟨⟨yk,yc,yg,yd⟩,ya,ycp⟩:=y
  unfold ndOV NdE.cs
  simp only [Option.isSome_some]
  have hz2:=hb.size
  have HB1':=Lib.hid (HB1.out.trans (hb.mono HB1.out.size))
  obtain ⟨w5,hw5⟩:∃ w5:World,w5=w2.alloc (.cells #[.int .u64 yk,.int .u32 yc,.bool yg,.slice ya yd.length ycp] 49):=⟨_,rfl⟩
  have HB5:=Lib.hid (show Below w.heap.size w w5 by rw [hw5];exact HB1'.out.alloc HB1'.out.size _)
  have KV5:=Lib.hid (show w5.heap[w.heap.size]? = some (.cells #[.int .i64 num,.int .i64 most,.int .i64 epoch,.int .i64 size,.bool shut,.slice al ln cl,.slice ad dn cd] 43 (0,0)) by rw [hw5];exact blk_alloc (blk_below' KV1.out hb) _)
  have KR5:=Lib.hid (show w5.heap[w.heap.size+2]? = some (.cells #[.int .i64 0,.int .i64 0,.int .i64 0,.int .i64 0,.bool false,.slice none 0 0,.slice none 0 0] 43 (0,0)) by rw [hw5];exact blk_alloc (blk_below' KR1.out hb) _)
  have KN5:=Lib.hid (show w5.heap[w.heap.size+3]? = some (.cells #[.int .u64 0,.int .u32 0,.bool false,.slice none 0 0] 49 (0,0)) by rw [hw5];exact blk_alloc (blk_below' KN1.out hb) _)
  have KY5:=Lib.hid (show w5.heap[w2.heap.size]? = some (.cells #[.int .u64 yk,.int .u32 yc,.bool yg,.slice ya yd.length ycp] 49 (0,0)) by rw [hw5];exact heap_new w2 _)
  have hl1:=blk_lt KE1.out
  clear hb
  go_upto_region 14 with fail
  rw [←hw5]
  clear hw5
  obtain ⟨r0,r1,r2,r3,r4,r5,r6⟩:=cells7' KR5.out
  obtain ⟨g0,g1,g2,g3,g4,g5,g6⟩:=free7 KR5.out
  obtain ⟨n0,n1,n2,n3⟩:=ncells KN5.out
  obtain ⟨o0,o1,o2,o3⟩:=nfree KN5.out
  obtain ⟨y0,y1,y2,y3⟩:=ncells KY5.out
  have hle:=blk_lt KY5.out
  have hlr:=blk_lt KR5.out
  have hlk:=blk_lt KN5.out
  obtain ⟨SS,HSD⟩:∃ SS:World→Prop,Hid (SS=fun w'=>w'.heap[w2.heap.size]? = some (.cells #[.int .u64 yk,.int .u32 yc,.bool yg,.slice ya yd.length ycp] 49 (0,0))∧w'.heap[w.heap.size]? = some (.cells #[.int .i64 num,.int .i64 most,.int .i64 epoch,.int .i64 size,.bool shut,.slice al ln cl,.slice ad dn cd] 43 (0,0))):=⟨_,Lib.hid rfl⟩
  refine wp_region_order0 SS [0,1] [(0,2),(1,2),(2,1),(3,1),(4,0),(5,0)] (by kernel_rfl) (by kernel_rfl) rfl (by kernel_rfl) ?_ ?_
  (focus (rw [HSD.out];exact ⟨KY5.out,KV5.out⟩));refine stepE2 rfl rfl ?_ (fun w1 hS=>?_) fun K hK=>?_;rotate_left;(focus (rw [HSD.out] at hS;obtain ⟨hS1,hS2⟩:=hS;obtain ⟨z0,z1,z2,z3⟩:=ncells hS1;obtain ⟨z4,z5,z6,z7,z8,z9,z10⟩:=cells7' hS2;go_simp;rfl));go_simp;refine hK _ ?_;clear hK K;refine stepE2 rfl rfl ?_ (fun w1 hS=>?_) fun K hK=>?_;rotate_left;(focus (rw [HSD.out] at hS;obtain ⟨hS1,hS2⟩:=hS;obtain ⟨z0,z1,z2,z3⟩:=ncells hS1;obtain ⟨z4,z5,z6,z7,z8,z9,z10⟩:=cells7' hS2;go_simp;rfl));go_simp;refine hK _ ?_;clear hK K;refine stepE1S rfl rfl fun K hK=>?_;go_wp2
  refine ⟨by rw [HSD.out];exact ((by show _∧_;exact ⟨set7_drew KY5.out (by omega),set7_drew KV5.out (by omega)⟩)),?_⟩
  refine stepE1 rfl rfl (by kernel_rfl) fun K hK=>?_;go_wp2;(iterate 2 refine stepE0 rfl rfl fun K hK=>?_;go_simp;refine hK _ ?_;clear hK K)
  try refine stepEnil0 ?_
  clear HSD SS
  go_wp2
  obtain ⟨w3,hw3⟩:∃ w3,w3=set7i w5 (w.heap.size+2) (.int .i64 num) (.int .i64 most) (.int .i64 epoch) (.int .i64 size) (.bool shut) (.slice al ln cl) (.slice ad dn cd):=⟨_,rfl⟩
  have hb3:=set7i_below (w:=w5) (B:=w.heap.size) (b:=w.heap.size+2) (by omega) (.int .i64 num) (.int .i64 most) (.int .i64 epoch) (.int .i64 size) (.bool shut) (.slice al ln cl) (.slice ad dn cd)
  have k3:=store7i (KR5.out) (.int .i64 num) (.int .i64 most) (.int .i64 epoch) (.int .i64 size) (.bool shut) (.slice al ln cl) (.slice ad dn cd)
  have hk3:=set7i_keeps w5 (w.heap.size+2) (.int .i64 num) (.int .i64 most) (.int .i64 epoch) (.int .i64 size) (.bool shut) (.slice al ln cl) (.slice ad dn cd)
  have n3:w3.heap[w.heap.size+3]? = some (.cells #[.int .u64 0,.int .u32 0,.bool false,.slice none 0 0] 49 (0,0)):=by rw [hw3];exact (hk3.block _ hlk (by omega)).trans KN5.out
  rw [←hw3] at hb3 k3 hk3
  obtain ⟨w4,hw4⟩:∃ w4,w4=set4 w3 (w.heap.size+3) (.int .u64 yk) (.int .u32 yc) (.bool yg) (.slice ya yd.length ycp):=⟨_,rfl⟩
  have hb4:=set4_below (w:=w3) (B:=w.heap.size) (b:=w.heap.size+3) (by omega) (.int .u64 yk) (.int .u32 yc) (.bool yg) (.slice ya yd.length ycp)
  have k4:=store4 n3 (.int .u64 yk) (.int .u32 yc) (.bool yg) (.slice ya yd.length ycp)
  have hk4:=set4_keeps w3 (w.heap.size+3) (.int .u64 yk) (.int .u32 yc) (.bool yg) (.slice ya yd.length ycp)
  have k34:w4.heap[w.heap.size+2]? = _:=hw4 ▸ (hk4.block _ (blk_lt k3) (by omega)).trans k3
  rw [←hw4] at hb4 k4 hk4
  have HBX:=Lib.hid ((HB5.out.trans hb3).trans hb4)
  unfold set7i at hw3
  unfold set4 at hw4
  rw [hw3] at hw4
  rw [←hw4]
  clear hw3 hw4 hb3 hb4
  obtain ⟨s0,s1,s2,s3,s4,s5,s6⟩:=cells7' (blk_drew k34)
  obtain ⟨m0,m1,m2,m3⟩:=ncells (blk_drew k4)
  refine bodyPost_ret (v:=?_) ?_ rfl ?_
  rotate_left;(focus (simp [results,Tryz.results17,go_sem,s0,s1,s2,s3,s4,s5,s6,m0,m1,m2,m3];exact rfl))
  rw [HE.out,show K=0 from HK0.out]
  exact ⟨_,_,_,some ⟨⟨yk,yc,yg,yd⟩,ya,ycp⟩,rfl,HO.out _ HBX.out.drew,HBX.out.drew,rfl,HR.out,(fun x e=>by cases e;exact HY.out _ HBX.out.drew),reads_none _ _⟩
def keysFrom (l:List Ps) (key:Nat) (m:Int):List Ps:=if m<1 then [] else (l.drop (ixAt l key)).take m.toNat
theorem keysFrom_eq (l:List Ps) (key:Nat) (m:Int):keysFrom l key m=((l.take l.length).drop (ixAt l key)).take m.toNat:=by
 unfold keysFrom
 rw [List.take_length]
 split
 ·rw [show m.toNat=0 by omega,List.take_zero]
 ·rfl
theorem take_drop_low {l:List Ps} {k X M:Nat} {x:Ps} (_:l[k]? = some x) (hX:k<X):((l.take (k+1)).drop X).take M=((l.take k).drop X).take M:=by
 rw [List.drop_eq_nil_of_le (by rw [List.length_take];omega),List.drop_eq_nil_of_le (by rw [List.length_take];omega)]
theorem take_drop_full {l:List Ps} {k X M:Nat} {x:Ps} (h:l[k]? = some x) (hM:M≤(((l.take k).drop X).take M).length):((l.take (k+1)).drop X).take M=((l.take k).drop X).take M:=by
 have hk:k<l.length:=(List.getElem?_eq_some_iff.1 h).1
 rw [List.length_take,List.length_drop,List.length_take] at hM
 rw [List.drop_take,List.drop_take,List.take_take,List.take_take]
 congr 1
 omega
theorem take_drop_more {l:List Ps} {k X M:Nat} {x:Ps} (h:l[k]? = some x) (hX:X≤k) (hM:(((l.take k).drop X).take M).length<M):((l.take (k+1)).drop X).take M=((l.take k).drop X).take M ++ [x]:=by
 have hk:k<l.length:=(List.getElem?_eq_some_iff.1 h).1
 rw [List.length_take,List.length_drop,List.length_take] at hM
 rw [List.drop_take,List.drop_take,List.take_take,List.take_take,Nat.min_eq_right (by omega),Nat.min_eq_right (by omega),show k+1 - X=k - X+1 by omega,List.take_add_one,List.getElem?_drop,show X+(k - X)=k by omega,h]
 rfl
theorem rdo3 (P:Nat→Prop) (v:Rv) (al:Option Addr) (cl:Nat) (ad:Option Addr) (cd:Nat) (xs:List NdE) (m:Int) (x:NdE) (w:World) (h:RvAt w P v al cl ad cd xs) (hs:IxS v.l) (hf:v.l.length≤4096) :
  Calls Tryz.prog 17 #[rvV v al cl ad cd,.agg #[.int .i64 3,.int .i64 m,.int .u64 x.n.key,.int .u32 x.n.cookie,.bool x.n.gone,.slice x.a x.n.data.length x.c]] w (DoTo w P (0,v) none (keysFrom v.l x.n.key m)):=by
 obtain ⟨i0,hi,hzz0,hzz1,hzz2⟩:=info_parts p05info
 have HI:=Lib.hid hi
 have HZ0:=Lib.hid hzz0
 have HZ1:=Lib.hid hzz1
 have HZ2:=Lib.hid hzz2
 have HO:=Lib.hid (fun (w':World) (hb:Below w.heap.size w w')=>h.out' hb)
 have HR:=Lib.hid h.rl
 have HS:=Lib.hid hs
 have hlm:=hf
 rw [keysFrom_eq]
 obtain ⟨⟨key,cookie,gone,data⟩,xa,xc⟩:=x
 obtain ⟨num,most,epoch,size,shut,l,dd⟩:=v
 unfold rvV at HO ⊢
 simp only at HO HR HS hlm ⊢
 obtain ⟨ln,hln⟩:∃ ln,ln=l.length:=⟨_,rfl⟩
 obtain ⟨dn,hdn2⟩:∃ dn,dn=dd.length:=⟨_,rfl⟩
 obtain ⟨xn,hxn⟩:∃ xn,xn=data.length:=⟨_,rfl⟩
 have HLN:=Lib.hid hln
 rw [←hln] at hlm
 rw [←hln,←hdn2] at HO ⊢
 rw [←hln] at HR
 rw [←hxn]
 obtain ⟨X,hX⟩:∃ X,X=ixAt l key:=⟨_,rfl⟩
 have HX:=Lib.hid hX
 rw [←hX]
 obtain ⟨M,hM⟩:∃ M,M=m.toNat:=⟨_,rfl⟩
 have HM:=Lib.hid hM
 rw [←hM]
 clear h hs hf hln hdn2 hxn hX hM hi hzz0 hzz1 hzz2
 go_enter Tryz.func17,Tryz.ntmps17
 go_upto_region 2 with fail
 obtain ⟨w0,hw0⟩:∃ w0:World,w0=((((w.alloc (.cells #[.int .i64 num,.int .i64 most,.int .i64 epoch,.int .i64 size,.bool shut,.slice al ln cl,.slice ad dn cd] 43)).alloc (.cells #[.int .i64 3,.int .i64 m,.int .u64 key,.int .u32 cookie,.bool gone,.slice xa xn xc] 53)).alloc (.cells #[.int .i64 0,.int .i64 0,.int .i64 0,.int .i64 0,.bool false,.slice none 0 0,.slice none 0 0] 43)).alloc (.cells #[.int .u64 0,.int .u32 0,.bool false,.slice none 0 0] 49)).alloc (.cells #[.int .u64 0,.int .u32 0,.bool false,.slice none 0 0] 49):=⟨_,rfl⟩
 have HB0:=Lib.hid (show Below w.heap.size w w0 by rw [hw0];exact belCa26)
 have KV0:=Lib.hid (show w0.heap[w.heap.size]? = some (.cells #[.int .i64 num,.int .i64 most,.int .i64 epoch,.int .i64 size,.bool shut,.slice al ln cl,.slice ad dn cd] 43 (0,0)) by rw [hw0];exact blk_alloc (blk_alloc (blk_alloc (blk_alloc (heap_new w _) _) _) _) _)
 have KA0:=Lib.hid (show w0.heap[w.heap.size+1]? = some (.cells #[.int .i64 3,.int .i64 m,.int .u64 key,.int .u32 cookie,.bool gone,.slice xa xn xc] 53 (0,0)) by rw [hw0];exact blk_alloc (blk_alloc (blk_alloc (blk_new _ (by simp)) _) _) _)
 have KR0:=Lib.hid (show w0.heap[w.heap.size+2]? = some (.cells #[.int .i64 0,.int .i64 0,.int .i64 0,.int .i64 0,.bool false,.slice none 0 0,.slice none 0 0] 43 (0,0)) by rw [hw0];exact blk_alloc (blk_alloc (blk_new _ (by simp)) _) _)
 have KN0:=Lib.hid (show w0.heap[w.heap.size+3]? = some (.cells #[.int .u64 0,.int .u32 0,.bool false,.slice none 0 0] 49 (0,0)) by rw [hw0];exact blk_alloc (blk_new _ (by simp)) _)
 have KE0:=Lib.hid (show w0.heap[w.heap.size+4]? = some (.cells #[.int .u64 0,.int .u32 0,.bool false,.slice none 0 0] 49 (0,0)) by rw [hw0];exact blk_new _ (by simp))
 rw [←hw0,show w.heap.size+1+1=w.heap.size+2 from rfl,show w.heap.size+2+1=w.heap.size+3 from rfl,show w.heap.size+3+1=w.heap.size+4 from rfl]
 clear hw0
 have hz0:=HB0.out.size
 obtain ⟨v0,v1,v2,v3,v4,v5,v6⟩:=cells7' KV0.out
 obtain ⟨a0,a1,a2,a3,a4,a5⟩:=acells KA0.out
 have hl0:=blk_lt KE0.out
 go_wp2_with fail
 clear v0 v1 v2 v3 v4 v5 v6 a0 a1 a2 a3 a4 a5
 go_loopw [16,17] (fun s i wr=>∃ (k:Nat) (aL:Option Addr) (nL cL:Nat) (ys:List Ps),k≤ln∧i=.int .i64 k∧s=.slice aL nL cL∧ys=((l.take k).drop X).take M∧nL=ys.length∧wr.ownsRow w0.heap.size 132 5 (.slice aL nL cL) nL (ys.flatMap psC)∧Below w0.heap.size w0 wr) (fun _ i _=>ln - (intOf i).toNat)
 case atStart=>exact ⟨0,none,0,0,[],Nat.zero_le _,rfl,rfl,by simp,rfl,World.ownsRow_nil _ _ _ _,Below.refl _ _⟩
 case round=>
  obtain ⟨k,aL,nL,cL,ys,hk,rfl,rfl,hys,hnl,hrw,hbr⟩:=hrel
  have HYS:=Lib.hid hys
  have HNL:=Lib.hid hnl
  have HRW:=Lib.hid hrw
  have HBR:=Lib.hid hbr
  have hnk:nL≤k:=by rw [hnl,hys,List.length_take,List.length_drop,List.length_take];omega
  have hzr:=hbr.size
  have KVR:=Lib.hid (blk_below' KV0.out hbr)
  have KAR:=Lib.hid (blk_below' KA0.out hbr)
  have KRR:=Lib.hid (blk_below' KR0.out hbr)
  have KNR:=Lib.hid (blk_below' KN0.out hbr)
  have KER:=Lib.hid (blk_below' KE0.out hbr)
  have HBW:=Lib.hid (HB0.out.trans (hbr.mono hz0))
  clear hys hnl hrw hbr
  by_cases hlt:k<ln
  ·obtain ⟨x,hx⟩:∃ x,l[k]? = some x:=⟨_,List.getElem?_eq_getElem (by rw [←HLN.out];exact hlt)⟩
   obtain ⟨b,o,c',e,hb,r0,r1,r2,r3,r4⟩:=ps_cells (HR.out.below HBW.out) hx (by omega)
   obtain ⟨rfl,-,rfl⟩:=sl_inj e
   have HX2:=Lib.hid hx
   have hj0:(0:Int)≤(k:Int):=by omega
   have hj1:(k:Int)<(ln:Int):=by omega
   clear hx e
   obtain ⟨xk,xo,xl,xc',xg⟩:=x
   simp only at r0 r1 r2 r3 r4
   obtain ⟨v0,v1,v2,v3,v4,v5,v6⟩:=cells7' KVR.out
   obtain ⟨a0,a1,a2,a3,a4,a5⟩:=acells KAR.out
   have hlr:=blk_lt KER.out
   by_cases hlow:k<X
   ·have hxk:xk<key:=ixAt_below (l:=l) (k:=key) (by rw [←HX.out];exact hlow) HX2.out
    have e1:decide ((key:Int)≤(xk:Int))=false:=by simp;omega
    have e2:decide (key≤xk)=false:=by simp;omega
    have HLW:=Lib.hid hlow
    clear hlow hxk
    go_upto_region 20 with fail
    refine wp_region_mask0 (fun w1=>w1=_) [1,5,8,14] [0,1,0,7,15,31,0,64,192,511,1023,2047,4095,2047,10239,32767,65535] (.op 0 0 (.op 1 2 (.op 2 0 (.op 3 0 (.op 4 0 (.op 5 2 (.op 6 0 (.op 7 0 (.op 8 2 (.op 9 0 (.op 10 0 (.op 11 0 (.op 12 0 (.op 13 0 (.op 14 2 (.op 15 0 (.op 16 0 .nil))))))))))))))))) (by kernel_rfl) (by kernel_rfl) rfl (by kernel_rfl) (by kernel_rfl) rfl ?_
    refine stepM0 rfl rfl fun K hK=>?_;go_simp;refine hK _ ?_;clear hK K;refine stepM2 rfl rfl ?_ (fun w1 hS=>?_) fun K hK=>?_;rotate_left;(focus (obtain rfl:w1=_:=hS;go_simp;rfl));go_simp;refine hK _ ?_;clear hK K;(iterate 3 refine stepM0 rfl rfl fun K hK=>?_;go_simp;refine hK _ ?_;clear hK K);refine stepM2 rfl rfl ?_ (fun w1 hS=>?_) fun K hK=>?_;rotate_left;(focus (obtain rfl:w1=_:=hS;go_simp;rfl));go_simp;refine hK _ ?_;clear hK K;(iterate 2 refine stepM0 rfl rfl fun K hK=>?_;go_simp;refine hK _ ?_;clear hK K);refine stepM2 rfl rfl ?_ (fun w1 hS=>?_) fun K hK=>?_;rotate_left;(focus (obtain rfl:w1=_:=hS;go_simp;rfl));go_simp;refine hK _ ?_;clear hK K;(iterate 2 refine stepM0 rfl rfl fun K hK=>?_;go_simp;refine hK _ ?_;clear hK K);(iterate 3 refine stepMy0 rfl rfl fun K hK=>?_;go_simp;refine hK _ ?_;clear hK K);refine stepMy2 rfl rfl fun K hK=>?_;go_simp;refine hK _ ?_;clear hK K;refine stepMy0 rfl rfl fun K hK=>?_;go_simp;refine hK _ ?_;clear hK K;refine stepM0 rfl rfl fun K hK=>?_;go_simp;refine hK _ ?_;clear hK K
    try refine stepMnil0 ?_
    go_wp2_with fail
    go_roundw
    case rel=>exact ⟨k+1,aL,nL,cL,ys,by omega,by go_num,rfl,by rw [HYS.out,take_drop_low HX2.out HLW.out],HNL.out,ownsRow_below HRW.out (Below.drew (Below.refl _ _)),Below.drew HBR.out⟩
    case measure=>simp [intOf];omega
   have hxk:key≤xk:=ixAt_above HS.out (k:=key) (i:=k) (by rw [←HX.out];omega) HX2.out
   have e1:decide ((key:Int)≤(xk:Int))=true:=by simp;omega
   have e2:decide (key≤xk)=true:=by simp;omega
   have HLW:=Lib.hid (show X≤k by omega)
   clear hlow hxk
   by_cases hfull:m≤(nL:Int)
   ·have e3:decide ((nL:Int)<m)=false:=by simp;omega
    have HF:=Lib.hid (show M≤(((l.take k).drop X).take M).length by rw [←HYS.out,←HNL.out,HM.out];omega)
    clear hfull
    go_upto_region 20 with fail
    refine wp_region_mask0 (fun w1=>w1=_) [1,5,8,14] [0,1,0,7,15,31,0,64,192,511,1023,2047,4095,2047,10239,32767,65535] (.op 0 0 (.op 1 2 (.op 2 0 (.op 3 0 (.op 4 0 (.op 5 2 (.op 6 0 (.op 7 0 (.op 8 2 (.op 9 0 (.op 10 0 (.op 11 0 (.op 12 0 (.op 13 0 (.op 14 2 (.op 15 0 (.op 16 0 .nil))))))))))))))))) (by kernel_rfl) (by kernel_rfl) rfl (by kernel_rfl) (by kernel_rfl) rfl ?_
    refine stepM0 rfl rfl fun K hK=>?_;go_simp;refine hK _ ?_;clear hK K;refine stepM2 rfl rfl ?_ (fun w1 hS=>?_) fun K hK=>?_;rotate_left;(focus (obtain rfl:w1=_:=hS;go_simp;rfl));go_simp;refine hK _ ?_;clear hK K;(iterate 3 refine stepM0 rfl rfl fun K hK=>?_;go_simp;refine hK _ ?_;clear hK K);refine stepM2 rfl rfl ?_ (fun w1 hS=>?_) fun K hK=>?_;rotate_left;(focus (obtain rfl:w1=_:=hS;go_simp;rfl));go_simp;refine hK _ ?_;clear hK K;(iterate 2 refine stepM0 rfl rfl fun K hK=>?_;go_simp;refine hK _ ?_;clear hK K);refine stepM2 rfl rfl ?_ (fun w1 hS=>?_) fun K hK=>?_;rotate_left;(focus (obtain rfl:w1=_:=hS;go_simp;rfl));go_simp;refine hK _ ?_;clear hK K;(iterate 5 refine stepM0 rfl rfl fun K hK=>?_;go_simp;refine hK _ ?_;clear hK K);refine stepM2 rfl rfl ?_ (fun w1 hS=>?_) fun K hK=>?_;rotate_left;(focus (obtain rfl:w1=_:=hS;go_simp;rfl));go_simp;refine hK _ ?_;clear hK K;(iterate 2 refine stepM0 rfl rfl fun K hK=>?_;go_simp;refine hK _ ?_;clear hK K)
    try refine stepMnil0 ?_
    go_wp2_with fail
    go_roundw
    case rel=>exact ⟨k+1,aL,nL,cL,ys,by omega,by go_num,rfl,by rw [HYS.out,take_drop_full HX2.out HF.out],HNL.out,ownsRow_below HRW.out (Below.drew (Below.refl _ _)),Below.drew HBR.out⟩
    case measure=>simp [intOf];omega
   have e3:decide ((nL:Int)<m)=true:=by simp;omega
   have HF:=Lib.hid (show (((l.take k).drop X).take M).length<M by rw [←HYS.out,←HNL.out,HM.out];omega)
   clear hfull
   go_upto_region 20 with fail
   refine wp_region_mask0 (fun w1=>w1=_) [1,5,8,14] [0,1,0,7,15,31,0,64,192,511,1023,2047,4095,2047,10239,32767,65535] (.op 0 0 (.op 1 2 (.op 2 0 (.op 3 0 (.op 4 0 (.op 5 2 (.op 6 0 (.op 7 0 (.op 8 2 (.op 9 0 (.op 10 0 (.op 11 0 (.op 12 0 (.op 13 0 (.op 14 2 (.op 15 0 (.op 16 0 .nil))))))))))))))))) (by kernel_rfl) (by kernel_rfl) rfl (by kernel_rfl) (by kernel_rfl) rfl ?_
   refine stepM0 rfl rfl fun K hK=>?_;go_simp;refine hK _ ?_;clear hK K;refine stepM2 rfl rfl ?_ (fun w1 hS=>?_) fun K hK=>?_;rotate_left;(focus (obtain rfl:w1=_:=hS;go_simp;rfl));go_simp;refine hK _ ?_;clear hK K;(iterate 3 refine stepM0 rfl rfl fun K hK=>?_;go_simp;refine hK _ ?_;clear hK K);refine stepM2 rfl rfl ?_ (fun w1 hS=>?_) fun K hK=>?_;rotate_left;(focus (obtain rfl:w1=_:=hS;go_simp;rfl));go_simp;refine hK _ ?_;clear hK K;(iterate 2 refine stepM0 rfl rfl fun K hK=>?_;go_simp;refine hK _ ?_;clear hK K);refine stepM2 rfl rfl ?_ (fun w1 hS=>?_) fun K hK=>?_;rotate_left;(focus (obtain rfl:w1=_:=hS;go_simp;rfl));go_simp;refine hK _ ?_;clear hK K;(iterate 5 refine stepM0 rfl rfl fun K hK=>?_;go_simp;refine hK _ ?_;clear hK K);refine stepM2 rfl rfl ?_ (fun w1 hS=>?_) fun K hK=>?_;rotate_left;(focus (obtain rfl:w1=_:=hS;go_simp;rfl));go_simp;refine hK _ ?_;clear hK K;(iterate 2 refine stepM0 rfl rfl fun K hK=>?_;go_simp;refine hK _ ?_;clear hK K)
   try refine stepMnil0 ?_
   obtain ⟨wd,hwd⟩:∃ wd:World,wd=wr.drew:=⟨_,rfl⟩
   have HBD:=Lib.hid (show Below w0.heap.size w0 wd by rw [hwd];exact Below.drew HBR.out)
   have HRD:=Lib.hid (show wd.ownsRow w0.heap.size 132 5 (.slice aL nL cL) nL (ys.flatMap psC) by rw [hwd];exact ownsRow_below HRW.out (Below.drew (Below.refl _ _)))
   have kvd:=blk_drew KVR.out
   rw [←hwd] at kvd
   have KVD:=Lib.hid kvd
   clear kvd
   have hcr:wd.cell? ⟨b,o+k * 5,none⟩=some (.int .u64 xk)∧wd.cell? ⟨b,o+k * 5+1,none⟩=some (.int .i64 xo)∧wd.cell? ⟨b,o+k * 5+2,none⟩=some (.int .i64 xl)∧wd.cell? ⟨b,o+k * 5+3,none⟩=some (.int .u32 xc')∧wd.cell? ⟨b,o+k * 5+4,none⟩=some (.bool xg):=by rw [hwd];exact ⟨r0,r1,r2,r3,r4⟩
   have hzd:w0.heap.size≤wd.heap.size:=HBD.out.size
   rw [←hwd]
   clear hwd r0 r1 r2 r3 r4 v0 v1 v2 v3 v4 v5 v6 a0 a1 a2 a3 a4 a5
   obtain ⟨r0,r1,r2,r3,r4⟩:=hcr
   obtain ⟨v0,v1,v2,v3,v4,v5,v6⟩:=cells7' KVD.out
   have hlr:=blk_lt KVD.out
   go_wp2_with (at_builtin;refine wpList_append_lies _ rfl _ _ 40 rfl w0.heap.size 132 i0 (.agg #[.int .u64 0,.int .i64 0,.int .i64 0,.int .u32 0,.bool false]) 5 32 Tryz.underlying40 HI.out HZ0.out HZ1.out HZ2.out rfl (by decide) (.slice aL nL cL) nL (ys.flatMap psC) rfl (ownsRow_below HRD.out belCa26) ⟨wd.heap.size,0,none⟩ 1 1 [.int .u64 xk,.int .i64 xo,.int .i64 xl,.int .u32 xc',.bool xg] rfl rfl (World.news_of_block (cs:=#[.int .u64 xk,.int .i64 xo,.int .i64 xl,.int .u32 xc',.bool xg]) (t:=132) (fr:=(0,0)) (heap_new wd _)) (by simp [Value.oneCell']) (by omega) (by unfold maxLen;omega) (by omega) (by simp;omega) _ rfl ?_;intro g' cap' w6 hown hgrow hat hlt6;have HG6:=Lib.hid hgrow;have HO6:=Lib.hid hown;have hz6:=hgrow.size;simp only [World.size_alloc] at hz6;clear hgrow hown hat)
   go_roundw
   case rel=>
    refine ⟨k+1,some ⟨g',0,none⟩,nL+1,cap',ys ++ [⟨xk,xo,xl,xc',xg⟩],by omega,by go_num,rfl,?_,by simp [HNL.out],?_,?_⟩
    ·rw [HYS.out,take_drop_more HX2.out HLW.out HF.out]
    ·refine ownsRow_cast HO6.out rfl ?_
     rw [List.flatMap_append]
     simp [psC]
    ·exact Below.grown (HBD.out.alloc hzd _) HG6.out (by simp;omega) (fun g e=>(HRD.out.lt g e).1)
   case measure=>simp [intOf];omega
  ·have hj1:¬ (k:Int)<(ln:Int):=by omega
   have hj2:decide ((k:Int)<(ln:Int))=false:=by simp;omega
   have hj3:decide (k<ln)=false:=by simp;omega
   have HYF:=Lib.hid (show ys=((l.take ln).drop X).take M by rw [HYS.out,show k=ln by omega])
   obtain ⟨v0,v1,v2,v3,v4,v5,v6⟩:=cells7' KVR.out
   obtain ⟨r0,r1,r2,r3,r4,r5,r6⟩:=cells7' KRR.out
   obtain ⟨g0,g1,g2,g3,g4,g5,g6⟩:=free7 KRR.out
   obtain ⟨n0,n1,n2,n3⟩:=ncells KNR.out
   obtain ⟨o0,o1,o2,o3⟩:=nfree KNR.out
   obtain ⟨y0,y1,y2,y3⟩:=ncells KER.out
   have hle:=blk_lt KER.out
   have hlr:=blk_lt KRR.out
   have hlk:=blk_lt KNR.out
   go_upto_region 22 with fail
   obtain ⟨SS,HSD⟩:∃ SS:World→Prop,Hid (SS=fun w'=>w'.heap[w.heap.size+4]? = some (.cells #[.int .u64 0,.int .u32 0,.bool false,.slice none 0 0] 49 (0,0))∧w'.heap[w.heap.size]? = some (.cells #[.int .i64 num,.int .i64 most,.int .i64 epoch,.int .i64 size,.bool shut,.slice al ln cl,.slice ad dn cd] 43 (0,0))):=⟨_,Lib.hid rfl⟩
   refine wp_region_order0 SS [0,1] [(0,2),(1,2),(2,0),(3,1),(4,1),(5,0),(6,0)] (by kernel_rfl) (by kernel_rfl) rfl (by kernel_rfl) ?_ ?_
   (focus (rw [HSD.out];exact ⟨KER.out,KVR.out⟩));refine stepE2 rfl rfl ?_ (fun w1 hS=>?_) fun K hK=>?_;rotate_left;(focus (rw [HSD.out] at hS;obtain ⟨hS1,hS2⟩:=hS;obtain ⟨z0,z1,z2,z3⟩:=ncells hS1;obtain ⟨z4,z5,z6,z7,z8,z9,z10⟩:=cells7' hS2;go_simp;rfl));go_simp;refine hK _ ?_;clear hK K;refine stepE2 rfl rfl ?_ (fun w1 hS=>?_) fun K hK=>?_;rotate_left;(focus (rw [HSD.out] at hS;obtain ⟨hS1,hS2⟩:=hS;obtain ⟨z0,z1,z2,z3⟩:=ncells hS1;obtain ⟨z4,z5,z6,z7,z8,z9,z10⟩:=cells7' hS2;go_simp;rfl));go_simp;refine hK _ ?_;clear hK K;refine stepE0 rfl rfl fun K hK=>?_;go_simp;refine hK _ ?_;clear hK K;refine stepE1S rfl rfl fun K hK=>?_;go_wp2
   refine ⟨by rw [HSD.out];exact ((by show _∧_;exact ⟨set7_drew KER.out (by omega),set7_drew KVR.out (by omega)⟩)),?_⟩
   refine stepE1 rfl rfl (by kernel_rfl) fun K hK=>?_;go_wp2;(iterate 2 refine stepE0 rfl rfl fun K hK=>?_;go_simp;refine hK _ ?_;clear hK K)
   try refine stepEnil0 ?_
   clear HSD SS
   go_wp2
   obtain ⟨w3,hw3⟩:∃ w3,w3=set7i wr (w.heap.size+2) (.int .i64 num) (.int .i64 most) (.int .i64 epoch) (.int .i64 size) (.bool shut) (.slice al ln cl) (.slice ad dn cd):=⟨_,rfl⟩
   have hb3:=set7i_below (w:=wr) (B:=w.heap.size) (b:=w.heap.size+2) (by omega) (.int .i64 num) (.int .i64 most) (.int .i64 epoch) (.int .i64 size) (.bool shut) (.slice al ln cl) (.slice ad dn cd)
   have k3:=store7i (KRR.out) (.int .i64 num) (.int .i64 most) (.int .i64 epoch) (.int .i64 size) (.bool shut) (.slice al ln cl) (.slice ad dn cd)
   have hk3:=set7i_keeps wr (w.heap.size+2) (.int .i64 num) (.int .i64 most) (.int .i64 epoch) (.int .i64 size) (.bool shut) (.slice al ln cl) (.slice ad dn cd)
   have n3:w3.heap[w.heap.size+3]? = some (.cells #[.int .u64 0,.int .u32 0,.bool false,.slice none 0 0] 49 (0,0)):=by rw [hw3];exact (hk3.block _ hlk (by omega)).trans KNR.out
   rw [←hw3] at hb3 k3 hk3
   obtain ⟨w4,hw4⟩:∃ w4,w4=set4 w3 (w.heap.size+3) (.int .u64 0) (.int .u32 0) (.bool false) (.slice none 0 0):=⟨_,rfl⟩
   have hb4:=set4_below (w:=w3) (B:=w.heap.size) (b:=w.heap.size+3) (by omega) (.int .u64 0) (.int .u32 0) (.bool false) (.slice none 0 0)
   have k4:=store4 n3 (.int .u64 0) (.int .u32 0) (.bool false) (.slice none 0 0)
   have hk4:=set4_keeps w3 (w.heap.size+3) (.int .u64 0) (.int .u32 0) (.bool false) (.slice none 0 0)
   have k34:w4.heap[w.heap.size+2]? = _:=hw4 ▸ (hk4.block _ (blk_lt k3) (by omega)).trans k3
   rw [←hw4] at hb4 k4 hk4
   have HBX:=Lib.hid ((HBW.out.trans hb3).trans hb4)
   have HRX:=Lib.hid (show w4.drew.ownsRow w0.heap.size 132 5 (.slice aL nL cL) nL (ys.flatMap psC) by
    have h1:=ownsRow_keeps HRW.out hk3 (fun q hq e=>by have:=(HRW.out.lt q hq).1;omega)
    have h2:=ownsRow_keeps h1 hk4 (fun q hq e=>by have:=(HRW.out.lt q hq).1;omega)
    exact ownsRow_below h2 (Below.drew (Below.refl _ _)))
   unfold set7i at hw3
   unfold set4 at hw4
   rw [hw3] at hw4
   rw [←hw4]
   clear hw3 hw4 hb3 hb4
   obtain ⟨s0,s1,s2,s3,s4,s5,s6⟩:=cells7' (blk_drew k34)
   obtain ⟨m0,m1,m2,m3⟩:=ncells (blk_drew k4)
   refine bodyPost_ret (v:=?_) ?_ rfl ?_
   rotate_left;(focus (simp [results,Tryz.results17,go_sem,s0,s1,s2,s3,s4,s5,s6,m0,m1,m2,m3];exact rfl))
   rw [←HYF.out]
   refine ⟨_,_,_,none,rfl,HO.out _ HBX.out.drew,HBX.out.drew,rfl,rfl,(fun x e=>by cases e),?_⟩
   rw [←HNL.out]
   exact reads_of_owns HRX.out
def Rv.gotN (v:Rv) (a:VAct):Option Nd:=if a.kind=2 then (if v.look a.n.key a.n.cookie=0 then lastOf v.d a.n.key else none) else none
def Rv.gotK (v:Rv) (a:VAct):List Ps:=if a.kind=3 then keysFrom v.l a.n.key a.m else []
theorem rdo_any (P:Nat→Prop) (v:Rv) (val:Value) (a:ActE) (w:World) (h:RvIn w P val v) (hx:NdP w P a.x) (hdl:a.x.n.data.length≤1000000000) (hs:IxS v.l) (hz:v.size≤1000000000) (hm:v.most≤1000000000) (hf:v.l.length≤4096) (hdn:v.d.length≤1000000) :
  Calls Tryz.prog 17 #[val,.agg a.cs.toArray] w (DoTo w P (v.act a.act) (v.gotN a.act) (v.gotK a.act)):=by
 obtain ⟨kd,m,x⟩:=a
 obtain ⟨al,cl,ad,cd,xs,rfl,h⟩:=h
 have hcs:ActE.cs ⟨kd,m,x⟩=[.int .i64 kd,.int .i64 m,.int .u64 x.n.key,.int .u32 x.n.cookie,.bool x.n.gone,.slice x.a x.n.data.length x.c]:=rfl
 rw [hcs]
 simp only at hx hdl
 have hact:ActE.act ⟨kd,m,x⟩=⟨kd,m,x.n⟩:=rfl
 rw [hact]
 unfold Rv.act Rv.gotN Rv.gotK
 simp only
 by_cases h0:kd=0
 ·subst h0
  exact rdo0 P v al cl ad cd xs m x w h hx hdl hs hz hm hf hdn
 rw [if_neg h0]
 by_cases h1:kd=1
 ·subst h1
  exact rdo1 P v al cl ad cd xs m x w h hx hdl hs hz hm hf hdn
 rw [if_neg h1]
 by_cases h2:kd=2
 ·subst h2
  exact rdo2 P v al cl ad cd xs m x w h
 rw [if_neg h2,if_neg h2]
 by_cases h3:kd=3
 ·subst h3
  exact rdo3 P v al cl ad cd xs m x w h hs hf
 rw [if_neg h3,if_neg h3]
 by_cases h4:kd=4
 ·subst h4
  exact rdo4 P v al cl ad cd xs m x w h hx hdl hs hz hm hf hdn
 rw [if_neg h4]
 exact rdoE P v al cl ad cd xs kd m x w h0 h1 h2 h3 h4 h hx hdl hs hz hm hf hdn
def far9 (l:List ActE):Bool:=decide (60<l.length) || l.any fun e=>decide (300<e.x.n.data.length)
theorem far9_no {l:List ActE} (h:far9 l=false):l.length≤60∧∀ e∈l,e.x.n.data.length≤300:=by
 unfold far9 at h
 simp only [Bool.or_eq_false_iff,decide_eq_false_iff_not,List.any_eq_false,decide_eq_true_eq] at h
 exact ⟨by omega,fun e he=>by have:=h.2 e he;omega⟩
theorem far9_any (a:Option Addr) (n c:Nat) (l:List ActE) (w:World) (hn:l.length=n) (h:Reads w 6 (.slice a n c) n (l.flatMap ActE.cs)) :
  Calls Tryz.prog 10 #[.slice a n c] w fun e w'=>e=.returned (.bool (far9 l))∧w=w':=by
 have HN:=Lib.hid hn
 have HR:=Lib.hid h
 have hmx:=h.le
 unfold maxLen at hmx
 obtain ⟨F,hF⟩:∃ F,F=far9 l:=⟨_,rfl⟩
 have HF:=Lib.hid hF
 rw [←hF]
 clear hn h hF
 by_cases hbig:60<n
 ·have HE:=Lib.hid (show F=true by rw [HF.out];unfold far9;rw [HN.out,decide_eq_true hbig];rfl)
  have h1:decide ((60:Int)<(n:Int))=true:=by simp;omega
  have h2:decide (60<n)=true:=by simp;omega
  clear hbig
  go_enter Tryz.func10,Tryz.ntmps10
  go_wp2_with fail
  go_ret
  exact ⟨by rw [HE.out];rfl,rfl⟩
 have h1:decide ((60:Int)<(n:Int))=false:=by simp;omega
 have h2:decide (60<n)=false:=by simp;omega
 go_enter Tryz.func10,Tryz.ntmps10
 go_wp2_with fail
 go_loopw [3] (fun i wr=>∃ k:Nat,k≤n∧i=.int .i64 k∧w=wr∧∀ j x,j<k→l[j]? = some x→x.x.n.data.length≤300) (fun i _=>n - (intOf i).toNat)
 case atStart=>exact ⟨0,Nat.zero_le _,rfl,(by first|trivial|rfl),fun j x hj=>absurd hj (Nat.not_lt_zero j)⟩
 case round=>
  obtain ⟨k,hk,rfl,rfl,hno⟩:=hrel
  have HNO:=Lib.hid hno
  clear hno
  by_cases hlt:k<n
  ·obtain ⟨x,hx⟩:∃ x,l[k]? = some x:=⟨_,List.getElem?_eq_getElem (by rw [HN.out];exact hlt)⟩
   obtain ⟨b,o,c',e,hb,q0,q1,q2,q3,q4,q5⟩:=act9_cells HR.out hx (by omega)
   obtain ⟨rfl,-,rfl⟩:=sl_inj e
   have HX:=Lib.hid hx
   have hj0:(0:Int)≤(k:Int):=by omega
   have hj1:(k:Int)<(n:Int):=by omega
   clear hx e q0 q1 q2 q3 q4
   obtain ⟨D,hD⟩:∃ D,D=x.x.n.data.length:=⟨_,rfl⟩
   rw [←hD] at q5
   have HD:=Lib.hid hD
   clear hD
   by_cases he:300<D
   ·have h3:decide ((300:Int)<(D:Int))=true:=by simp;omega
    have h4:decide (300<D)=true:=by simp;omega
    have HE:=Lib.hid (show F=true by
     rw [HF.out]
     unfold far9
     rw [Bool.or_eq_true]
     exact .inr (List.any_eq_true.2 ⟨x,List.mem_of_getElem? HX.out,by rw [←HD.out];exact h4⟩))
    clear he
    go_wp2_with fail
    go_ret
    exact ⟨by rw [HE.out];rfl,rfl⟩
   ·have h3:decide ((300:Int)<(D:Int))=false:=by simp;omega
    have h4:decide (300<D)=false:=by simp;omega
    have HE:=Lib.hid he
    clear he
    go_wp2_with fail
    go_roundw
    case rel=>exact ⟨k+1,by omega,by go_num,(by first|trivial|rfl),fun j y hj hy=>by
     by_cases hjk:j=k
     ·rw [hjk,HX.out] at hy
      cases hy
      have:=HE.out
      have:=HD.out
      omega
     ·exact HNO.out j y (by omega) hy⟩
    case measure=>simp [intOf];omega
  ·have hj1:¬ (k:Int)<(n:Int):=by omega
   have hj2:decide ((k:Int)<(n:Int))=false:=by simp;omega
   have hj3:decide (k<n)=false:=by simp;omega
   have HE:=Lib.hid (show F=false by
    rw [HF.out]
    unfold far9
    rw [Bool.or_eq_false_iff]
    refine ⟨by rw [HN.out];exact h2,?_⟩
    rw [List.any_eq_false]
    intro x hx
    obtain ⟨j,hj⟩:=List.getElem?_of_mem hx
    have hjn:j<l.length:=(List.getElem?_eq_some_iff.1 hj).1
    have:=HNO.out j x (by rw [HN.out] at hjn;omega) hj
    simp
    omega)
   go_wp2_with fail
   go_ret
   exact ⟨by rw [HE.out];rfl,rfl⟩
theorem ldoE (vp:Nat) (kd m:Int) (x:NdE) (w:World) (hk0:kd≠0) (hk1:kd≠1) (hk2:kd≠2) (hk3:kd≠3) (hk4:kd≠4) :
  Calls Tryz.prog 21 #[(.pointer (some ⟨vp,0,none⟩)),.agg #[.int .i64 kd,.int .i64 m,.int .u64 x.n.key,.int .u32 x.n.cookie,.bool x.n.gone,.slice x.a x.n.data.length x.c]] w fun e w'=>e=.returned (.tuple #[.agg #[.int .u64 0,.int .u32 0,.bool false,.slice none 0 0],.slice none 0 0,.int .i64 0])∧Below w.heap.size w w':=by
 obtain ⟨⟨key,cookie,gone,data⟩,xa,xc⟩:=x
 simp only
 have e0:(kd == 0)=false:=by simp;omega
 have e1:(kd == 1)=false:=by simp;omega
 have e2:(kd == 2)=false:=by simp;omega
 have e3:(kd == 3)=false:=by simp;omega
 have e4:(kd == 4)=false:=by simp;omega
 have f0:decide (kd=0)=false:=by simp;omega
 have f1:decide (kd=1)=false:=by simp;omega
 have f2:decide (kd=2)=false:=by simp;omega
 have f3:decide (kd=3)=false:=by simp;omega
 have f4:decide (kd=4)=false:=by simp;omega
 clear hk0 hk1 hk2 hk3 hk4
 go_enter Tryz.func21,Tryz.ntmps21
 go_upto_region 1 with fail
 obtain ⟨w0,hw0⟩:∃ w0:World,w0=(w.alloc (.cells #[.int .i64 kd,.int .i64 m,.int .u64 key,.int .u32 cookie,.bool gone,.slice xa data.length xc] 53)).alloc (.cells #[.int .u64 0,.int .u32 0,.bool false,.slice none 0 0] 60):=⟨_,rfl⟩
 have HB0:=Lib.hid (show Below w.heap.size w w0 by rw [hw0];exact belCa26)
 have KA0:=Lib.hid (show w0.heap[w.heap.size]? = some (.cells #[.int .i64 kd,.int .i64 m,.int .u64 key,.int .u32 cookie,.bool gone,.slice xa data.length xc] 53 (0,0)) by rw [hw0];exact blk_alloc (heap_new w _) _)
 have KN0:=Lib.hid (show w0.heap[w.heap.size+1]? = some (.cells #[.int .u64 0,.int .u32 0,.bool false,.slice none 0 0] 60 (0,0)) by rw [hw0];exact blk_new _ (by simp))
 rw [←hw0]
 clear hw0
 obtain ⟨a0,a1,a2,a3,a4,a5⟩:=acells KA0.out
 obtain ⟨n0,n1,n2,n3⟩:=ncells KN0.out
 obtain ⟨o0,o1,o2,o3⟩:=nfree KN0.out
 have hl0:=blk_lt KN0.out
 go_wp2_with fail
 obtain ⟨wx,hwx⟩:∃ wx,wx=set4 w0 (w.heap.size+1) (.int .u64 0) (.int .u32 0) (.bool false) (.slice none 0 0):=⟨_,rfl⟩
 have HBX:=Lib.hid (show Below w.heap.size w wx by rw [hwx];exact HB0.out.trans (set4_below (by omega) _ _ _ _))
 have kbx:=store4 (KN0.out) (.int .u64 0) (.int .u32 0) (.bool false) (.slice none 0 0)
 rw [←hwx] at kbx
 unfold set4 at hwx
 rw [←hwx]
 clear hwx
 obtain ⟨s0,s1,s2,s3⟩:=ncells kbx
 refine bodyPost_ret (v:=?_) ?_ rfl ?_
 rotate_left;(focus (simp [results,Tryz.results21,go_sem,s0,s1,s2,s3];exact rfl))
 exact ⟨rfl,HBX.out⟩
def nd0:Nd:=⟨0,0,false,[]⟩
def LDoTo (w:World) (vp dp:Nat) (P:Nat→Prop) (K:Nat) (c:Nat) (d:Dk) (v:Vl) (N:Nd) (L:List Ps) (e:Ending) (w':World):Prop:=
 ∃ vd kv,e=.returned (.tuple #[.agg #[.int .u64 N.key,.int .u32 N.cookie,.bool N.gone,vd],kv,.int .i64 c])∧VTo w w' vp dp P K d v∧Reads w' 1 vd N.data.length (N.data.map bv)∧Reads w' 5 kv L.length (L.flatMap psC)
def PLaid (P:Nat→Prop) (w w0:World) (k:Nat):Prop:=P k∨(w.heap.size≤k∧k<w0.heap.size)
theorem VTo.ret {w w0 w1 wf:World} {vp dp K:Nat} {P:Nat→Prop} {d:Dk} {v:Vl} {R:Nat} (hb:Below w.heap.size w w0) (h:VTo w0 w1 vp dp (PLaid P w w0) K d v) (hP:∀ k,P k→k<w.heap.size) (hR:w.heap.size≤R) (hR0:R<w0.heap.size) (hk:Keeps (fun k=>k=R) w1 wf):VTo w wf vp dp P K d v:=by
 have h1:VS wf vp dp (PLaid P w w0) K d v:=VS.keeps h.1 hk (fun k _ e=>.inr (by omega))
 refine ⟨VS.later h1 (Below.refl _ _) (fun k e=>.inl (.inl e)),?_⟩
 refine (KP.of hb).trans ((KP.mono h.2 (fun k _ e=>.inl e)).trans (Keeps.mono hk (fun k _ e f=>?_)))
 have:=hP k f
 omega
theorem ldo0 {vp dp K:Nat} {P:Nat→Prop} {d:Dk} {v:Vl} (m:Int) (x:NdE) (w:World) (h:VS w vp dp P K d v) (hP:∀ k,P k→k<w.heap.size) (hx:NdArg w x) (hd:x.n.data.length≤1000000000) (hc17:(v.put d x.n).1≤17) :
  Calls Tryz.prog 21 #[(.pointer (some ⟨vp,0,none⟩)),.agg #[.int .i64 0,.int .i64 m,.int .u64 x.n.key,.int .u32 x.n.cookie,.bool x.n.gone,.slice x.a x.n.data.length x.c]] w (LDoTo w vp dp P K (v.put d x.n).1 (v.put d x.n).2.1 (v.put d x.n).2.2 nd0 []):=by
 have HPT:=Lib.hid (fun (w0:World) (hb:Below w.heap.size w w0)=>put_vs (h.later (R:=PLaid P w w0) hb (fun k e=>e.imp id (fun e=>e.1))) (fun k e=>e.elim (fun e=>Nat.lt_of_lt_of_le (hP k e) hb.size) (fun e=>e.2)) x.n x.a x.c hx.key hx.cookie hd (hx.data.below hb))
 have HP:=Lib.hid hP
 obtain ⟨L,hL⟩:∃ L,L=v.put d x.n:=⟨_,rfl⟩
 rw [←hL] at HPT hc17 ⊢
 obtain ⟨C,D2,V2⟩:=L
 have HC:=Lib.hid (show C≤17 from hc17)
 clear h hP hx hL hc17
 obtain ⟨⟨key,cookie,gone,data⟩,xa,xc⟩:=x
 unfold ndV at HPT
 simp only at HPT ⊢
 go_enter Tryz.func21,Tryz.ntmps21
 go_upto_region 1 with fail
 obtain ⟨w0,hw0⟩:∃ w0:World,w0=(w.alloc (.cells #[.int .i64 0,.int .i64 m,.int .u64 key,.int .u32 cookie,.bool gone,.slice xa data.length xc] 53)).alloc (.cells #[.int .u64 0,.int .u32 0,.bool false,.slice none 0 0] 60):=⟨_,rfl⟩
 have HB0:=Lib.hid (show Below w.heap.size w w0 by rw [hw0];exact belCa26)
 have KA0:=Lib.hid (show w0.heap[w.heap.size]? = some (.cells #[.int .i64 0,.int .i64 m,.int .u64 key,.int .u32 cookie,.bool gone,.slice xa data.length xc] 53 (0,0)) by rw [hw0];exact blk_alloc (heap_new w _) _)
 have KN0:=Lib.hid (show w0.heap[w.heap.size+1]? = some (.cells #[.int .u64 0,.int .u32 0,.bool false,.slice none 0 0] 60 (0,0)) by rw [hw0];exact blk_new _ (by simp))
 rw [←hw0]
 clear hw0
 obtain ⟨a0,a1,a2,a3,a4,a5⟩:=acells KA0.out
 obtain ⟨n0,n1,n2,n3⟩:=ncells KN0.out
 obtain ⟨o0,o1,o2,o3⟩:=nfree KN0.out
 have hl0:=blk_lt KN0.out
 have hcode:=HC.out
 go_wp2_with fail
 refine (HPT.out w0 HB0.out).mono ?_
 rintro e w1 ⟨rfl,ht⟩
 have HT:=Lib.hid ht
 clear a0 a1 a2 a3 a4 a5 n0 n1 n2 n3 o0 o1 o2 o3
 have KN1:=Lib.hid (show w1.heap[w.heap.size+1]? = _ from (ht.2.blk KN0.out (.inr ⟨by omega,hl0⟩)))
 clear ht
 obtain ⟨n0,n1,n2,n3⟩:=ncells KN1.out
 obtain ⟨o0,o1,o2,o3⟩:=nfree KN1.out
 go_wp2_with fail
 refine (code_any C (by omega) (by omega) _).mono ?_
 rintro e w' ⟨rfl,rfl⟩
 go_wp2_with fail
 obtain ⟨wx,hwx⟩:∃ wx,wx=set4 w1 (w.heap.size+1) (.int .u64 0) (.int .u32 0) (.bool false) (.slice none 0 0):=⟨_,rfl⟩
 have hkx:=set4_keeps w1 (w.heap.size+1) (.int .u64 0) (.int .u32 0) (.bool false) (.slice none 0 0)
 have kbx:=store4 (KN1.out) (.int .u64 0) (.int .u32 0) (.bool false) (.slice none 0 0)
 rw [←hwx] at kbx hkx
 unfold set4 at hwx
 rw [←hwx]
 clear hwx
 obtain ⟨s0,s1,s2,s3⟩:=ncells kbx
 refine bodyPost_ret (v:=?_) ?_ rfl ?_
 rotate_left;(focus (simp [results,Tryz.results21,go_sem,s0,s1,s2,s3];exact rfl))
 exact ⟨_,_,rfl,VTo.ret HB0.out HT.out HP.out (by omega) hl0 hkx,reads_none _ _,reads_none _ _⟩
theorem ldo1 {vp dp K:Nat} {P:Nat→Prop} {d:Dk} {v:Vl} (m:Int) (x:NdE) (w:World) (h:VS w vp dp P K d v) (hP:∀ k,P k→k<w.heap.size) (hx:NdArg w x) (hc17:(v.del d x.n.key x.n.cookie).1≤17) :
  Calls Tryz.prog 21 #[(.pointer (some ⟨vp,0,none⟩)),.agg #[.int .i64 1,.int .i64 m,.int .u64 x.n.key,.int .u32 x.n.cookie,.bool x.n.gone,.slice x.a x.n.data.length x.c]] w (LDoTo w vp dp P K (v.del d x.n.key x.n.cookie).1 (v.del d x.n.key x.n.cookie).2.1 (v.del d x.n.key x.n.cookie).2.2 nd0 []):=by
 have HPT:=Lib.hid (fun (w0:World) (hb:Below w.heap.size w w0)=>del_vs (h.later (R:=PLaid P w w0) hb (fun k e=>e.imp id (fun e=>e.1))) (fun k e=>e.elim (fun e=>Nat.lt_of_lt_of_le (hP k e) hb.size) (fun e=>e.2)) x.n.key x.n.cookie hx.key hx.cookie)
 have HP:=Lib.hid hP
 obtain ⟨L,hL⟩:∃ L,L=v.del d x.n.key x.n.cookie:=⟨_,rfl⟩
 rw [←hL] at HPT hc17 ⊢
 obtain ⟨C,D2,V2⟩:=L
 have HC:=Lib.hid (show C≤17 from hc17)
 clear h hP hx hL hc17
 obtain ⟨⟨key,cookie,gone,data⟩,xa,xc⟩:=x
 simp only at HPT ⊢
 go_enter Tryz.func21,Tryz.ntmps21
 go_upto_region 1 with fail
 obtain ⟨w0,hw0⟩:∃ w0:World,w0=(w.alloc (.cells #[.int .i64 1,.int .i64 m,.int .u64 key,.int .u32 cookie,.bool gone,.slice xa data.length xc] 53)).alloc (.cells #[.int .u64 0,.int .u32 0,.bool false,.slice none 0 0] 60):=⟨_,rfl⟩
 have HB0:=Lib.hid (show Below w.heap.size w w0 by rw [hw0];exact belCa26)
 have KA0:=Lib.hid (show w0.heap[w.heap.size]? = some (.cells #[.int .i64 1,.int .i64 m,.int .u64 key,.int .u32 cookie,.bool gone,.slice xa data.length xc] 53 (0,0)) by rw [hw0];exact blk_alloc (heap_new w _) _)
 have KN0:=Lib.hid (show w0.heap[w.heap.size+1]? = some (.cells #[.int .u64 0,.int .u32 0,.bool false,.slice none 0 0] 60 (0,0)) by rw [hw0];exact blk_new _ (by simp))
 rw [←hw0]
 clear hw0
 obtain ⟨a0,a1,a2,a3,a4,a5⟩:=acells KA0.out
 obtain ⟨n0,n1,n2,n3⟩:=ncells KN0.out
 obtain ⟨o0,o1,o2,o3⟩:=nfree KN0.out
 have hl0:=blk_lt KN0.out
 have hcode:=HC.out
 go_wp2_with fail
 refine (HPT.out w0 HB0.out).mono ?_
 rintro e w1 ⟨rfl,ht⟩
 have HT:=Lib.hid ht
 clear a0 a1 a2 a3 a4 a5 n0 n1 n2 n3 o0 o1 o2 o3
 have KN1:=Lib.hid (show w1.heap[w.heap.size+1]? = _ from (ht.2.blk KN0.out (.inr ⟨by omega,hl0⟩)))
 clear ht
 obtain ⟨n0,n1,n2,n3⟩:=ncells KN1.out
 obtain ⟨o0,o1,o2,o3⟩:=nfree KN1.out
 go_wp2_with fail
 refine (code_any C (by omega) (by omega) _).mono ?_
 rintro e w' ⟨rfl,rfl⟩
 go_wp2_with fail
 obtain ⟨wx,hwx⟩:∃ wx,wx=set4 w1 (w.heap.size+1) (.int .u64 0) (.int .u32 0) (.bool false) (.slice none 0 0):=⟨_,rfl⟩
 have hkx:=set4_keeps w1 (w.heap.size+1) (.int .u64 0) (.int .u32 0) (.bool false) (.slice none 0 0)
 have kbx:=store4 (KN1.out) (.int .u64 0) (.int .u32 0) (.bool false) (.slice none 0 0)
 rw [←hwx] at kbx hkx
 unfold set4 at hwx
 rw [←hwx]
 clear hwx
 obtain ⟨s0,s1,s2,s3⟩:=ncells kbx
 refine bodyPost_ret (v:=?_) ?_ rfl ?_
 rotate_left;(focus (simp [results,Tryz.results21,go_sem,s0,s1,s2,s3];exact rfl))
 exact ⟨_,_,rfl,VTo.ret HB0.out HT.out HP.out (by omega) hl0 hkx,reads_none _ _,reads_none _ _⟩
theorem ldo4 {vp dp K:Nat} {P:Nat→Prop} {d:Dk} {v:Vl} (m:Int) (x:NdE) (w:World) (h:VS w vp dp P K d v) (hP:∀ k,P k→k<w.heap.size) (hK:K+4<1099511627776) (hc17:(v.set d m x.n.gone).1≤17) :
  Calls Tryz.prog 21 #[(.pointer (some ⟨vp,0,none⟩)),.agg #[.int .i64 4,.int .i64 m,.int .u64 x.n.key,.int .u32 x.n.cookie,.bool x.n.gone,.slice x.a x.n.data.length x.c]] w (LDoTo w vp dp P (K+4) (v.set d m x.n.gone).1 (v.set d m x.n.gone).2.1 (v.set d m x.n.gone).2.2 nd0 []):=by
 have HPT:=Lib.hid (fun (w0:World) (hb:Below w.heap.size w w0)=>set_vs (h.later (R:=PLaid P w w0) hb (fun k e=>e.imp id (fun e=>e.1))) (fun k e=>e.elim (fun e=>Nat.lt_of_lt_of_le (hP k e) hb.size) (fun e=>e.2)) hK m x.n.gone)
 have HP:=Lib.hid hP
 obtain ⟨L,hL⟩:∃ L,L=v.set d m x.n.gone:=⟨_,rfl⟩
 rw [←hL] at HPT hc17 ⊢
 obtain ⟨C,D2,V2⟩:=L
 have HC:=Lib.hid (show C≤17 from hc17)
 clear h hP hL hc17
 obtain ⟨⟨key,cookie,gone,data⟩,xa,xc⟩:=x
 simp only at HPT ⊢
 go_enter Tryz.func21,Tryz.ntmps21
 go_upto_region 1 with fail
 obtain ⟨w0,hw0⟩:∃ w0:World,w0=(w.alloc (.cells #[.int .i64 4,.int .i64 m,.int .u64 key,.int .u32 cookie,.bool gone,.slice xa data.length xc] 53)).alloc (.cells #[.int .u64 0,.int .u32 0,.bool false,.slice none 0 0] 60):=⟨_,rfl⟩
 have HB0:=Lib.hid (show Below w.heap.size w w0 by rw [hw0];exact belCa26)
 have KA0:=Lib.hid (show w0.heap[w.heap.size]? = some (.cells #[.int .i64 4,.int .i64 m,.int .u64 key,.int .u32 cookie,.bool gone,.slice xa data.length xc] 53 (0,0)) by rw [hw0];exact blk_alloc (heap_new w _) _)
 have KN0:=Lib.hid (show w0.heap[w.heap.size+1]? = some (.cells #[.int .u64 0,.int .u32 0,.bool false,.slice none 0 0] 60 (0,0)) by rw [hw0];exact blk_new _ (by simp))
 rw [←hw0]
 clear hw0
 obtain ⟨a0,a1,a2,a3,a4,a5⟩:=acells KA0.out
 obtain ⟨n0,n1,n2,n3⟩:=ncells KN0.out
 obtain ⟨o0,o1,o2,o3⟩:=nfree KN0.out
 have hl0:=blk_lt KN0.out
 have hcode:=HC.out
 go_wp2_with fail
 refine (HPT.out w0 HB0.out).mono ?_
 rintro e w1 ⟨rfl,ht⟩
 have HT:=Lib.hid ht
 clear a0 a1 a2 a3 a4 a5 n0 n1 n2 n3 o0 o1 o2 o3
 have KN1:=Lib.hid (show w1.heap[w.heap.size+1]? = _ from (ht.2.blk KN0.out (.inr ⟨by omega,hl0⟩)))
 clear ht
 obtain ⟨n0,n1,n2,n3⟩:=ncells KN1.out
 obtain ⟨o0,o1,o2,o3⟩:=nfree KN1.out
 go_wp2_with fail
 refine (code_any C (by omega) (by omega) _).mono ?_
 rintro e w' ⟨rfl,rfl⟩
 go_wp2_with fail
 obtain ⟨wx,hwx⟩:∃ wx,wx=set4 w1 (w.heap.size+1) (.int .u64 0) (.int .u32 0) (.bool false) (.slice none 0 0):=⟨_,rfl⟩
 have hkx:=set4_keeps w1 (w.heap.size+1) (.int .u64 0) (.int .u32 0) (.bool false) (.slice none 0 0)
 have kbx:=store4 (KN1.out) (.int .u64 0) (.int .u32 0) (.bool false) (.slice none 0 0)
 rw [←hwx] at kbx hkx
 unfold set4 at hwx
 rw [←hwx]
 clear hwx
 obtain ⟨s0,s1,s2,s3⟩:=ncells kbx
 refine bodyPost_ret (v:=?_) ?_ rfl ?_
 rotate_left;(focus (simp [results,Tryz.results21,go_sem,s0,s1,s2,s3];exact rfl))
 exact ⟨_,_,rfl,VTo.ret HB0.out HT.out HP.out (by omega) hl0 hkx,reads_none _ _,reads_none _ _⟩
theorem Rv.write_17 (v:Rv) (n:Nd):(v.write n).1≤17:=by
 unfold Rv.write
 split <;> simp
theorem Rv.look_17 (v:Rv) (k c:Nat):v.look k c≤17:=by
 unfold Rv.look
 split
 ·omega
 ·split
  ·omega
  ·split <;> omega
theorem Rv.put_17 (v:Rv) (n:Nd):(v.put n).1≤17:=by
 unfold Rv.put
 split
 ·simp
 ·split
  ·unfold ndCheck
   simp only
   split
   ·omega
   ·split <;> omega
  ·split
   ·simp
   ·split
    ·simp only
     split <;> omega
    ·exact v.write_17 n
theorem Rv.del_17 (v:Rv) (k c:Nat):(v.del k c).1≤17:=by
 unfold Rv.del
 split
 ·exact v.look_17 k c
 ·split
  ·simp
  ·exact v.write_17 _
theorem Rv.set_17 (v:Rv) (e:Int) (s:Bool):(v.set e s).1≤17:=by
 unfold Rv.set
 split
 ·simp
 ·split <;> simp
theorem Rv.act_17 (v:Rv) (a:VAct):(v.act a).1≤17:=by
 unfold Rv.act
 split
 ·exact v.put_17 _
 ·split
  ·exact v.del_17 _ _
  ·split
   ·exact v.look_17 _ _
   ·split
    ·simp
    ·split
     ·exact v.set_17 _ _
     ·simp
theorem ldo2 {vp dp K:Nat} {P:Nat→Prop} {d:Dk} {v:Vl} (m:Int) (x:NdE) (w:World) (h:VS w vp dp P K d v) (hp:∀ p∈v.idx,p.len≤4096∧p.off≤1000000000) (ht:(v.get d x.n.key x.n.cookie).2.1=false) (hc17:(v.get d x.n.key x.n.cookie).1≤17) :
  Calls Tryz.prog 21 #[(.pointer (some ⟨vp,0,none⟩)),.agg #[.int .i64 2,.int .i64 m,.int .u64 x.n.key,.int .u32 x.n.cookie,.bool x.n.gone,.slice x.a x.n.data.length x.c]] w (LDoTo w vp dp P K (v.get d x.n.key x.n.cookie).1 d v (v.get d x.n.key x.n.cookie).2.2 []):=by
 have HGT:=Lib.hid (fun (w0:World) (hb:Below w.heap.size w w0)=>show Calls Tryz.prog 41 #[(.pointer (some ⟨vp,0,none⟩)),.int .u64 x.n.key,.int .u32 x.n.cookie] w0 (GotV w0 (v.get d x.n.key x.n.cookie)) by
  obtain ⟨ix,vx,h1,h2,-,h4⟩:=h
  exact vget_any (h1.below hb) (h2.below hb) h4.names h4.long.1 _ _ (find_in hp).1 (find_in hp).2)
 have HVS:=Lib.hid (fun (w':World) (hb:Below w.heap.size w w')=>h.same hb)
 obtain ⟨L,hL⟩:∃ L,L=v.get d x.n.key x.n.cookie:=⟨_,rfl⟩
 rw [←hL] at HGT ht hc17 ⊢
 obtain ⟨C,tl,N⟩:=L
 have htl:tl=false:=ht
 subst htl
 have HC:=Lib.hid (show C≤17 from hc17)
 clear h hp hL hc17 ht
 obtain ⟨⟨key,cookie,gone,data⟩,xa,xc⟩:=x
 obtain ⟨nk,nc,ng,nd⟩:=N
 simp only at HGT ⊢
 go_enter Tryz.func21,Tryz.ntmps21
 go_upto_region 1 with fail
 obtain ⟨w0,hw0⟩:∃ w0:World,w0=(w.alloc (.cells #[.int .i64 2,.int .i64 m,.int .u64 key,.int .u32 cookie,.bool gone,.slice xa data.length xc] 53)).alloc (.cells #[.int .u64 0,.int .u32 0,.bool false,.slice none 0 0] 60):=⟨_,rfl⟩
 have HB0:=Lib.hid (show Below w.heap.size w w0 by rw [hw0];exact belCa26)
 have KA0:=Lib.hid (show w0.heap[w.heap.size]? = some (.cells #[.int .i64 2,.int .i64 m,.int .u64 key,.int .u32 cookie,.bool gone,.slice xa data.length xc] 53 (0,0)) by rw [hw0];exact blk_alloc (heap_new w _) _)
 have KN0:=Lib.hid (show w0.heap[w.heap.size+1]? = some (.cells #[.int .u64 0,.int .u32 0,.bool false,.slice none 0 0] 60 (0,0)) by rw [hw0];exact blk_new _ (by simp))
 rw [←hw0]
 clear hw0
 obtain ⟨a0,a1,a2,a3,a4,a5⟩:=acells KA0.out
 have hl0:=blk_lt KN0.out
 have hcode:=HC.out
 go_wp2_with fail
 refine (HGT.out w0 HB0.out).mono ?_
 rintro e w1 ⟨vd,ev,rfl,her,hown,hb⟩
 have hev:ev=errV C:=by
  rcases her with ⟨_,e⟩|⟨e,_⟩
  ·exact e
  ·cases e
 subst hev
 have HOW:=Lib.hid (show w1.ownsRow w0.heap.size 5 1 vd nd.length (nd.map bv) from hown)
 have KN1:=Lib.hid (blk_below' KN0.out hb)
 have HB1:=Lib.hid (HB0.out.trans (hb.mono HB0.out.size))
 have hz1:=hb.size
 obtain ⟨da,dc,hvd,-⟩:=slice_of HOW.out
 clear her hown hb a0 a1 a2 a3 a4 a5
 subst hvd
 obtain ⟨ndl,hndl⟩:∃ ndl,ndl=nd.length:=⟨_,rfl⟩
 have HDL:=Lib.hid hndl
 simp only
 rw [←hndl] at HOW ⊢
 clear hndl
 obtain ⟨w2,hw2⟩:∃ w2:World,w2=w1.alloc (.cells #[.int .u64 nk,.int .u32 nc,.bool ng,.slice da ndl dc] 60):=⟨_,rfl⟩
 have HB2:=Lib.hid (show Below w.heap.size w w2 by rw [hw2];exact HB1.out.alloc HB1.out.size _)
 have HO2:=Lib.hid (show w2.ownsRow w0.heap.size 5 1 (.slice da ndl dc) ndl (nd.map bv) by rw [hw2];exact ownsRow_below HOW.out belCa26)
 have KN2:=Lib.hid (show w2.heap[w.heap.size+1]? = some (.cells #[.int .u64 0,.int .u32 0,.bool false,.slice none 0 0] 60 (0,0)) by rw [hw2];exact blk_alloc KN1.out _)
 have KG2:=Lib.hid (show w2.heap[w1.heap.size]? = some (.cells #[.int .u64 nk,.int .u32 nc,.bool ng,.slice da ndl dc] 60 (0,0)) by rw [hw2];exact heap_new w1 _)
 have hl1:=blk_lt KN1.out
 go_upto_region 8 with fail
 rw [←hw2]
 clear hw2
 obtain ⟨n0,n1,n2,n3⟩:=ncells KN2.out
 obtain ⟨o0,o1,o2,o3⟩:=nfree KN2.out
 obtain ⟨y0,y1,y2,y3⟩:=ncells KG2.out
 have hlg:=blk_lt KG2.out
 obtain ⟨SS,HSD⟩:∃ SS:World→Prop,Hid (SS=fun w'=>w'.heap[w1.heap.size]? = some (.cells #[.int .u64 nk,.int .u32 nc,.bool ng,.slice da ndl dc] 60 (0,0))):=⟨_,Lib.hid rfl⟩
 refine wp_region_order0 SS [0] [(0,2),(1,0),(2,1),(3,1),(4,0),(5,0)] (by kernel_rfl) (by kernel_rfl) rfl (by kernel_rfl) ?_ ?_
 (focus (rw [HSD.out];exact KG2.out));refine stepE2 rfl rfl ?_ (fun w1 hS=>?_) fun K hK=>?_;rotate_left;(focus (rw [HSD.out] at hS;obtain ⟨z0,z1,z2,z3⟩:=ncells hS;go_simp;rfl));go_simp;refine hK _ ?_;clear hK K;refine stepE0 rfl rfl fun K hK=>?_;go_simp;refine hK _ ?_;clear hK K;refine stepE1S rfl rfl fun K hK=>?_
 (go_wp2_with fail;refine (code_any C (by omega) (by omega) _).mono ?_;rintro e wc ⟨rfl,rfl⟩;go_wp2)
 refine ⟨by rw [HSD.out];exact (KG2.out),?_⟩
 refine stepE1 rfl rfl (by kernel_rfl) fun K hK=>?_;go_wp2;(iterate 2 refine stepE0 rfl rfl fun K hK=>?_;go_simp;refine hK _ ?_;clear hK K)
 try refine stepEnil0 ?_
 clear HSD SS
 go_wp2
 obtain ⟨w3,hw3⟩:∃ w3,w3=set4 w2 (w.heap.size+1) (.int .u64 nk) (.int .u32 nc) (.bool ng) (.slice da ndl dc):=⟨_,rfl⟩
 have hb3:=set4_below (w:=w2) (B:=w.heap.size) (b:=w.heap.size+1) (by omega) (.int .u64 nk) (.int .u32 nc) (.bool ng) (.slice da ndl dc)
 have hk3:=set4_keeps w2 (w.heap.size+1) (.int .u64 nk) (.int .u32 nc) (.bool ng) (.slice da ndl dc)
 have k3:=store4 (KN2.out) (.int .u64 nk) (.int .u32 nc) (.bool ng) (.slice da ndl dc)
 rw [←hw3] at hb3 hk3 k3
 have HBX:=Lib.hid (HB2.out.trans hb3)
 have HRX:=Lib.hid (show w3.drew.ownsRow w0.heap.size 5 1 (.slice da ndl dc) ndl (nd.map bv) from ownsRow_below (ownsRow_keeps HO2.out hk3 (fun q hq e=>by have:=(HO2.out.lt q hq).1;omega)) (Below.drew (Below.refl _ _)))
 unfold set4 at hw3
 rw [←hw3]
 clear hw3 hb3
 obtain ⟨s0,s1,s2,s3⟩:=ncells (blk_drew k3)
 refine bodyPost_ret (v:=?_) ?_ rfl ?_
 rotate_left;(focus (simp [results,Tryz.results21,go_sem,s0,s1,s2,s3];exact rfl))
 refine ⟨_,_,rfl,HVS.out _ HBX.out.drew,?_,reads_none _ _⟩
 show Reads w3.drew 1 (.slice da ndl dc) nd.length (nd.map bv)
 rw [←HDL.out]
 exact reads_of_owns HRX.out
theorem ldo3 {vp dp K:Nat} {P:Nat→Prop} {d:Dk} {v:Vl} (m:Int) (x:NdE) (w:World) (h:VS w vp dp P K d v) :
  Calls Tryz.prog 21 #[(.pointer (some ⟨vp,0,none⟩)),.agg #[.int .i64 3,.int .i64 m,.int .u64 x.n.key,.int .u32 x.n.cookie,.bool x.n.gone,.slice x.a x.n.data.length x.c]] w (LDoTo w vp dp P K 0 d v nd0 (v.keys x.n.key m)):=by
 have HGT:=Lib.hid (fun (w0:World) (hb:Below w.heap.size w w0)=>show Calls Tryz.prog 64 #[(.pointer (some ⟨vp,0,none⟩)),.int .u64 x.n.key,.int .i64 m] w0 fun e w'=>∃ v',e=.returned v'∧w'.ownsRow w0.heap.size 152 5 v' (v.keys x.n.key m).length ((v.keys x.n.key m).flatMap psC)∧Below w0.heap.size w0 w' by
  obtain ⟨ix,vx,h1,h2,-,h4⟩:=h
  exact keys_any (h1.below hb) _ _)
 have HVS:=Lib.hid (fun (w':World) (hb:Below w.heap.size w w')=>h.same hb)
 obtain ⟨L,hL⟩:∃ L,L=v.keys x.n.key m:=⟨_,rfl⟩
 rw [←hL] at HGT ⊢
 clear h hL
 obtain ⟨⟨key,cookie,gone,data⟩,xa,xc⟩:=x
 simp only at HGT ⊢
 go_enter Tryz.func21,Tryz.ntmps21
 go_upto_region 1 with fail
 obtain ⟨w0,hw0⟩:∃ w0:World,w0=(w.alloc (.cells #[.int .i64 3,.int .i64 m,.int .u64 key,.int .u32 cookie,.bool gone,.slice xa data.length xc] 53)).alloc (.cells #[.int .u64 0,.int .u32 0,.bool false,.slice none 0 0] 60):=⟨_,rfl⟩
 have HB0:=Lib.hid (show Below w.heap.size w w0 by rw [hw0];exact belCa26)
 have KA0:=Lib.hid (show w0.heap[w.heap.size]? = some (.cells #[.int .i64 3,.int .i64 m,.int .u64 key,.int .u32 cookie,.bool gone,.slice xa data.length xc] 53 (0,0)) by rw [hw0];exact blk_alloc (heap_new w _) _)
 have KN0:=Lib.hid (show w0.heap[w.heap.size+1]? = some (.cells #[.int .u64 0,.int .u32 0,.bool false,.slice none 0 0] 60 (0,0)) by rw [hw0];exact blk_new _ (by simp))
 rw [←hw0]
 clear hw0
 obtain ⟨a0,a1,a2,a3,a4,a5⟩:=acells KA0.out
 have hl0:=blk_lt KN0.out
 go_wp2_with fail
 refine (HGT.out w0 HB0.out).mono ?_
 rintro e w1 ⟨kv,rfl,hown,hb⟩
 obtain ⟨kn,hkn⟩:∃ kn,kn=L.length:=⟨_,rfl⟩
 have HKN:=Lib.hid hkn
 rw [←hkn] at hown
 clear hkn
 obtain ⟨ka,kc,rfl,-⟩:=slice_of hown
 have HOW:=Lib.hid hown
 have KN1:=Lib.hid (blk_below' KN0.out hb)
 have HB1:=Lib.hid (HB0.out.trans (hb.mono HB0.out.size))
 have hz1:=hb.size
 clear hown hb a0 a1 a2 a3 a4 a5
 obtain ⟨n0,n1,n2,n3⟩:=ncells KN1.out
 obtain ⟨o0,o1,o2,o3⟩:=nfree KN1.out
 have hl1:=blk_lt KN1.out
 go_wp2_with fail
 obtain ⟨w3,hw3⟩:∃ w3,w3=set4 w1 (w.heap.size+1) (.int .u64 0) (.int .u32 0) (.bool false) (.slice none 0 0):=⟨_,rfl⟩
 have hb3:=set4_below (w:=w1) (B:=w.heap.size) (b:=w.heap.size+1) (by omega) (.int .u64 0) (.int .u32 0) (.bool false) (.slice none 0 0)
 have hk3:=set4_keeps w1 (w.heap.size+1) (.int .u64 0) (.int .u32 0) (.bool false) (.slice none 0 0)
 have k3:=store4 (KN1.out) (.int .u64 0) (.int .u32 0) (.bool false) (.slice none 0 0)
 rw [←hw3] at hb3 hk3 k3
 have HBX:=Lib.hid (HB1.out.trans hb3)
 have HRX:=Lib.hid (show w3.ownsRow w0.heap.size 152 5 (.slice ka kn kc) kn (L.flatMap psC) from ownsRow_keeps HOW.out hk3 (fun q hq e=>by have:=(HOW.out.lt q hq).1;omega))
 unfold set4 at hw3
 rw [←hw3]
 clear hw3 hb3
 obtain ⟨s0,s1,s2,s3⟩:=ncells k3
 refine bodyPost_ret (v:=?_) ?_ rfl ?_
 rotate_left;(focus (simp [results,Tryz.results21,go_sem,s0,s1,s2,s3];exact rfl))
 refine ⟨_,_,rfl,HVS.out _ HBX.out,reads_none _ _,?_⟩
 rw [←HKN.out]
 exact reads_of_owns HRX.out
def Vl.gotN (v:Vl) (d:Dk) (a:VAct):Nd:=if a.kind=2 then (v.get d a.n.key a.n.cookie).2.2 else nd0
def Vl.gotK (v:Vl) (a:VAct):List Ps:=if a.kind=3 then v.keys a.n.key a.m else []
theorem VTo.more {w w':World} {vp dp K L:Nat} {P:Nat→Prop} {d:Dk} {v:Vl} (h:VTo w w' vp dp P K d v) (hl:K≤L):VTo w w' vp dp P L d v:=⟨h.1.more hl,h.2⟩
theorem ldo_any {vp dp K:Nat} {P:Nat→Prop} {d:Dk} {v:Vl} (a:ActE) (w:World) (h:VS w vp dp P K d v) (hP:∀ k,P k→k<w.heap.size) (hK:K+4<1099511627776) (hx:NdArg w a.x) (hd:a.x.n.data.length≤1000000000) (hp:∀ p∈v.idx,p.len≤4096∧p.off≤1000000000) (ht:(v.get d a.x.n.key a.x.n.cookie).2.1=false) (hc17:(v.act d a.act).1≤17) :
  Calls Tryz.prog 21 #[(.pointer (some ⟨vp,0,none⟩)),.agg a.cs.toArray] w (LDoTo w vp dp P (K+4) (v.act d a.act).1 (v.act d a.act).2.1 (v.act d a.act).2.2 (v.gotN d a.act) (v.gotK a.act)):=by
 obtain ⟨kd,m,x⟩:=a
 have hcs:ActE.cs ⟨kd,m,x⟩=[.int .i64 kd,.int .i64 m,.int .u64 x.n.key,.int .u32 x.n.cookie,.bool x.n.gone,.slice x.a x.n.data.length x.c]:=rfl
 rw [hcs]
 simp only at hx hd ht
 have hact:ActE.act ⟨kd,m,x⟩=⟨kd,m,x.n⟩:=rfl
 rw [hact] at hc17 ⊢
 unfold Vl.act at hc17 ⊢
 unfold Vl.gotN Vl.gotK
 simp only at hc17 ⊢
 have up:∀ {e:Ending} {w':World} {c:Nat} {D:Dk} {V:Vl} {N:Nd} {L:List Ps},LDoTo w vp dp P K c D V N L e w'→LDoTo w vp dp P (K+4) c D V N L e w':=fun ⟨a,b,h1,h2,h3⟩=>⟨a,b,h1,h2.more (by omega),h3⟩
 by_cases h0:kd=0
 ·subst h0
  exact (ldo0 m x w h hP hx hd hc17).mono fun _ _ q=>up q
 rw [if_neg h0] at hc17 ⊢
 by_cases h1:kd=1
 ·subst h1
  exact (ldo1 m x w h hP hx hc17).mono fun _ _ q=>up q
 rw [if_neg h1] at hc17 ⊢
 by_cases h2:kd=2
 ·subst h2
  exact (ldo2 m x w h hp ht hc17).mono fun _ _ q=>up q
 rw [if_neg h2] at hc17 ⊢
 by_cases h3:kd=3
 ·subst h3
  exact (ldo3 m x w h).mono fun _ _ q=>up q
 rw [if_neg h3] at hc17 ⊢
 rw [if_neg h2,if_neg h3]
 by_cases h4:kd=4
 ·subst h4
  exact ldo4 m x w h hP hK hc17
 rw [if_neg h4] at hc17 ⊢
 exact (ldoE vp kd m x w h0 h1 h2 h3 h4).mono fun e w' ⟨q1,q2⟩=>⟨_,_,q1,(h.same q2).more (by omega),reads_none _ _,reads_none _ _⟩
end Go.Proofs.YtfpjfoajonbndaaGreatDoor
