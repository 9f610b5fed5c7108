import Derived.Test.YtfpjfoajonbndaaGreatDoorCh14
import Derived.Test.YtfpjfoajonbndaaGreatDoorCh15
namespace Go.Proofs.YtfpjfoajonbndaaGreatDoor
set_option maxHeartbeats 8000000
set_option maxRecDepth 100000
open Go.RowKit
set_option maxRecDepth 100000
set_option maxHeartbeats 8000000
open Go.RowKit
theorem raw_any{w:World}{vp dp ix K:Nat}{vx:Value}{P:Nat→Prop}{d:Dk}{v:Vl}(h:VolAt w vp dp ix vx v)(hds:DS w dp P K d)(hn:NamesAt v.num v.gen)(hl:v.file.length≤maxLen)(p:Ps)(hp:p.len≤4096)(ho:p.off≤1000000000) :
  Calls Tryz.prog 80 #[(.pointer (some ⟨vp,0,none⟩)),psV p] w (ReadTo w (d.read v.file p.off (ndSize p.len)).1 (d.read v.file p.off (ndSize p.len)).2):=by
 obtain ⟨c0,c1,c2,c3,c4,c5,c6,c7⟩:=h.cells
 have hlt:=h.lt
 have hnz:=(ndSize_le hp).2
 have HFI:=Hd (fun (w0:World) (hb:Below w.heap.size w w0)=>file_any (h.below hb) hn)
 have HRD:=Hd (fun (w0:World) (hb:Below w.heap.size w w0)=>read_ds (hds.below hb) v.file p.off (ndSize p.len) hl (by omega) (by omega))
 have HSZ:=Hd (fun (w0:World)=>nsize_any p.len hp w0)
 obtain ⟨F,hF⟩:∃ F,F=v.file:=⟨_,rfl⟩
 obtain ⟨R,hR⟩:∃ R,R=d.read v.file p.off (ndSize p.len):=⟨_,rfl⟩
 rw [←hR] at HRD ⊢
 rw [←hF] at HRD HFI
 obtain ⟨pk,po,pl,pc,pg⟩:=p
 unfold psV
 simp only at HRD HSZ ho hp ⊢
 obtain ⟨NZ,hNZ⟩:∃ NZ,NZ=ndSize pl:=⟨_,rfl⟩
 simp only at hnz
 rw [←hNZ] at HRD HSZ hnz
 clear h hds hn hl hF hR hNZ
 go_enter Tryz.func80,Tryz.ntmps80
 go_upto_region 3 with fail
 obtain ⟨w0,hw0⟩:∃ w0:World,w0=w.alloc (.cells #[.int .u64 pk,.int .i64 po,.int .i64 pl,.int .u32 pc,.bool pg] 152):=⟨_,rfl⟩
 have HB0:=Hd (show Below w.heap.size w w0 by rw [hw0];exact belo)
 have kb0:w0.heap[w.heap.size]? = some (.cells #[.int .u64 pk,.int .i64 po,.int .i64 pl,.int .u32 pc,.bool pg] 152 (0,0)):=by rw [hw0];exact heap_new w _
 have HKB0:=Hd kb0
 have hl0:=blk_lt kb0
 obtain ⟨q0,q1,q2,q3,q4⟩:=pcells kb0
 have c0':=((bcell HB0.out).1 vp 0 hlt).trans c0
 rw [←hw0]
 clear hw0 kb0
 obtain ⟨SS,HSD⟩:∃ SS:World→Prop,Hid (SS=fun w'=>w'.cell? ⟨vp,0,none⟩=some (.pointer (some ⟨dp,0,none⟩))∧w'.cell? ⟨w.heap.size,1,none⟩=some (.int .i64 po)∧w'.cell? ⟨w.heap.size,2,none⟩=some (.int .i64 pl)):=⟨_,Hd rfl⟩
 refine wp_region_mask0 SS [3,7,9] [0,1,3,7,0,16,0,64,0,256,816,2047,4095,4095,16383,32767] (.op 0 0 (.op 1 0 (.op 2 0 (.op 3 2 (.op 4 0 (.op 6 0 (.op 7 2 (.op 8 0 (.op 9 2 (.op 5 1 (.op 10 1 (.op 11 1 (.op 12 0 (.op 13 0 (.op 14 0 (.op 15 0 .nil)))))))))))))))) (by kernel_rfl) (by kernel_rfl) rfl (by kernel_rfl) (by kernel_rfl) ?_ ?_
 (focus (rw [HSD.out];exact ⟨c0',q1,q2⟩));(iterate 3 refine stepM0 rfl rfl fun K hK=>?_;go_simp;refine hK _ ?_;clear hK K);refine stepM2 rfl rfl ?_ (fun w1 hS=>?_) fun K hK=>?_;rotate_left;(focus (rw [HSD.out] at hS;obtain ⟨s1,s2,s3⟩:=hS;go_simp;rfl));go_simp;refine hK _ ?_;clear hK K;(iterate 2 refine stepM0 rfl rfl fun K hK=>?_;go_simp;refine hK _ ?_;clear hK K);refine stepM2 rfl rfl ?_ (fun w1 hS=>?_) fun K hK=>?_;rotate_left;(focus (rw [HSD.out] at hS;obtain ⟨s1,s2,s3⟩:=hS;go_simp;rfl));go_simp;refine hK _ ?_;clear hK K;refine stepM0 rfl rfl fun K hK=>?_;go_simp;refine hK _ ?_;clear hK K;refine stepM2 rfl rfl ?_ (fun w1 hS=>?_) fun K hK=>?_;rotate_left;(focus (rw [HSD.out] at hS;obtain ⟨s1,s2,s3⟩:=hS;go_simp;rfl));go_simp;refine hK _ ?_;clear hK K;refine stepM1S rfl rfl fun K hK=>?_
 (go_wp2_with fail;refine (HFI.out w0.drew (Below.drew HB0.out)).mono ?_;rintro e w2 ⟨rfl,hb⟩;have HB2:=Hd ((Below.drew HB0.out).trans (hb.mono HB0.out.size));obtain ⟨r0,r1,r2,r3,r4⟩:=pcells (blk_below' (w:=w0.drew) HKB0.out hb);have cc:=((bcell HB2.out).1 vp 0 hlt).trans c0;clear hb;go_wp2)
 refine ⟨by rw [HSD.out];exact (⟨cc,r1,r2⟩),?_⟩
 refine stepM1S rfl rfl fun K hK=>?_
 (go_wp2_with fail;refine (HSZ.out _).mono ?_;rintro e wx ⟨rfl,rfl⟩;go_wp2)
 refine ⟨by rw [HSD.out];exact (⟨cc,r1,r2⟩),?_⟩
 refine stepM1 rfl rfl (by kernel_rfl) fun K hK=>?_
 (go_wp2_with fail;refine (HRD.out _ HB2.out).mono ?_;rintro e w3 ⟨vr,rfl,ho3,hb3⟩;have HO3:=Hd (ownsRow_mono ho3 HB2.out.size);have HB3:=Hd (HB2.out.trans (hb3.mono HB2.out.size));clear ho3 hb3;go_wp2)
 (iterate 4 refine stepM0 rfl rfl fun K hK=>?_;go_simp;refine hK _ ?_;clear hK K)
 try refine stepMnil0 ?_
 clear HSD SS
 go_wp2
 go_ret2
 exact ⟨vr,rfl,HO3.out,HB3.out⟩
def ErrIn (w:World) (ev:Value) (k:Nat) (told:Bool):Prop:=
 (told=false∧ev=errV k)∨(told=true∧k≠0∧∃ bk f off,ev=.iface 145 (.pointer (some ⟨bk,0,none⟩))∧w.heap[bk]? = some (.cells #[.string f,.int .i64 off,errV k] 147 (0,0)))
theorem ErrIn.plain{w:World}{ev:Value}{k:Nat}(h:ev=errV k):ErrIn w ev k false:=.inl ⟨rfl,h⟩
def GotV (w:World) (r:Nat×Bool×Nd) (e:Ending) (w':World):Prop:=
 ∃ vd ev,e=.returned (.tuple #[.agg #[.int .u64 r.2.2.key,.int .u32 r.2.2.cookie,.bool r.2.2.gone,vd],ev])∧ErrIn w' ev r.1 r.2.1∧w'.ownsRow w.heap.size 5 1 vd r.2.2.data.length (r.2.2.data.map bv)∧Below w.heap.size w w'
theorem set4_size(w:World)(b:Nat)(u0 u1 u2 u3:Value):(set4 w b u0 u1 u2 u3).heap.size=w.heap.size:=by simp [set4]
theorem read_len(d:Dk)(s:Nm)(off:Int)(n:Nat):(d.read s off n).2.length≤n:=by
 unfold Dk.read
 split
 ·simp
 split
 ·simp
 split
 ·simp
 ·simp [List.length_take]
  omega
section
variable {v:Vl} {d:Dk} {key cookie:Nat}
theorem vg_find(h:(v.find key cookie).1≠0):v.get d key cookie=((v.find key cookie).1,false,⟨0,0,false,[]⟩):=if_pos h
theorem vg_read(h:¬ (v.find key cookie).1≠0)(h1:(d.read v.file (v.find key cookie).2.off (ndSize (v.find key cookie).2.len)).1≠0):v.get d key cookie=((d.read v.file (v.find key cookie).2.off (ndSize (v.find key cookie).2.len)).1,false,⟨0,0,false,[]⟩):=by
 unfold Vl.get
 rw [if_neg h,if_pos h1]
theorem vg_nd(h:¬ (v.find key cookie).1≠0)(h1:¬ (d.read v.file (v.find key cookie).2.off (ndSize (v.find key cookie).2.len)).1≠0)(h2:(ndGet (d.read v.file (v.find key cookie).2.off (ndSize (v.find key cookie).2.len)).2).1≠0):v.get d key cookie=((ndGet (d.read v.file (v.find key cookie).2.off (ndSize (v.find key cookie).2.len)).2).1,true,⟨0,0,false,[]⟩):=by
 unfold Vl.get
 rw [if_neg h,if_neg h1,if_pos h2]
theorem vg_form(h:¬ (v.find key cookie).1≠0)(h1:¬ (d.read v.file (v.find key cookie).2.off (ndSize (v.find key cookie).2.len)).1≠0)(h2:¬ (ndGet (d.read v.file (v.find key cookie).2.off (ndSize (v.find key cookie).2.len)).2).1≠0)
  (h3:posOf (v.find key cookie).2.off (ndGet (d.read v.file (v.find key cookie).2.off (ndSize (v.find key cookie).2.len)).2).2.1≠(v.find key cookie).2):v.get d key cookie=(4,true,⟨0,0,false,[]⟩):=by
 unfold Vl.get
 rw [if_neg h,if_neg h1,if_neg h2,if_pos h3]
theorem vg_ok(h:¬ (v.find key cookie).1≠0)(h1:¬ (d.read v.file (v.find key cookie).2.off (ndSize (v.find key cookie).2.len)).1≠0)(h2:¬ (ndGet (d.read v.file (v.find key cookie).2.off (ndSize (v.find key cookie).2.len)).2).1≠0)
  (h3:¬ posOf (v.find key cookie).2.off (ndGet (d.read v.file (v.find key cookie).2.off (ndSize (v.find key cookie).2.len)).2).2.1≠(v.find key cookie).2):v.get d key cookie=(0,false,(ndGet (d.read v.file (v.find key cookie).2.off (ndSize (v.find key cookie).2.len)).2).2.1):=by
 unfold Vl.get
 rw [if_neg h,if_neg h1,if_neg h2,if_neg h3]
end
theorem vget_any{w:World}{vp dp ix K:Nat}{vx:Value}{P:Nat→Prop}{d:Dk}{v:Vl}(h:VolAt w vp dp ix vx v)(hds:DS w dp P K d)(hn:NamesAt v.num v.gen)(hl:v.file.length≤maxLen)(key cookie:Nat)(hp:(v.find key cookie).2.len≤4096)(ho:(v.find key cookie).2.off≤1000000000) :
  Calls Tryz.prog 41 #[(.pointer (some ⟨vp,0,none⟩)),.int .u64 key,.int .u32 cookie] w (GotV w (v.get d key cookie)):=by
 have hlt:=h.lt
 have HFD:=Hd (fun (w0:World) (hb:Below w.heap.size w w0)=>vfind_any (h.below hb) key cookie)
 have HRW:=Hd (fun (w0:World) (hb:Below w.heap.size w w0)=>raw_any (h.below hb) (hds.below hb) hn hl (v.find key cookie).2 hp ho)
 have HFI:=Hd (fun (w0:World) (hb:Below w.heap.size w w0)=>file_any (h.below hb) hn)
 have E1:=Hd (@vg_find v d key cookie)
 have E2:=Hd (@vg_read v d key cookie)
 have E3:=Hd (@vg_nd v d key cookie)
 have E4:=Hd (@vg_form v d key cookie)
 have E5:=Hd (@vg_ok v d key cookie)
 obtain ⟨G,hG⟩:∃ G,G=v.get d key cookie:=⟨_,rfl⟩
 rw [←hG] at E1 E2 E3 E4 E5 ⊢
 obtain ⟨k1,hk1⟩:∃ k1,k1=(v.find key cookie).1:=⟨_,rfl⟩
 obtain ⟨p,hpp⟩:∃ p,p=(v.find key cookie).2:=⟨_,rfl⟩
 rw [←hpp] at E2 E3 E4 E5 HFD HRW hp ho
 rw [←hk1] at E1 E2 E3 E4 E5 HFD
 obtain ⟨F,hF⟩:∃ F,F=v.file:=⟨_,rfl⟩
 rw [←hF] at E2 E3 E4 E5 HRW HFI
 have hrl:(d.read F p.off (ndSize p.len)).2.length≤4128:=Nat.le_trans (read_len d F _ _) (ndSize_le hp).2
 obtain ⟨R,hR⟩:∃ R,R=d.read F p.off (ndSize p.len):=⟨_,rfl⟩
 rw [←hR] at E2 E3 E4 E5 HRW hrl
 obtain ⟨pk,po,pl,pc,pg⟩:=p
 unfold psV at HFD HRW
 simp only at HFD HRW E4 E5 hp ho
 clear h hds hn hl hG hk1 hpp hF hR
 go_enter Tryz.func41,Tryz.ntmps41
 go_wp2_with fail
 obtain ⟨w0,hw0⟩:∃ w0:World,w0=w.alloc (.cells #[.int .u64 0,.int .u32 0,.bool false,.slice none 0 0] 60):=⟨_,rfl⟩
 have HB0:=Hd (show Below w.heap.size w w0 by rw [hw0];exact belo)
 have KN0:=Hd (show w0.heap[w.heap.size]? = some (.cells #[.int .u64 0,.int .u32 0,.bool false,.slice none 0 0] 60 (0,0)) by rw [hw0];exact heap_new w _)
 rw [←hw0]
 clear hw0
 have hz0:=HB0.out.size
 refine (HFD.out _ HB0.out).mono ?_
 rintro e wa ⟨rfl,hb⟩
 have HBA:=Hd (HB0.out.trans (hb.mono hz0))
 have KNA:=Hd (blk_below' KN0.out hb)
 have hza:=HBA.out.size
 have hlta:=blk_lt KNA.out
 clear hb
 go_upto_region 2 with fail
 obtain ⟨w1,hw1⟩:∃ w1:World,w1=wa.alloc (.cells #[.int .u64 pk,.int .i64 po,.int .i64 pl,.int .u32 pc,.bool pg] 152):=⟨_,rfl⟩
 have hb1:Below wa.heap.size wa w1:=by rw [hw1];exact belo
 have HB1:=Hd (HBA.out.trans (hb1.mono hza))
 have KN1:=Hd (blk_below' KNA.out hb1)
 have KP1:=Hd (show w1.heap[wa.heap.size]? = some (.cells #[.int .u64 pk,.int .i64 po,.int .i64 pl,.int .u32 pc,.bool pg] 152 (0,0)) by rw [hw1];exact heap_new wa _)
 rw [←hw1]
 clear hw1 hb1
 obtain ⟨q0,q1,q2,q3⟩:=ncells KN1.out
 obtain ⟨f0,f1,f2,f3⟩:=nfree KN1.out
 have hlt1:=blk_lt KN1.out
 have hz1:=HB1.out.size
 by_cases hk:k1=0
 case neg=>
  have HE:=Hd (E1.out hk)
  have HNE:=Hd (errV_ne (k:=(k1:Int)) (by omega))
  rw [HNE.out]
  clear hk
  go_wp2
  obtain ⟨wf,hwf⟩:∃ wf,wf=set4 w1 w.heap.size (.int .u64 0) (.int .u32 0) (.bool false) (.slice none 0 0):=⟨_,rfl⟩
  have HBF:=Hd (show Below w.heap.size w wf by rw [hwf];exact HB1.out.trans (set4_below (Nat.le_refl _) _ _ _ _))
  have kbf:=store4 (KN1.out) (.int .u64 0) (.int .u32 0) (.bool false) (.slice none 0 0)
  rw [←hwf] at kbf
  obtain ⟨s0,s1,s2,s3⟩:=ncells kbf
  unfold set4 at hwf
  rw [←hwf]
  refine bodyPost_ret (v:=?_) ?_ rfl ?_
  rotate_left;(focus (simp [results,Tryz.results41,go_sem,s0,s1,s2,s3];exact rfl))
  refine ⟨.slice none 0 0,_,by rw [HE.out];exact rfl,?_,by rw [HE.out];exact World.ownsRow_nil _ _ _ _,HBF.out⟩
  rw [HE.out]
  exact ErrIn.plain (by rw [HNE.out])
 have hk':¬ k1≠0:=fun e=>e hk
 have HK1:=Hd hk'
 rw [hk,show errV ((0:Nat):Int)=.nilIface from rfl]
 clear hk hk'
 obtain ⟨t0,t1,t2,t3,t4⟩:=pcells KP1.out
 obtain ⟨k2,hk2⟩:∃ k2,k2=R.1:=⟨_,rfl⟩
 obtain ⟨b,hb2⟩:∃ b,b=R.2:=⟨_,rfl⟩
 rw [←hk2] at E2 E3 E4 E5 HRW
 rw [←hb2] at E3 E4 E5 HRW hrl
 clear hk2 hb2
 go_wp2_with fail
 refine (HRW.out _ HB1.out).mono ?_
 rintro e w2 ⟨vr,rfl,ho2,hb⟩
 obtain ⟨ar,cr,rfl,hcr⟩:=slice_of ho2
 have HO2:=Hd ho2
 have HB2:=Hd (HB1.out.trans (hb.mono hz1))
 have KN2:=Hd (blk_below' KN1.out hb)
 have KP2:=Hd (blk_below' KP1.out hb)
 clear hb ho2 q0 q1 q2 q3 f0 f1 f2 f3 t0 t1 t2 t3 t4
 obtain ⟨q0,q1,q2,q3⟩:=ncells KN2.out
 obtain ⟨f0,f1,f2,f3⟩:=nfree KN2.out
 have hlt2:=blk_lt KN2.out
 have HLT2:=Hd hlt2
 have hz2:=HB2.out.size
 by_cases hk:k2=0
 case neg=>
  have HE:=Hd (E2.out HK1.out hk)
  have HNE:=Hd (errV_ne (k:=(k2:Int)) (by omega))
  rw [HNE.out]
  clear hk
  go_wp2_with fail
  go_wp2
  obtain ⟨wf,hwf⟩:∃ wf,wf=set4 w2 w.heap.size (.int .u64 0) (.int .u32 0) (.bool false) (.slice none 0 0):=⟨_,rfl⟩
  have HBF:=Hd (show Below w.heap.size w wf by rw [hwf];exact HB2.out.trans (set4_below (Nat.le_refl _) _ _ _ _))
  have kbf:=store4 (KN2.out) (.int .u64 0) (.int .u32 0) (.bool false) (.slice none 0 0)
  rw [←hwf] at kbf
  obtain ⟨s0,s1,s2,s3⟩:=ncells kbf
  unfold set4 at hwf
  rw [←hwf]
  refine bodyPost_ret (v:=?_) ?_ rfl ?_
  rotate_left;(focus (simp [results,Tryz.results41,go_sem,s0,s1,s2,s3];exact rfl))
  refine ⟨.slice none 0 0,_,by rw [HE.out];exact rfl,?_,by rw [HE.out];exact World.ownsRow_nil _ _ _ _,HBF.out⟩
  rw [HE.out]
  exact ErrIn.plain (by rw [HNE.out])
 have hk':¬ k2≠0:=fun e=>e hk
 have HK2:=Hd hk'
 rw [hk,show errV ((0:Nat):Int)=.nilIface from rfl]
 clear hk hk'
 have HNG:=Hd (nget_any ar b.length cr b w2 (reads_of_owns HO2.out) rfl hcr (by omega))
 obtain ⟨k3,hk3⟩:∃ k3,k3=(ndGet b).1:=⟨_,rfl⟩
 obtain ⟨n3,hn3⟩:∃ n3,n3=(ndGet b).2.1:=⟨_,rfl⟩
 rw [←hk3] at E3 E4 E5
 rw [←hn3] at E4 E5
 unfold GotN at HNG
 rw [←hk3,←hn3] at HNG
 obtain ⟨z3,hz3⟩:∃ z3,z3=(ndGet b).2.2:=⟨_,rfl⟩
 rw [←hz3] at HNG
 obtain ⟨nk,nc,ng,nd⟩:=n3
 simp only at HNG
 clear hk3 hn3 hz3
 go_wp2_with fail
 refine HNG.out.mono ?_
 rintro e w3 ⟨vd,rfl,ho3,hb⟩
 obtain ⟨ad,cd,rfl,-⟩:=slice_of ho3
 have HO3:=Hd ho3
 have HB3:=Hd (HB2.out.trans (hb.mono hz2))
 have KN3:=Hd (blk_below' KN2.out hb)
 have KP3:=Hd (blk_below' KP2.out hb)
 have hz3:=HB3.out.size
 clear hb ho3 q0 q1 q2 q3 f0 f1 f2 f3
 go_upto_region 8 with fail
 obtain ⟨w4,hw4⟩:∃ w4:World,w4=w3.alloc (.cells #[.int .u64 nk,.int .u32 nc,.bool ng,.slice ad nd.length cd] 60):=⟨_,rfl⟩
 have hb4:Below w3.heap.size w3 w4:=by rw [hw4];exact belo
 have HB4:=Hd (HB3.out.trans (hb4.mono hz3))
 have HB34:=Hd hb4
 have KN4:=Hd (blk_below' KN3.out hb4)
 have KP4:=Hd (blk_below' KP3.out hb4)
 have KD4:=Hd (show w4.heap[w3.heap.size]? = some (.cells #[.int .u64 nk,.int .u32 nc,.bool ng,.slice ad nd.length cd] 60 (0,0)) by rw [hw4];exact heap_new w3 _)
 rw [←hw4]
 clear hw4 hb4
 have hz4:=HB4.out.size
 obtain ⟨q0,q1,q2,q3⟩:=ncells KN4.out
 obtain ⟨f0,f1,f2,f3⟩:=nfree KN4.out
 have hlt4:=blk_lt KN4.out
 obtain ⟨t0,t1,t2,t3,t4⟩:=pcells KP4.out
 have hltp:=blk_lt KP4.out
 obtain ⟨r0,r1,r2,r3⟩:=ncells KD4.out
 have hltd:=blk_lt KD4.out
 by_cases hk:k3=0
 case neg=>
  have HE:=Hd (E3.out HK1.out HK2.out hk)
  have HNE:=Hd (errV_ne (k:=(k3:Int)) (by omega))
  have HK3:=Hd hk
  rw [HNE.out]
  clear hk
  obtain ⟨SS,HSD⟩:∃ SS:World→Prop,Hid (SS=fun w'=>True):=⟨_,Hd rfl⟩
  refine wp_region_mask0 SS [4,5,8] [0,1,3,7,15,7,63,127,7,511,1023] (.op 0 0 (.op 1 0 (.op 2 0 (.op 3 0 (.op 4 2 (.op 5 2 (.op 6 0 (.op 8 2 (.op 7 1 (.op 9 0 (.op 10 0 .nil))))))))))) (by kernel_rfl) (by kernel_rfl) rfl (by kernel_rfl) (by kernel_rfl) ?_ ?_
  (focus (rw [HSD.out];trivial));(iterate 3 refine stepM0 rfl rfl fun K hK=>?_;go_simp;refine hK _ ?_;clear hK K);refine stepMy0 rfl rfl fun K hK=>?_;go_simp;refine hK _ ?_;clear hK K;refine stepMy2 rfl rfl fun K hK=>?_;go_simp;refine hK _ ?_;clear hK K;refine stepMy2 rfl rfl fun K hK=>?_;go_simp;refine hK _ ?_;clear hK K;refine stepMy0 rfl rfl fun K hK=>?_;go_simp;refine hK _ ?_;clear hK K;refine stepMy2 rfl rfl fun K hK=>?_;go_simp;refine hK _ ?_;clear hK K;refine stepMy1 rfl rfl fun K hK=>?_;go_simp;refine hK _ ?_;clear hK K;refine stepMy0 rfl rfl fun K hK=>?_;go_simp;refine hK _ ?_;clear hK K;refine stepM0 rfl rfl fun K hK=>?_;go_simp;refine hK _ ?_;clear hK K
  try refine stepMnil0 ?_
  clear HSD SS
  go_upto_region 11 with fail
  obtain ⟨w5,hw5⟩:∃ w5:World,w5=w4.drew:=⟨_,rfl⟩
  have HB5:=Hd (show Below w.heap.size w w5 by rw [hw5];exact Below.drew HB4.out)
  have KN5:=Hd (show w5.heap[w.heap.size]? = some (.cells #[.int .u64 0,.int .u32 0,.bool false,.slice none 0 0] 60 (0,0)) by rw [hw5];exact KN4.out)
  have KP5:=Hd (show w5.heap[wa.heap.size]? = some (.cells #[.int .u64 pk,.int .i64 po,.int .i64 pl,.int .u32 pc,.bool pg] 152 (0,0)) by rw [hw5];exact KP4.out)
  rw [←hw5]
  clear hw5
  clear q0 q1 q2 q3 f0 f1 f2 f3 t0 t1 t2 t3 t4 r0 r1 r2 r3
  obtain ⟨t0,t1,t2,t3,t4⟩:=pcells KP5.out
  obtain ⟨SS,HSD⟩:∃ SS:World→Prop,Hid (SS=fun w'=>w'.cell? ⟨wa.heap.size,1,none⟩=some (.int .i64 po)):=⟨_,Hd rfl⟩
  refine wp_region_mask0 SS [4] [0,0,2,0,8,0,62,126,254,7,1023] (.op 0 0 (.op 1 0 (.op 3 0 (.op 4 2 (.op 5 0 (.op 2 1 (.op 6 0 (.two 7 (.op 8 0 (.op 9 1 (.op 10 0 .nil))) 9 (.op 7 1 (.op 8 0 (.op 10 0 .nil))))))))))) (by kernel_rfl) (by kernel_rfl) rfl (by kernel_rfl) (by kernel_rfl) ?_ ?_
  (focus (rw [HSD.out];exact t1));(iterate 3 refine stepM0 rfl rfl fun K hK=>?_;go_simp;refine hK _ ?_;clear hK K);refine stepM2 rfl rfl ?_ (fun w1 hS=>?_) fun K hK=>?_;rotate_left;(focus (rw [HSD.out] at hS;have s1:=hS;go_simp;rfl));go_simp;refine hK _ ?_;clear hK K;refine stepM0 rfl rfl fun K hK=>?_;go_simp;refine hK _ ?_;clear hK K;refine stepM1S rfl rfl fun K hK=>?_
  (go_wp2_with fail;refine (HFI.out w5.drew (Below.drew HB5.out)).mono ?_;rintro e w6 ⟨rfl,hb⟩;have HB6:=Hd ((Below.drew HB5.out).trans (hb.mono HB5.out.size));have KN6:=Hd (blk_below' (w:=w5.drew) KN5.out hb);have KP6:=Hd (blk_below' (w:=w5.drew) KP5.out hb);clear hb t0 t1 t2 t3 t4;have hz6:=HB6.out.size;have hlt6:=blk_lt KN6.out;have hltp6:=blk_lt KP6.out;obtain ⟨f0,f1,f2,f3⟩:=nfree KN6.out;obtain ⟨q0,q1,q2,q3⟩:=ncells KN6.out;obtain ⟨t0,t1,t2,t3,t4⟩:=pcells KP6.out;have hk9:=(Keeps.cell (set4_keeps w6 w.heap.size (.int .u64 0) (.int .u32 0) (.bool false) (.slice none 0 0)) hltp6 (show ¬ wa.heap.size=w.heap.size by omega) 1).trans t1;have hlt9:wa.heap.size<(set4 w6 w.heap.size (.int .u64 0) (.int .u32 0) (.bool false) (.slice none 0 0)).heap.size:=Nat.lt_of_lt_of_le hltp6 (set4_keeps w6 _ _ _ _ _).size;go_wp2)
  refine ⟨by rw [HSD.out];exact (t1),?_⟩
  refine stepM0 rfl rfl fun K hK=>?_;go_simp;refine hK _ ?_;clear hK K
  refine stepMtwo ?_ ?_ (by kernel_rfl) (by kernel_rfl)
  ·
   refine stepM1 rfl rfl (by kernel_rfl) fun K hK=>?_;go_wp2;refine stepM0 rfl rfl fun K hK=>?_;go_simp;refine hK _ ?_;clear hK K;refine stepM1S rfl rfl fun K hK=>?_;go_wp2
   refine ⟨by rw [HSD.out];exact (((bcell (Below.alloc (Below.refl _ _) (Nat.le_refl _) _)).1 _ _ hlt9).trans hk9),?_⟩
   refine stepM0 rfl rfl fun K hK=>?_;go_simp;refine hK _ ?_;clear hK K
   try refine stepMnil0 ?_
   clear HSD SS
   go_wp2
   obtain ⟨wf,hwf⟩:∃ wf,wf=(set4 w6 w.heap.size (.int .u64 0) (.int .u32 0) (.bool false) (.slice none 0 0)).alloc (.cells #[.string ⟨F.toArray⟩,.int .i64 po,.iface 99 (.int .i64 k3)] 147):=⟨_,rfl⟩
   have hst:=store4 (KN6.out) (.int .u64 0) (.int .u32 0) (.bool false) (.slice none 0 0)
   have hb9:=set4_below (w:=w6) (Nat.le_refl w.heap.size) (.int .u64 0) (.int .u32 0) (.bool false) (.slice none 0 0)
   have HBF:=Hd (show Below w.heap.size w wf by rw [hwf];exact (HB6.out.trans hb9).alloc (Nat.le_trans hz6 hb9.size) _)
   have kbf:=alloc_blk hst (.cells #[.string ⟨F.toArray⟩,.int .i64 po,.iface 99 (.int .i64 k3)] 147)
   have HAT:=Hd (show wf.heap[w6.heap.size]? = some (.cells #[.string ⟨F.toArray⟩,.int .i64 po,.iface 99 (.int .i64 k3)] 147 (0,0)) by rw [hwf];have:=heap_new (set4 w6 w.heap.size (.int .u64 0) (.int .u32 0) (.bool false) (.slice none 0 0)) (.cells #[.string ⟨F.toArray⟩,.int .i64 po,.iface 99 (.int .i64 k3)] 147);rwa [set4_size] at this)
   rw [←hwf] at kbf
   obtain ⟨s0,s1,s2,s3⟩:=ncells kbf
   unfold set4 at hwf
   rw [←hwf]
   clear hst hb9
   refine bodyPost_ret (v:=?_) ?_ rfl ?_
   rotate_left;(focus (simp [results,Tryz.results41,go_sem,s0,s1,s2,s3];exact rfl))
   refine ⟨.slice none 0 0,_,by rw [HE.out];exact rfl,?_,by rw [HE.out];exact World.ownsRow_nil _ _ _ _,HBF.out⟩
   rw [HE.out]
   exact .inr ⟨rfl,HK3.out,w6.heap.size,⟨F.toArray⟩,po,rfl,by rw [HNE.out];exact HAT.out⟩
  ·
   refine stepM1S rfl rfl fun K hK=>?_;go_wp2
   refine ⟨by rw [HSD.out];exact (hk9),?_⟩
   refine stepM1 rfl rfl (by kernel_rfl) fun K hK=>?_;go_wp2;(iterate 2 refine stepM0 rfl rfl fun K hK=>?_;go_simp;refine hK _ ?_;clear hK K)
   try refine stepMnil0 ?_
   clear HSD SS
   go_wp2
   obtain ⟨wf,hwf⟩:∃ wf,wf=(set4 w6 w.heap.size (.int .u64 0) (.int .u32 0) (.bool false) (.slice none 0 0)).alloc (.cells #[.string ⟨F.toArray⟩,.int .i64 po,.iface 99 (.int .i64 k3)] 147):=⟨_,rfl⟩
   have hst:=store4 (KN6.out) (.int .u64 0) (.int .u32 0) (.bool false) (.slice none 0 0)
   have hb9:=set4_below (w:=w6) (Nat.le_refl w.heap.size) (.int .u64 0) (.int .u32 0) (.bool false) (.slice none 0 0)
   have HBF:=Hd (show Below w.heap.size w wf by rw [hwf];exact (HB6.out.trans hb9).alloc (Nat.le_trans hz6 hb9.size) _)
   have kbf:=alloc_blk hst (.cells #[.string ⟨F.toArray⟩,.int .i64 po,.iface 99 (.int .i64 k3)] 147)
   have HAT:=Hd (show wf.heap[w6.heap.size]? = some (.cells #[.string ⟨F.toArray⟩,.int .i64 po,.iface 99 (.int .i64 k3)] 147 (0,0)) by rw [hwf];have:=heap_new (set4 w6 w.heap.size (.int .u64 0) (.int .u32 0) (.bool false) (.slice none 0 0)) (.cells #[.string ⟨F.toArray⟩,.int .i64 po,.iface 99 (.int .i64 k3)] 147);rwa [set4_size] at this)
   rw [←hwf] at kbf
   obtain ⟨s0,s1,s2,s3⟩:=ncells kbf
   unfold set4 at hwf
   rw [←hwf]
   clear hst hb9
   refine bodyPost_ret (v:=?_) ?_ rfl ?_
   rotate_left;(focus (simp [results,Tryz.results41,go_sem,s0,s1,s2,s3];exact rfl))
   refine ⟨.slice none 0 0,_,by rw [HE.out];exact rfl,?_,by rw [HE.out];exact World.ownsRow_nil _ _ _ _,HBF.out⟩
   rw [HE.out]
   exact .inr ⟨rfl,HK3.out,w6.heap.size,⟨F.toArray⟩,po,rfl,by rw [HNE.out];exact HAT.out⟩
 have hk':¬ k3≠0:=fun e=>e hk
 have HK3:=Hd hk'
 rw [hk,show errV ((0:Nat):Int)=.nilIface from rfl]
 clear hk hk'
 have HFO:=Hd (fun w0:World=>found_any (po:Int) ⟨nk,nc,ng,nd⟩ ad cd w0)
 simp only at HFO
 obtain ⟨nl,hnl⟩:∃ nl,nl=nd.length:=⟨_,rfl⟩
 have HNL:=Hd hnl
 rw [←hnl] at HFO r3 KD4 ⊢
 clear hnl
 by_cases hq:nk=pk∧nl=pl∧nc=pc∧ng=pg
 case neg=>
  have HE:=Hd (E4.out HK1.out HK2.out HK3.out (by
   unfold posOf
   intro e
   injection e with e1 e2 e3 e4 e5
   exact hq ⟨e1,by rw [HNL.out];exact e3,e4,e5⟩))
  have hcmp:∀ w1:World,(if (nk:Int)=(pk:Int) then if (nl:Int)=(pl:Int) then if (nc:Int)=(pc:Int) then if ng=pg then Result.ok (Next.value (Value.bool false)) w1 else Result.ok (Next.value (Value.bool true)) w1 else Result.ok (Next.value (Value.bool true)) w1 else Result.ok (Next.value (Value.bool true)) w1 else Result.ok (Next.value (Value.bool true)) w1)=Result.ok (Next.value (Value.bool true)) w1:=by
   intro w1
   by_cases h1:(nk:Int)=(pk:Int)
   ·by_cases h2:(nl:Int)=(pl:Int)
    ·by_cases h3:(nc:Int)=(pc:Int)
     ·by_cases h4:ng=pg
      ·exact absurd ⟨by omega,by omega,by omega,h4⟩ hq
      ·rw [if_pos h1,if_pos h2,if_pos h3,if_neg h4]
     ·rw [if_pos h1,if_pos h2,if_neg h3]
    ·rw [if_pos h1,if_neg h2]
   ·rw [if_neg h1]
  clear hq
  obtain ⟨SS,HSD⟩:∃ SS:World→Prop,Hid (SS=fun w'=>w'.heap[wa.heap.size]? = some (.cells #[.int .u64 pk,.int .i64 po,.int .i64 pl,.int .u32 pc,.bool pg] 152 (0,0))∧w'.heap[w3.heap.size]? = some (.cells #[.int .u64 nk,.int .u32 nc,.bool ng,.slice ad nl cd] 60 (0,0))):=⟨_,Hd rfl⟩
  refine wp_region_mask0 SS [4,5,8] [0,1,3,7,15,7,63,127,7,511,1023] (.op 0 0 (.op 1 0 (.op 2 0 (.op 3 0 (.op 4 2 (.op 5 2 (.op 6 0 (.op 8 2 (.op 7 1 (.op 9 0 (.op 10 0 .nil))))))))))) (by kernel_rfl) (by kernel_rfl) rfl (by kernel_rfl) (by kernel_rfl) ?_ ?_
  (focus (rw [HSD.out];exact ⟨KP4.out,KD4.out⟩));(iterate 4 refine stepM0 rfl rfl fun K hK=>?_;go_simp;refine hK _ ?_;clear hK K);refine stepM2 rfl rfl ?_ (fun w1 hS=>?_) fun K hK=>?_;rotate_left;(focus (rw [HSD.out] at hS;obtain ⟨s1,s2⟩:=hS;obtain ⟨x0,x1,x2,x3,x4⟩:=pcells s1;obtain ⟨y0,y1,y2,y3⟩:=ncells s2;go_simp;rfl));go_simp;refine hK _ ?_;clear hK K;refine stepM2 rfl rfl ?_ (fun w1 hS=>?_) fun K hK=>?_;rotate_left;(focus (rw [HSD.out] at hS;obtain ⟨s1,s2⟩:=hS;obtain ⟨x0,x1,x2,x3,x4⟩:=pcells s1;obtain ⟨y0,y1,y2,y3⟩:=ncells s2;go_simp;rfl));go_simp;refine hK _ ?_;clear hK K;refine stepM0 rfl rfl fun K hK=>?_;go_simp;refine hK _ ?_;clear hK K;refine stepM2 rfl rfl ?_ (fun w1 hS=>?_) fun K hK=>?_;rotate_left;(focus (rw [HSD.out] at hS;obtain ⟨s1,s2⟩:=hS;obtain ⟨x0,x1,x2,x3,x4⟩:=pcells s1;obtain ⟨y0,y1,y2,y3⟩:=ncells s2;go_simp;rfl));go_simp;refine hK _ ?_;clear hK K;refine stepM1S rfl rfl fun K hK=>?_
  (go_wp2_with fail;refine (HFO.out _).mono ?_;rintro e w5 ⟨rfl,hb⟩;have HB5:=Hd ((Below.drew HB4.out).trans (hb.mono HB4.out.size));have KN5:=Hd (blk_below' (w:=w4.drew) KN4.out hb);have KP5:=Hd (blk_below' (w:=w4.drew) KP4.out hb);have KD5:=Hd (blk_below' (w:=w4.drew) KD4.out hb);have HB35:=Hd (show Below w3.heap.size w3 w5 from (HB34.out.trans (Below.drew (Below.refl _ _))).trans (hb.mono HB34.out.size));clear hb;go_wp2)
  refine ⟨by rw [HSD.out];exact (⟨KP5.out,KD5.out⟩),?_⟩
  (iterate 2 refine stepM0 rfl rfl fun K hK=>?_;go_simp;refine hK _ ?_;clear hK K)
  try refine stepMnil0 ?_
  clear HSD SS
  go_upto_region 11 with fail
  clear q0 q1 q2 q3 f0 f1 f2 f3 t0 t1 t2 t3 t4 r0 r1 r2 r3
  obtain ⟨t0,t1,t2,t3,t4⟩:=pcells KP5.out
  obtain ⟨SS,HSD⟩:∃ SS:World→Prop,Hid (SS=fun w'=>w'.cell? ⟨wa.heap.size,1,none⟩=some (.int .i64 po)):=⟨_,Hd rfl⟩
  refine wp_region_mask0 SS [4] [0,0,2,0,8,0,62,126,254,7,1023] (.op 0 0 (.op 1 0 (.op 3 0 (.op 4 2 (.op 5 0 (.op 2 1 (.op 6 0 (.two 7 (.op 8 0 (.op 9 1 (.op 10 0 .nil))) 9 (.op 7 1 (.op 8 0 (.op 10 0 .nil))))))))))) (by kernel_rfl) (by kernel_rfl) rfl (by kernel_rfl) (by kernel_rfl) ?_ ?_
  (focus (rw [HSD.out];exact t1));(iterate 3 refine stepM0 rfl rfl fun K hK=>?_;go_simp;refine hK _ ?_;clear hK K);refine stepM2 rfl rfl ?_ (fun w1 hS=>?_) fun K hK=>?_;rotate_left;(focus (rw [HSD.out] at hS;have s1:=hS;go_simp;rfl));go_simp;refine hK _ ?_;clear hK K;refine stepM0 rfl rfl fun K hK=>?_;go_simp;refine hK _ ?_;clear hK K;refine stepM1S rfl rfl fun K hK=>?_
  (go_wp2_with fail;refine (HFI.out w5.drew (Below.drew HB5.out)).mono ?_;rintro e w6 ⟨rfl,hb⟩;have HB6:=Hd ((Below.drew HB5.out).trans (hb.mono HB5.out.size));have KN6:=Hd (blk_below' (w:=w5.drew) KN5.out hb);have KP6:=Hd (blk_below' (w:=w5.drew) KP5.out hb);clear hb t0 t1 t2 t3 t4;have hz6:=HB6.out.size;have hlt6:=blk_lt KN6.out;have hltp6:=blk_lt KP6.out;obtain ⟨f0,f1,f2,f3⟩:=nfree KN6.out;obtain ⟨q0,q1,q2,q3⟩:=ncells KN6.out;obtain ⟨t0,t1,t2,t3,t4⟩:=pcells KP6.out;have hk9:=(Keeps.cell (set4_keeps w6 w.heap.size (.int .u64 0) (.int .u32 0) (.bool false) (.slice none 0 0)) hltp6 (show ¬ wa.heap.size=w.heap.size by omega) 1).trans t1;have hlt9:wa.heap.size<(set4 w6 w.heap.size (.int .u64 0) (.int .u32 0) (.bool false) (.slice none 0 0)).heap.size:=Nat.lt_of_lt_of_le hltp6 (set4_keeps w6 _ _ _ _ _).size;go_wp2)
  refine ⟨by rw [HSD.out];exact (t1),?_⟩
  refine stepM0 rfl rfl fun K hK=>?_;go_simp;refine hK _ ?_;clear hK K
  refine stepMtwo ?_ ?_ (by kernel_rfl) (by kernel_rfl)
  ·
   refine stepM1 rfl rfl (by kernel_rfl) fun K hK=>?_;go_wp2;refine stepM0 rfl rfl fun K hK=>?_;go_simp;refine hK _ ?_;clear hK K;refine stepM1S rfl rfl fun K hK=>?_;go_wp2
   refine ⟨by rw [HSD.out];exact (((bcell (Below.alloc (Below.refl _ _) (Nat.le_refl _) _)).1 _ _ hlt9).trans hk9),?_⟩
   refine stepM0 rfl rfl fun K hK=>?_;go_simp;refine hK _ ?_;clear hK K
   try refine stepMnil0 ?_
   clear HSD SS
   go_wp2
   obtain ⟨wf,hwf⟩:∃ wf,wf=(set4 w6 w.heap.size (.int .u64 0) (.int .u32 0) (.bool false) (.slice none 0 0)).alloc (.cells #[.string ⟨F.toArray⟩,.int .i64 po,.iface 99 (.int .i64 4)] 147):=⟨_,rfl⟩
   have hst:=store4 (KN6.out) (.int .u64 0) (.int .u32 0) (.bool false) (.slice none 0 0)
   have hb9:=set4_below (w:=w6) (Nat.le_refl w.heap.size) (.int .u64 0) (.int .u32 0) (.bool false) (.slice none 0 0)
   have HBF:=Hd (show Below w.heap.size w wf by rw [hwf];exact (HB6.out.trans hb9).alloc (Nat.le_trans hz6 hb9.size) _)
   have kbf:=alloc_blk hst (.cells #[.string ⟨F.toArray⟩,.int .i64 po,.iface 99 (.int .i64 4)] 147)
   have HAT:=Hd (show wf.heap[w6.heap.size]? = some (.cells #[.string ⟨F.toArray⟩,.int .i64 po,.iface 99 (.int .i64 4)] 147 (0,0)) by rw [hwf];have:=heap_new (set4 w6 w.heap.size (.int .u64 0) (.int .u32 0) (.bool false) (.slice none 0 0)) (.cells #[.string ⟨F.toArray⟩,.int .i64 po,.iface 99 (.int .i64 4)] 147);rwa [set4_size] at this)
   rw [←hwf] at kbf
   obtain ⟨s0,s1,s2,s3⟩:=ncells kbf
   unfold set4 at hwf
   rw [←hwf]
   clear hst hb9
   refine bodyPost_ret (v:=?_) ?_ rfl ?_
   rotate_left;(focus (simp [results,Tryz.results41,go_sem,s0,s1,s2,s3];exact rfl))
   refine ⟨.slice none 0 0,_,by rw [HE.out];exact rfl,?_,by rw [HE.out];exact World.ownsRow_nil _ _ _ _,HBF.out⟩
   rw [HE.out]
   exact .inr ⟨rfl,by simp,w6.heap.size,⟨F.toArray⟩,po,rfl,by exact HAT.out⟩
  ·
   refine stepM1S rfl rfl fun K hK=>?_;go_wp2
   refine ⟨by rw [HSD.out];exact (hk9),?_⟩
   refine stepM1 rfl rfl (by kernel_rfl) fun K hK=>?_;go_wp2;(iterate 2 refine stepM0 rfl rfl fun K hK=>?_;go_simp;refine hK _ ?_;clear hK K)
   try refine stepMnil0 ?_
   clear HSD SS
   go_wp2
   obtain ⟨wf,hwf⟩:∃ wf,wf=(set4 w6 w.heap.size (.int .u64 0) (.int .u32 0) (.bool false) (.slice none 0 0)).alloc (.cells #[.string ⟨F.toArray⟩,.int .i64 po,.iface 99 (.int .i64 4)] 147):=⟨_,rfl⟩
   have hst:=store4 (KN6.out) (.int .u64 0) (.int .u32 0) (.bool false) (.slice none 0 0)
   have hb9:=set4_below (w:=w6) (Nat.le_refl w.heap.size) (.int .u64 0) (.int .u32 0) (.bool false) (.slice none 0 0)
   have HBF:=Hd (show Below w.heap.size w wf by rw [hwf];exact (HB6.out.trans hb9).alloc (Nat.le_trans hz6 hb9.size) _)
   have kbf:=alloc_blk hst (.cells #[.string ⟨F.toArray⟩,.int .i64 po,.iface 99 (.int .i64 4)] 147)
   have HAT:=Hd (show wf.heap[w6.heap.size]? = some (.cells #[.string ⟨F.toArray⟩,.int .i64 po,.iface 99 (.int .i64 4)] 147 (0,0)) by rw [hwf];have:=heap_new (set4 w6 w.heap.size (.int .u64 0) (.int .u32 0) (.bool false) (.slice none 0 0)) (.cells #[.string ⟨F.toArray⟩,.int .i64 po,.iface 99 (.int .i64 4)] 147);rwa [set4_size] at this)
   rw [←hwf] at kbf
   obtain ⟨s0,s1,s2,s3⟩:=ncells kbf
   unfold set4 at hwf
   rw [←hwf]
   clear hst hb9
   refine bodyPost_ret (v:=?_) ?_ rfl ?_
   rotate_left;(focus (simp [results,Tryz.results41,go_sem,s0,s1,s2,s3];exact rfl))
   refine ⟨.slice none 0 0,_,by rw [HE.out];exact rfl,?_,by rw [HE.out];exact World.ownsRow_nil _ _ _ _,HBF.out⟩
   rw [HE.out]
   exact .inr ⟨rfl,by simp,w6.heap.size,⟨F.toArray⟩,po,rfl,by exact HAT.out⟩
 obtain ⟨rfl,rfl,rfl,rfl⟩:=hq
 have HE:=Hd (E5.out HK1.out HK2.out HK3.out (by
  unfold posOf
  intro e
  exact e (by rw [←HNL.out])))
 obtain ⟨SS,HSD⟩:∃ SS:World→Prop,Hid (SS=fun w'=>w'.heap[wa.heap.size]? = some (.cells #[.int .u64 nk,.int .i64 po,.int .i64 nl,.int .u32 nc,.bool ng] 152 (0,0))∧w'.heap[w3.heap.size]? = some (.cells #[.int .u64 nk,.int .u32 nc,.bool ng,.slice ad nl cd] 60 (0,0))):=⟨_,Hd rfl⟩
 refine wp_region_mask0 SS [4,5,8] [0,1,3,7,15,7,63,127,7,511,1023] (.op 0 0 (.op 1 0 (.op 2 0 (.op 3 0 (.op 4 2 (.op 5 2 (.op 6 0 (.op 8 2 (.op 7 1 (.op 9 0 (.op 10 0 .nil))))))))))) (by kernel_rfl) (by kernel_rfl) rfl (by kernel_rfl) (by kernel_rfl) ?_ ?_
 (focus (rw [HSD.out];exact ⟨KP4.out,KD4.out⟩));(iterate 4 refine stepM0 rfl rfl fun K hK=>?_;go_simp;refine hK _ ?_;clear hK K);refine stepM2 rfl rfl ?_ (fun w1 hS=>?_) fun K hK=>?_;rotate_left;(focus (rw [HSD.out] at hS;obtain ⟨s1,s2⟩:=hS;obtain ⟨x0,x1,x2,x3,x4⟩:=pcells s1;obtain ⟨y0,y1,y2,y3⟩:=ncells s2;go_simp;rfl));go_simp;refine hK _ ?_;clear hK K;refine stepM2 rfl rfl ?_ (fun w1 hS=>?_) fun K hK=>?_;rotate_left;(focus (rw [HSD.out] at hS;obtain ⟨s1,s2⟩:=hS;obtain ⟨x0,x1,x2,x3,x4⟩:=pcells s1;obtain ⟨y0,y1,y2,y3⟩:=ncells s2;go_simp;rfl));go_simp;refine hK _ ?_;clear hK K;refine stepM0 rfl rfl fun K hK=>?_;go_simp;refine hK _ ?_;clear hK K;refine stepM2 rfl rfl ?_ (fun w1 hS=>?_) fun K hK=>?_;rotate_left;(focus (rw [HSD.out] at hS;obtain ⟨s1,s2⟩:=hS;obtain ⟨x0,x1,x2,x3,x4⟩:=pcells s1;obtain ⟨y0,y1,y2,y3⟩:=ncells s2;go_simp;rfl));go_simp;refine hK _ ?_;clear hK K;refine stepM1S rfl rfl fun K hK=>?_
 (go_wp2_with fail;refine (HFO.out _).mono ?_;rintro e w5 ⟨rfl,hb⟩;have HB5:=Hd ((Below.drew HB4.out).trans (hb.mono HB4.out.size));have KN5:=Hd (blk_below' (w:=w4.drew) KN4.out hb);have KP5:=Hd (blk_below' (w:=w4.drew) KP4.out hb);have KD5:=Hd (blk_below' (w:=w4.drew) KD4.out hb);have HB35:=Hd (show Below w3.heap.size w3 w5 from (HB34.out.trans (Below.drew (Below.refl _ _))).trans (hb.mono HB34.out.size));clear hb;go_wp2)
 refine ⟨by rw [HSD.out];exact (⟨KP5.out,KD5.out⟩),?_⟩
 (iterate 2 refine stepM0 rfl rfl fun K hK=>?_;go_simp;refine hK _ ?_;clear hK K)
 try refine stepMnil0 ?_
 clear HSD SS
 obtain ⟨t0,t1,t2,t3,t4⟩:=pcells KP5.out
 clear q0 q1 q2 q3 f0 f1 f2 f3 r0 r1 r2 r3
 obtain ⟨q0,q1,q2,q3⟩:=ncells KN5.out
 obtain ⟨f0,f1,f2,f3⟩:=nfree KN5.out
 obtain ⟨r0,r1,r2,r3⟩:=ncells KD5.out
 have hlt5:=blk_lt KN5.out
 have hltd5:=blk_lt KD5.out
 go_wp2
 obtain ⟨wf,hwf⟩:∃ wf,wf=set4 w5 w.heap.size (.int .u64 nk) (.int .u32 nc) (.bool ng) (.slice ad nl cd):=⟨_,rfl⟩
 have HBF:=Hd (show Below w.heap.size w wf by rw [hwf];exact HB5.out.trans (set4_below (Nat.le_refl _) _ _ _ _))
 have kbf:=store4 (KN5.out) (.int .u64 nk) (.int .u32 nc) (.bool ng) (.slice ad nl cd)
 rw [←hwf] at kbf
 obtain ⟨s0,s1,s2,s3⟩:=ncells kbf
 have HOF:=Hd (show wf.ownsRow w.heap.size 5 1 (.slice ad nd.length cd) nd.length (nd.map bv) by
  have h3:=HO3.out
  have hz2':=hz2
  rw [hwf]
  have h5:w5.ownsRow w2.heap.size 5 1 (.slice ad nd.length cd) nd.length (nd.map bv):=ownsRow_at h3 (fun k hk=>HB35.out.block k (h3.lt k hk).2)
  exact ownsRow_mono (ownsRow_keeps h5 (set4_keeps w5 _ _ _ _ _) (fun k hk e=>by have:=h5.lt k hk;have:=HLT2.out;omega)) hz2)
 unfold set4 at hwf
 rw [←hwf]
 refine bodyPost_ret (v:=?_) ?_ rfl ?_
 rotate_left;(focus (simp [results,Tryz.results41,go_sem,s0,s1,s2,s3];exact rfl))
 rw [HE.out]
 refine ⟨.slice ad nl cd,.nilIface,rfl,ErrIn.plain rfl,?_,HBF.out⟩
 show wf.ownsRow w.heap.size 5 1 (.slice ad nl cd) nd.length (nd.map bv)
 have:=HOF.out
 rwa [←HNL.out] at this ⊢
def set14 (w:World) (b:Nat) (u1 u2 u3 u4:Value):World:=(((w.setCell ⟨b,1,none⟩ u1).setCell ⟨b,2,none⟩ u2).setCell ⟨b,3,none⟩ u3).setCell ⟨b,4,none⟩ u4
theorem set14_keeps(w:World)(b:Nat)(u1 u2 u3 u4:Value):Keeps (fun k=>k=b) w (set14 w b u1 u2 u3 u4):=by
 unfold set14
 exact ((((Keeps.refl (fun k=>k=b) w).setCell ⟨b,1,none⟩ u1 (fun _=>rfl)).setCell ⟨b,2,none⟩ u2 (fun _=>rfl)).setCell ⟨b,3,none⟩ u3 (fun _=>rfl)).setCell ⟨b,4,none⟩ u4 (fun _=>rfl)
theorem store14{w:World}{b:Nat}{v0 v1 v2 v3 v4 v5 v6 v7:Value}{t:TypeId}(h:w.heap[b]? = some (.cells #[v0,v1,v2,v3,v4,v5,v6,v7] t (0,0)))(u1 u2 u3 u4:Value):(set14 w b u1 u2 u3 u4).heap[b]? = some (.cells #[v0,u1,u2,u3,u4,v5,v6,v7] t (0,0)):=by
 have h1:(w.setCell ⟨b,1,none⟩ u1).heap[b]? = some (.cells #[v0,u1,v2,v3,v4,v5,v6,v7] t (0,0)):=by simpa using heap_setCell_same w b 1 _ t u1 h
 have h2:((w.setCell ⟨b,1,none⟩ u1).setCell ⟨b,2,none⟩ u2).heap[b]? = some (.cells #[v0,u1,u2,v3,v4,v5,v6,v7] t (0,0)):=by simpa using heap_setCell_same _ b 2 _ t u2 h1
 have h3:(((w.setCell ⟨b,1,none⟩ u1).setCell ⟨b,2,none⟩ u2).setCell ⟨b,3,none⟩ u3).heap[b]? = some (.cells #[v0,u1,u2,u3,v4,v5,v6,v7] t (0,0)):=by simpa using heap_setCell_same _ b 3 _ t u3 h2
 simpa [set14] using heap_setCell_same _ b 4 _ t u4 h3
theorem vfree{w:World}{b:Nat}{v0 v1 v2 v3 v4 v5 v6 v7:Value}{t:TypeId}(h:w.heap[b]? = some (.cells #[v0,v1,v2,v3,v4,v5,v6,v7] t (0,0))):w.frozen? ⟨b,1,none⟩=false∧w.frozen? ⟨b,2,none⟩=false∧w.frozen? ⟨b,3,none⟩=false∧w.frozen? ⟨b,4,none⟩=false:=
 ⟨frozen_of_row w b 1 _ _ h,frozen_of_row w b 2 _ _ h,frozen_of_row w b 3 _ _ h,frozen_of_row w b 4 _ _ h⟩
theorem set_vs{w:World}{vp dp K:Nat}{P:Nat→Prop}{d:Dk}{v:Vl}(h:VS w vp dp P K d v)(hP:∀ k,P k→k<w.heap.size)(hK:K+4<1099511627776)(e:Int)(s:Bool) :
  Calls Tryz.prog 65 #[(.pointer (some ⟨vp,0,none⟩)),.int .i64 e,.bool s] w fun r w'=>r=.returned (errV (v.set d e s).1)∧VTo w w' vp dp P (K+4) (v.set d e s).2.1 (v.set d e s).2.2:=by
 have HH:=Hd h
 have HSA:=Hd (show ∀ w',Below w.heap.size w w'→VTo w w' vp dp P (K+4) d v from fun w' hb=>⟨(h.below hb).more (by omega),KP.of hb⟩)
 obtain ⟨ix,vx,hv,hds,hF,hok⟩:=h
 obtain ⟨c0,c1,c2,c3,c4,c5,c6,c7⟩:=hv.cells
 have hlt:=hv.lt
 have HPP:=Hd hP
 have HV:=Hd hv
 have HDS:=Hd hds
 have HFT:=Hd hF
 have HOK:=Hd hok
 clear hv hds hF hok hP
 by_cases h0:e<0
 ·have HE:=Hd (show v.set d e s=(1,d,v) from if_pos (.inl h0))
  have d0:decide (e<0)=true:=by simpa using h0
  go_enter Tryz.func65,Tryz.ntmps65
  go_wp2_with fail
  go_ret
  rw [HE.out]
  exact ⟨rfl,HSA.out _ belo⟩
 have d0:decide (e<0)=false:=by simpa using h0
 by_cases h1:2147483647<e
 ·have HE:=Hd (show v.set d e s=(1,d,v) from if_pos (.inr h1))
  have d1:decide (2147483647<e)=true:=by simpa using h1
  go_enter Tryz.func65,Tryz.ntmps65
  go_wp2_with fail
  go_ret
  rw [HE.out]
  exact ⟨rfl,HSA.out _ belo⟩
 have d1:decide (2147483647<e)=false:=by simpa using h1
 by_cases h2:e<v.epoch
 ·have HE:=Hd (show v.set d e s=(13,d,v) by unfold Vl.set;rw [if_neg (by omega),if_pos h2])
  have d2:decide (e<(v.epoch:Int))=true:=by simpa using h2
  go_enter Tryz.func65,Tryz.ntmps65
  go_wp2_with fail
  go_ret
  rw [HE.out]
  exact ⟨rfl,HSA.out _ belo⟩
 have d2:decide (e<(v.epoch:Int))=false:=by simpa using h2
 have HE:=Hd (show v.set d e s=if (d.lay v.num v.gen e.toNat s).1≠0 then ((d.lay v.num v.gen e.toNat s).1,(d.lay v.num v.gen e.toNat s).2,v) else (0,(d.lay v.num v.gen e.toNat s).2,{ v with epoch:=e.toNat,shut:=s }) by
  unfold Vl.set
  rw [if_neg (by omega),if_neg h2])
 obtain ⟨n,hn⟩:∃ n:Nat,e=n:=⟨e.toNat,by omega⟩
 subst hn
 rw [show ((n:Int)).toNat=n from rfl] at HE
 obtain ⟨L,hL⟩:∃ L,L=d.lay v.num v.gen n s:=⟨_,rfl⟩
 rw [←hL] at HE
 have hri:rightV v.num v.gen n=true:=by
  have:=HOK.out.right
  simp only [rightV,Bool.and_eq_true,decide_eq_true_eq] at this ⊢
  omega
 have HLAY:=Hd (show ∀ (R:Nat→Prop) (w0:World),DS w0 dp R K d→(∀ k,R k→k<w0.heap.size)→Calls Tryz.prog 47 #[(.pointer (some ⟨dp,0,none⟩)),.agg #[.int .i64 v.num,.int .i64 v.gen,.int .i64 n,.bool s]] w0 fun r w'=>r=.returned (errV L.1)∧DTo w0 w' dp R (K+4) L.2 from fun R w0 h1 h2=>by rw [hL];exact lay_ds h1 h2 (by omega) v.num v.gen n s HOK.out.names hri HOK.out.long.2.1 HOK.out.long.2.2)
 clear hL hri
 go_enter Tryz.func65,Tryz.ntmps65
 go_upto_region 9 with fail
 obtain ⟨w0,hw0⟩:∃ w0:World,w0=w.alloc (.cells #[.int .i64 v.num,.int .i64 v.gen,.int .i64 n,.bool s] 113):=⟨_,rfl⟩
 have HB0:=Hd (show Below w.heap.size w w0 by rw [hw0];exact belo)
 have KB0:=Hd (show w0.heap[w.heap.size]? = some (.cells #[.int .i64 v.num,.int .i64 v.gen,.int .i64 n,.bool s] 113 (0,0)) by rw [hw0];exact heap_new w _)
 rw [←hw0]
 clear hw0
 have hz0:=HB0.out.size
 have hl0:=blk_lt KB0.out
 obtain ⟨g0,g1,g2,g3⟩:=ncells KB0.out
 have e0:=((bcell HB0.out).1 vp 0 hlt).trans c0
 obtain ⟨R,hR⟩:∃ R:Nat→Prop,R=fun k=>(P k∨VFoot vp ix vx k)∨k=w.heap.size:=⟨_,rfl⟩
 have HR:=Hd hR
 clear hR
 have HRB:=Hd (show ∀ k,R k→k<w0.heap.size from fun k hk=>by
  rw [HR.out] at hk
  rcases hk with (hk|hk)|rfl
  ·have:=HPP.out k hk;omega
  ·have:=(HFT.out k hk).2;omega
  ·exact hl0)
 have HD0:=Hd (show DS w0 dp R K d from HDS.out.later HB0.out (fun k hk=>by
  rw [HR.out] at hk
  exact hk.imp id (fun h=>by omega)))
 clear c0 c1 c2 c3 c4 c5 c6 c7
 obtain ⟨SS,HSD⟩:∃ SS:World→Prop,Hid (SS=fun w'=>w'.cell? ⟨vp,0,none⟩=some (.pointer (some ⟨dp,0,none⟩))∧w'.cell? ⟨w.heap.size,0,none⟩=some (.int .i64 v.num)∧w'.cell? ⟨w.heap.size,1,none⟩=some (.int .i64 v.gen)∧w'.cell? ⟨w.heap.size,2,none⟩=some (.int .i64 n)∧w'.cell? ⟨w.heap.size,3,none⟩=some (.bool s)):=⟨_,Hd rfl⟩
 refine wp_region_mask0 SS [3,4] [0,1,3,7,0,31,63] (.op 0 0 (.op 1 0 (.op 2 0 (.op 3 2 (.op 4 2 (.op 5 1 (.op 6 0 .nil))))))) (by kernel_rfl) (by kernel_rfl) rfl (by kernel_rfl) (by kernel_rfl) ?_ ?_
 (focus (rw [HSD.out];exact ⟨e0,g0,g1,g2,g3⟩));(iterate 3 refine stepM0 rfl rfl fun K hK=>?_;go_simp;refine hK _ ?_;clear hK K);refine stepM2 rfl rfl ?_ (fun w1 hS=>?_) fun K hK=>?_;rotate_left;(focus (rw [HSD.out] at hS;obtain ⟨s0,s1,s2,s3,s4⟩:=hS;go_simp;rfl));go_simp;refine hK _ ?_;clear hK K;refine stepM2 rfl rfl ?_ (fun w1 hS=>?_) fun K hK=>?_;rotate_left;(focus (rw [HSD.out] at hS;obtain ⟨s0,s1,s2,s3,s4⟩:=hS;go_simp;rfl));go_simp;refine hK _ ?_;clear hK K;refine stepM1 rfl rfl (by kernel_rfl) fun K hK=>?_
 (go_wp2_with fail;refine (HLAY.out R w0.drew (HD0.out.below (Below.drew (Below.refl _ _))) HRB.out).mono ?_;rintro r w1 ⟨rfl,ht⟩;have HD1:=Hd ht.1;have HK1:=Hd (show KP R w0 w1 from (KP.of (Below.drew (Below.refl _ _))).trans ht.2);have hz1:=ht.2.size;clear ht;go_wp2)
 refine stepM0 rfl rfl fun K hK=>?_;go_simp;refine hK _ ?_;clear hK K
 try refine stepMnil0 ?_
 clear HSD SS
 have hz1':w0.heap.size≤w1.heap.size:=hz1
 have HV1:=Hd (show VolAt w1 vp dp ix vx v from (HV.out.below HB0.out).keeps HK1.out (fun k hk e=>e (by rw [HR.out];exact .inl (.inr hk))))
 have HFT1:=Hd (show ∀ k,VFoot vp ix vx k→¬ P k∧k<w1.heap.size from fun k hk=>⟨(HFT.out k hk).1,by have:=(HFT.out k hk).2;omega⟩)
 have HD1':=Hd (show DS w1 dp (fun k=>P k∨VFoot vp ix vx k) (K+4) L.2 from HD1.out.less (fun k hk=>by rw [HR.out];exact .inl hk))
 have HKP:=Hd (show KP P w w1 from (KP.of HB0.out).trans (HK1.out.mono (fun k _ hk=>by rw [HR.out];exact .inl (.inl hk))))
 obtain ⟨k,hk⟩:∃ k:Nat,k=L.1:=⟨_,rfl⟩
 rw [←hk] at HE ⊢
 clear hk
 by_cases hk0:k=0
 case neg=>
  have HNE:=Hd (errV_ne (k:=(k:Int)) (by omega))
  have HE2:=Hd (HE.out.trans (if_pos hk0))
  rw [HNE.out]
  clear hk0
  go_wp2_with fail
  go_ret
  rw [HE2.out]
  exact ⟨by rw [HNE.out];rfl,⟨ix,vx,HV1.out,HD1'.out,HFT1.out,HOK.out⟩,HKP.out⟩
 have HE2:=Hd (HE.out.trans (if_neg (by simpa using hk0)))
 rw [hk0,show errV ((0:Nat):Int)=.nilIface from rfl]
 clear hk0
 obtain ⟨c0,c1,c2,c3,c4,c5,c6,c7⟩:=HV1.out.cells
 obtain ⟨f1,f2,f3,f4⟩:=vfree HV1.out.blk
 obtain ⟨g0,g1,g2,g3⟩:=ncells (HK1.out.blk KB0.out (by rw [HR.out];exact .inr rfl))
 have hlt1:=HV1.out.lt
 have hlm:w.heap.size<w1.heap.size:=by omega
 clear e0
 go_wp2
 go_ret
 rw [HE2.out]
 obtain ⟨w2,hw2⟩:∃ w2,w2=set14 w1 vp (.int .i64 v.num) (.int .i64 v.gen) (.int .i64 n) (.bool s):=⟨_,rfl⟩
 have hk14:=set14_keeps w1 vp (.int .i64 v.num) (.int .i64 v.gen) (.int .i64 n) (.bool s)
 have hst:=store14 HV1.out.blk (.int .i64 v.num) (.int .i64 v.gen) (.int .i64 n) (.bool s)
 rw [←hw2] at hk14 hst
 unfold set14 at hw2
 rw [←hw2]
 refine ⟨rfl,⟨ix,vx,⟨hst,HV1.out.idx.keeps hk14 (fun e=>HV1.out.ne e.symm) (fun k hk e=>HV1.out.nv (by rw [hk,e])),HV1.out.ne,HV1.out.nv⟩,HD1'.out.step hk14 (fun k hk=>.inr (.inl hk)) (fun k hk=>.inl hk),fun k hk=>⟨(HFT1.out k hk).1,Nat.lt_of_lt_of_le (HFT1.out k hk).2 hk14.size⟩,?_⟩,HKP.out.trans (Keeps.mono hk14 (fun k _ hk e=>(HFT1.out vp (.inl rfl)).1 (hk ▸ e)))⟩
 have hok:=HOK.out
 refine ⟨hok.names,?_,hok.size,hok.most,hok.long⟩
 have:=hok.right
 simp only [rightV,Bool.and_eq_true,decide_eq_true_eq] at this ⊢
 omega
def infoV (v:Vl):Value:=.agg #[.int .i64 v.num,.int .i64 v.gen,.int .i64 v.epoch,.int .i64 v.size,.int .i64 ((v.idx.length - goneN v.idx:Nat):Int),.int .i64 (goneN v.idx),.bool v.shut]
theorem cells7'{w:World}{b:Nat}{v0 v1 v2 v3 v4 v5 v6:Value}{t:TypeId}(h:w.heap[b]? = some (.cells #[v0,v1,v2,v3,v4,v5,v6] t (0,0))):w.cell? ⟨b,0,none⟩=some v0∧w.cell? ⟨b,1,none⟩=some v1∧w.cell? ⟨b,2,none⟩=some v2∧w.cell? ⟨b,3,none⟩=some v3∧w.cell? ⟨b,4,none⟩=some v4∧w.cell? ⟨b,5,none⟩=some v5∧w.cell? ⟨b,6,none⟩=some v6:=by
 refine ⟨?_,?_,?_,?_,?_,?_,?_⟩ <;> (rw [cell_of_row w b _ _ _ _ h];rfl)
theorem free7{w:World}{b:Nat}{v0 v1 v2 v3 v4 v5 v6:Value}{t:TypeId}(h:w.heap[b]? = some (.cells #[v0,v1,v2,v3,v4,v5,v6] t (0,0))):w.frozen? ⟨b,0,none⟩=false∧w.frozen? ⟨b,1,none⟩=false∧w.frozen? ⟨b,2,none⟩=false∧w.frozen? ⟨b,3,none⟩=false∧w.frozen? ⟨b,4,none⟩=false∧w.frozen? ⟨b,5,none⟩=false∧w.frozen? ⟨b,6,none⟩=false:=
 ⟨frozen_of_row w b 0 _ _ h,frozen_of_row w b 1 _ _ h,frozen_of_row w b 2 _ _ h,frozen_of_row w b 3 _ _ h,frozen_of_row w b 4 _ _ h,frozen_of_row w b 5 _ _ h,frozen_of_row w b 6 _ _ h⟩
def set7i (w:World) (b:Nat) (u0 u1 u2 u3 u4 u5 u6:Value):World:=((((((w.setCell ⟨b,0,none⟩ u0).setCell ⟨b,1,none⟩ u1).setCell ⟨b,2,none⟩ u2).setCell ⟨b,3,none⟩ u3).setCell ⟨b,4,none⟩ u4).setCell ⟨b,5,none⟩ u5).setCell ⟨b,6,none⟩ u6
theorem store7i{w:World}{b:Nat}{v0 v1 v2 v3 v4 v5 v6:Value}{t:TypeId}(h:w.heap[b]? = some (.cells #[v0,v1,v2,v3,v4,v5,v6] t (0,0)))(u0 u1 u2 u3 u4 u5 u6:Value):(set7i w b u0 u1 u2 u3 u4 u5 u6).heap[b]? = some (.cells #[u0,u1,u2,u3,u4,u5,u6] t (0,0)):=by
 have h0:(w.setCell ⟨b,0,none⟩ u0).heap[b]? = some (.cells #[u0,v1,v2,v3,v4,v5,v6] t (0,0)):=by simpa using heap_setCell_same w b 0 _ t u0 h
 have h1:((w.setCell ⟨b,0,none⟩ u0).setCell ⟨b,1,none⟩ u1).heap[b]? = some (.cells #[u0,u1,v2,v3,v4,v5,v6] t (0,0)):=by simpa using heap_setCell_same _ b 1 _ t u1 h0
 have h2:(((w.setCell ⟨b,0,none⟩ u0).setCell ⟨b,1,none⟩ u1).setCell ⟨b,2,none⟩ u2).heap[b]? = some (.cells #[u0,u1,u2,v3,v4,v5,v6] t (0,0)):=by simpa using heap_setCell_same _ b 2 _ t u2 h1
 have h3:((((w.setCell ⟨b,0,none⟩ u0).setCell ⟨b,1,none⟩ u1).setCell ⟨b,2,none⟩ u2).setCell ⟨b,3,none⟩ u3).heap[b]? = some (.cells #[u0,u1,u2,u3,v4,v5,v6] t (0,0)):=by simpa using heap_setCell_same _ b 3 _ t u3 h2
 have h4:(((((w.setCell ⟨b,0,none⟩ u0).setCell ⟨b,1,none⟩ u1).setCell ⟨b,2,none⟩ u2).setCell ⟨b,3,none⟩ u3).setCell ⟨b,4,none⟩ u4).heap[b]? = some (.cells #[u0,u1,u2,u3,u4,v5,v6] t (0,0)):=by simpa using heap_setCell_same _ b 4 _ t u4 h3
 have h5:((((((w.setCell ⟨b,0,none⟩ u0).setCell ⟨b,1,none⟩ u1).setCell ⟨b,2,none⟩ u2).setCell ⟨b,3,none⟩ u3).setCell ⟨b,4,none⟩ u4).setCell ⟨b,5,none⟩ u5).heap[b]? = some (.cells #[u0,u1,u2,u3,u4,u5,v6] t (0,0)):=by simpa using heap_setCell_same _ b 5 _ t u5 h4
 simpa [set7i] using heap_setCell_same _ b 6 _ t u6 h5
theorem set7i_below{B b:Nat}{w:World}(h:B≤b)(u0 u1 u2 u3 u4 u5 u6:Value):Below B w (set7i w b u0 u1 u2 u3 u4 u5 u6):=by
 unfold set7i
 exact belo
theorem info_any{w:World}{vp dp ix:Nat}{vx:Value}{v:Vl}(h:VolAt w vp dp ix vx v) :
  Calls Tryz.prog 66 #[(.pointer (some ⟨vp,0,none⟩))] w fun e w'=>e=.returned (infoV v)∧Below w.heap.size w w':=by
 have HV:=Hd h
 have HLE:=Hd (fun (w0:World) (hb:Below w.heap.size w w0)=>ilen_any 0 ix vx v.idx w0 (h.below hb).idx)
 obtain ⟨c0,c1,c2,c3,c4,c5,c6,c7⟩:=h.cells
 have hlt:=h.lt
 unfold infoV goneN
 obtain ⟨G,hG⟩:∃ G,G=v.idx.countP fun p=>p.gone:=⟨_,rfl⟩
 obtain ⟨M,hM⟩:∃ M,M=v.idx.length - G:=⟨_,rfl⟩
 rw [←hG,←hM] at HLE ⊢
 clear h hM hG
 go_enter Tryz.func66,Tryz.ntmps66
 go_wp2_with fail
 obtain ⟨w0,hw0⟩:∃ w0:World,w0=w.alloc (.cells #[.int .i64 0,.int .i64 0,.int .i64 0,.int .i64 0,.int .i64 0,.int .i64 0,.bool false] 154):=⟨_,rfl⟩
 have HB0:=Hd (show Below w.heap.size w w0 by rw [hw0];exact belo)
 have KB0:=Hd (show w0.heap[w.heap.size]? = some (.cells #[.int .i64 0,.int .i64 0,.int .i64 0,.int .i64 0,.int .i64 0,.int .i64 0,.bool false] 154 (0,0)) by rw [hw0];exact heap_new w _)
 rw [←hw0]
 clear hw0
 have hz0:=HB0.out.size
 refine (HLE.out _ HB0.out).mono ?_
 rintro e w1 ⟨rfl,hb⟩
 have HB1:=Hd (HB0.out.trans (hb.mono hz0))
 have KB1:=Hd (blk_below' KB0.out hb)
 clear hb c0 c1 c2 c3 c4 c5 c6 c7
 obtain ⟨c0,c1,c2,c3,c4,c5,c6,c7⟩:=(HV.out.below HB1.out).cells
 obtain ⟨q0,q1,q2,q3,q4,q5,q6⟩:=cells7' KB1.out
 obtain ⟨f0,f1,f2,f3,f4,f5,f6⟩:=free7 KB1.out
 have hlt1:=blk_lt KB1.out
 have hlv:vp<w1.heap.size:=by omega
 go_upto_region 4 with fail
 refine wp_region_mask0 (fun w1=>w1=_) [4,9,14,18,25] [0,1,3,7,15,0,32,96,224,480,0,1024,3072,7168,15360,0,32768,98304,229376,0,0,0,2097152,6291456,14680064,31457280,67108863,134217727] (.op 0 0 (.op 1 0 (.op 2 0 (.op 3 0 (.op 4 2 (.op 5 0 (.op 6 0 (.op 7 0 (.op 8 0 (.op 9 2 (.op 10 0 (.op 11 0 (.op 12 0 (.op 13 0 (.op 14 2 (.op 15 0 (.op 16 0 (.op 17 0 (.op 18 2 (.op 19 0 (.op 20 0 (.op 21 0 (.op 22 0 (.op 23 0 (.op 24 0 (.op 25 2 (.op 26 0 (.op 27 1 .nil)))))))))))))))))))))))))))) (by kernel_rfl) (by kernel_rfl) rfl (by kernel_rfl) (by kernel_rfl) rfl ?_
 (iterate 4 refine stepM0 rfl rfl fun K hK=>?_;go_simp;refine hK _ ?_;clear hK K);refine stepM2 rfl rfl ?_ (fun w1 hS=>?_) fun K hK=>?_;rotate_left;(focus (obtain rfl:w1=_:=hS;go_simp;rfl));go_simp;refine hK _ ?_;clear hK K;(iterate 4 refine stepM0 rfl rfl fun K hK=>?_;go_simp;refine hK _ ?_;clear hK K);refine stepM2 rfl rfl ?_ (fun w1 hS=>?_) fun K hK=>?_;rotate_left;(focus (obtain rfl:w1=_:=hS;go_simp;rfl));go_simp;refine hK _ ?_;clear hK K;(iterate 4 refine stepM0 rfl rfl fun K hK=>?_;go_simp;refine hK _ ?_;clear hK K);refine stepM2 rfl rfl ?_ (fun w1 hS=>?_) fun K hK=>?_;rotate_left;(focus (obtain rfl:w1=_:=hS;go_simp;rfl));go_simp;refine hK _ ?_;clear hK K;(iterate 3 refine stepM0 rfl rfl fun K hK=>?_;go_simp;refine hK _ ?_;clear hK K);refine stepM2 rfl rfl ?_ (fun w1 hS=>?_) fun K hK=>?_;rotate_left;(focus (obtain rfl:w1=_:=hS;go_simp;rfl));go_simp;refine hK _ ?_;clear hK K;(iterate 6 refine stepM0 rfl rfl fun K hK=>?_;go_simp;refine hK _ ?_;clear hK K);refine stepM2 rfl rfl ?_ (fun w1 hS=>?_) fun K hK=>?_;rotate_left;(focus (obtain rfl:w1=_:=hS;go_simp;rfl));go_simp;refine hK _ ?_;clear hK K;refine stepM0 rfl rfl fun K hK=>?_;go_simp;refine hK _ ?_;clear hK K;refine stepM1 rfl rfl (by kernel_rfl) fun K hK=>?_;go_wp2
 try refine stepMnil0 ?_
 go_wp2
 obtain ⟨wx,hwx⟩:∃ wx,wx=set7i w1 w.heap.size (.int .i64 v.num) (.int .i64 v.gen) (.int .i64 v.epoch) (.int .i64 v.size) (.int .i64 M) (.int .i64 G) (.bool v.shut):=⟨_,rfl⟩
 have HBX:=Hd (show Below w.heap.size w wx by rw [hwx];exact HB1.out.trans (set7i_below (Nat.le_refl _) _ _ _ _ _ _ _))
 have kbx:=store7i (KB1.out) (.int .i64 v.num) (.int .i64 v.gen) (.int .i64 v.epoch) (.int .i64 v.size) (.int .i64 M) (.int .i64 G) (.bool v.shut)
 rw [←hwx] at kbx
 unfold set7i at hwx
 rw [←hwx]
 clear hwx
 have HBF:=Hd (show Below w.heap.size w wx.drew from Below.drew HBX.out)
 have kbf:wx.drew.heap[w.heap.size]? = some (.cells #[.int .i64 v.num,.int .i64 v.gen,.int .i64 v.epoch,.int .i64 v.size,.int .i64 M,.int .i64 G,.bool v.shut] 154 (0,0)):=kbx
 obtain ⟨s0,s1,s2,s3,s4,s5,s6⟩:=cells7' kbf
 refine bodyPost_ret (v:=?_) ?_ rfl ?_
 rotate_left;(focus (simp [results,Tryz.results66,go_sem,s0,s1,s2,s3,s4,s5,s6];exact rfl))
 exact ⟨rfl,HBF.out⟩
def SnapTo (w:World) (v:Vl) (e:Ending) (w':World):Prop:=
 ∃ vl,e=.returned (.agg #[.int .i64 v.num,.int .i64 v.gen,.int .i64 v.size,vl])∧w'.ownsRow w.heap.size 152 5 vl v.idx.length (v.idx.flatMap psC)∧Below w.heap.size w w'
theorem snap_any{w:World}{vp dp ix:Nat}{vx:Value}{v:Vl}(h:VolAt w vp dp ix vx v) :
  Calls Tryz.prog 68 #[(.pointer (some ⟨vp,0,none⟩))] w (SnapTo w v):=by
 have HV:=Hd h
 have HAL:=Hd (fun (w0:World) (hb:Below w.heap.size w w0)=>iall_any 0 ix vx v.idx w0 (h.below hb).idx)
 obtain ⟨c0,c1,c2,c3,c4,c5,c6,c7⟩:=h.cells
 have hlt:=h.lt
 have hne:=h.idx.few
 unfold SnapTo
 obtain ⟨ln,hln⟩:∃ ln,ln=v.idx.length:=⟨_,rfl⟩
 rw [←hln] at HAL ⊢
 clear h hln hne
 go_enter Tryz.func68,Tryz.ntmps68
 go_upto_region 3 with fail
 obtain ⟨w0,hw0⟩:∃ w0:World,w0=w.alloc (.cells #[.int .i64 0,.int .i64 0,.int .i64 0,.slice none 0 0] 159):=⟨_,rfl⟩
 have HB0:=Hd (show Below w.heap.size w w0 by rw [hw0];exact belo)
 have KB0:=Hd (show w0.heap[w.heap.size]? = some (.cells #[.int .i64 0,.int .i64 0,.int .i64 0,.slice none 0 0] 159 (0,0)) by rw [hw0];exact heap_new w _)
 rw [←hw0]
 clear hw0 c0 c1 c2 c3 c4 c5 c6 c7
 have hz0:=HB0.out.size
 obtain ⟨c0,c1,c2,c3,c4,c5,c6,c7⟩:=(HV.out.below HB0.out).cells
 obtain ⟨SS,HSD⟩:∃ SS:World→Prop,Hid (SS=fun w'=>w'.cell? ⟨vp,1,none⟩=some (.int .i64 v.num)∧w'.cell? ⟨vp,2,none⟩=some (.int .i64 v.gen)∧w'.cell? ⟨vp,6,none⟩=some (.int .i64 v.size)∧w'.cell? ⟨vp,7,none⟩=some (.pointer (some ⟨ix,0,none⟩))):=⟨_,Hd rfl⟩
 refine wp_region_mask0 SS [4,9,13,17] [0,1,3,7,15,0,32,96,224,480,0,1024,3072,7168,0,16384,49152,114688,245760,524287,1048575] (.op 0 0 (.op 1 0 (.op 2 0 (.op 3 0 (.op 4 2 (.op 5 0 (.op 6 0 (.op 7 0 (.op 8 0 (.op 9 2 (.op 10 0 (.op 11 0 (.op 12 0 (.op 13 2 (.op 14 0 (.op 15 0 (.op 16 0 (.op 17 2 (.op 18 1 (.op 19 0 (.op 20 1 .nil))))))))))))))))))))) (by kernel_rfl) (by kernel_rfl) rfl (by kernel_rfl) (by kernel_rfl) ?_ ?_
 (focus (rw [HSD.out];exact ⟨c1,c2,c6,c7⟩));(iterate 4 refine stepM0 rfl rfl fun K hK=>?_;go_simp;refine hK _ ?_;clear hK K);refine stepM2 rfl rfl ?_ (fun w1 hS=>?_) fun K hK=>?_;rotate_left;(focus (rw [HSD.out] at hS;obtain ⟨s1,s2,s3,s4⟩:=hS;go_simp;rfl));go_simp;refine hK _ ?_;clear hK K;(iterate 4 refine stepM0 rfl rfl fun K hK=>?_;go_simp;refine hK _ ?_;clear hK K);refine stepM2 rfl rfl ?_ (fun w1 hS=>?_) fun K hK=>?_;rotate_left;(focus (rw [HSD.out] at hS;obtain ⟨s1,s2,s3,s4⟩:=hS;go_simp;rfl));go_simp;refine hK _ ?_;clear hK K;(iterate 3 refine stepM0 rfl rfl fun K hK=>?_;go_simp;refine hK _ ?_;clear hK K);refine stepM2 rfl rfl ?_ (fun w1 hS=>?_) fun K hK=>?_;rotate_left;(focus (rw [HSD.out] at hS;obtain ⟨s1,s2,s3,s4⟩:=hS;go_simp;rfl));go_simp;refine hK _ ?_;clear hK K;(iterate 3 refine stepM0 rfl rfl fun K hK=>?_;go_simp;refine hK _ ?_;clear hK K);refine stepM2 rfl rfl ?_ (fun w1 hS=>?_) fun K hK=>?_;rotate_left;(focus (rw [HSD.out] at hS;obtain ⟨s1,s2,s3,s4⟩:=hS;go_simp;rfl));go_simp;refine hK _ ?_;clear hK K;refine stepM1S rfl rfl fun K hK=>?_
 (go_wp2_with fail;refine (HAL.out w0.drew (Below.drew HB0.out)).mono ?_;rintro e w1 ⟨vl,rfl,ho,-,hb⟩;obtain ⟨al,cl,rfl,-⟩:=slice_of ho;have HO1:=Hd ho;have HB1:=Hd ((Below.drew HB0.out).trans (hb.mono HB0.out.size));have KB1:=Hd (blk_below' (w:=w0.drew) KB0.out hb);have hz01:w0.heap.size≤w1.heap.size:=hb.size;obtain ⟨x0,x1,x2,x3,x4,x5,x6,x7⟩:=(HV.out.below HB1.out).cells;clear hb ho;obtain ⟨f0,f1,f2,f3⟩:=nfree KB1.out;obtain ⟨q0,q1,q2,q3⟩:=ncells KB1.out;have hlt1:=blk_lt KB1.out;go_wp2)
 refine ⟨by rw [HSD.out];exact (⟨x1,x2,x6,x7⟩),?_⟩
 refine stepM0 rfl rfl fun K hK=>?_;go_simp;refine hK _ ?_;clear hK K;refine stepM1 rfl rfl (by kernel_rfl) fun K hK=>?_;go_wp2
 try refine stepMnil0 ?_
 clear HSD SS
 go_wp2
 obtain ⟨wf,hwf⟩:∃ wf,wf=set4 w1 w.heap.size (.int .i64 v.num) (.int .i64 v.gen) (.int .i64 v.size) (.slice al ln cl):=⟨_,rfl⟩
 have HBF:=Hd (show Below w.heap.size w wf by rw [hwf];exact HB1.out.trans (set4_below (Nat.le_refl _) _ _ _ _))
 have kbf:=store4 (KB1.out) (.int .i64 v.num) (.int .i64 v.gen) (.int .i64 v.size) (.slice al ln cl)
 have HOF:=Hd (show wf.ownsRow w.heap.size 152 5 (.slice al ln cl) ln (v.idx.flatMap psC) by
  have h0:w.heap.size<w0.heap.size:=blk_lt KB0.out
  have h1:=HO1.out
  rw [hwf]
  exact ownsRow_mono (ownsRow_keeps h1 (set4_keeps w1 _ _ _ _ _) (fun k hk e=>by have:=(h1.lt k hk).1;have h2:w0.heap.size≤k:=this;omega)) hz0)
 rw [←hwf] at kbf
 obtain ⟨s0,s1,s2,s3⟩:=ncells kbf
 unfold set4 at hwf
 rw [←hwf]
 refine bodyPost_ret (v:=?_) ?_ rfl ?_
 rotate_left;(focus (simp [results,Tryz.results68,go_sem,s0,s1,s2,s3];exact rfl))
 exact ⟨_,rfl,HOF.out,HBF.out⟩
end Go.Proofs.YtfpjfoajonbndaaGreatDoor
