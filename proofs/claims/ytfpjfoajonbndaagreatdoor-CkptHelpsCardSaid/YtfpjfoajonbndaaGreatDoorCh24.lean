import Derived.Test.YtfpjfoajonbndaaGreatDoorCh22
import Derived.Test.YtfpjfoajonbndaaGreatDoorChCkDoPlain
import Derived.Test.YtfpjfoajonbndaaGreatDoorCh11
import Derived.Test.YtfpjfoajonbndaaGreatDoorCh16
import Derived.Test.YtfpjfoajonbndaaGreatDoorCh14
import Derived.Test.YtfpjfoajonbndaaGreatDoorChAppReads
namespace Go.Proofs.YtfpjfoajonbndaaGreatDoor
set_option maxHeartbeats 8000000
set_option maxRecDepth 100000
open Go.RowKit
set_option maxRecDepth 100000
set_option maxHeartbeats 8000000
open Go.RowKit
def CkW (w:World) (wb dp vp:Nat) (c:Ck) (a:Option Addr) (cap step:Nat):Prop:=w.heap[wb]? = some (.cells #[(.pointer (some ⟨dp,0,none⟩)),(.pointer (some ⟨vp,0,none⟩)),.int .i64 c.vol,.int .i64 c.gen,.int .i64 c.upto,.slice a c.l.length cap,.int .i64 step] 161 (0,0))
theorem cknames_any{w:World}{wb dp vp cap step:Nat}{c:Ck}{a:Option Addr}(h:CkW w wb dp vp c a cap step)(h0:NamesAt c.vol 0)(h1:NamesAt c.vol c.gen) :
  Calls Tryz.prog 116 #[(.pointer (some ⟨wb,0,none⟩))] w fun e w'=>e=.returned (.tuple #[.string ⟨(cName c.vol 0).toArray⟩,.string ⟨(cName c.vol c.gen).toArray⟩])∧Below w.heap.size w w':=by
 have HW:=Hd h
 have H0:=Hd h0
 have H1:=Hd h1
 obtain ⟨s0,s1,s2,s3,s4,s5,s6⟩:=cells7' h
 have hlt:=blk_lt h
 clear h h0 h1
 go_enter Tryz.func116,Tryz.ntmps116
 go_wp2_with fail
 refine (H0.out w).mono ?_
 rintro e wx ⟨rfl,rfl⟩
 unfold namesV
 go_upto_region 2 with fail
 refine wp_region_now [4,9] [(0,0),(1,0),(2,0),(3,0),(4,2),(5,0),(6,0),(7,0),(8,0),(9,2),(10,1),(11,0),(12,0),(13,0),(14,0),(15,0),(16,0)] (by kernel_rfl) (by kernel_rfl) rfl (by kernel_rfl) (fun c a d v w h=>by cases d <;> exact h) ?_
 (iterate 4 refine stepE0 rfl rfl fun K hK=>?_;go_simp;refine hK _ ?_;clear hK K);refine stepE2 rfl rfl ?_ (fun w1 hS=>?_) fun K hK=>?_;rotate_left;(focus (obtain rfl:w1=_:=hS;go_simp;rfl));go_simp;refine hK _ ?_;clear hK K;(iterate 4 refine stepE0 rfl rfl fun K hK=>?_;go_simp;refine hK _ ?_;clear hK K);refine stepE2 rfl rfl ?_ (fun w1 hS=>?_) fun K hK=>?_;rotate_left;(focus (obtain rfl:w1=_:=hS;go_simp;rfl));go_simp;refine hK _ ?_;clear hK K;refine stepE1 rfl rfl (by kernel_rfl) fun K hK=>?_
 go_wp2_with fail;refine (H1.out w.drew).mono ?_;rintro e wx ⟨rfl,rfl⟩;unfold namesV;go_wp2
 (iterate 6 refine stepE0 rfl rfl fun K hK=>?_;go_simp;refine hK _ ?_;clear hK K)
 try refine stepEnil ?_
 go_wp2_with fail
 refine bodyPost_ret (v:=?_) ?_ rfl ?_
 rotate_left;(focus (simp [results,Tryz.results116,go_sem];exact rfl))
 exact ⟨rfl,Below.drew (Below.refl _ _)⟩
theorem ckclear_ds{w:World}{wb dp vp cap step K:Nat}{P:Nat→Prop}{d:Dk}{c:Ck}{a:Option Addr}(hw:CkW w wb dp vp c a cap step)(hds:DS w dp P K d)(hK:K<1099511627776)(hP:∀ k,P k→k<w.heap.size)(h0:NamesAt c.vol 0)(h1:NamesAt c.vol c.gen)(hl:(cName c.vol 0).length≤maxLen) :
  Calls Tryz.prog 69 #[(.pointer (some ⟨wb,0,none⟩))] w fun e w'=>e=.returned (errV (d.ckClear (cName c.vol 0)).1)∧DTo w w' dp P (K+1) (d.ckClear (cName c.vol 0)).2:=by
 have HW:=Hd hw
 have HD:=Hd hds
 have HP:=Hd hP
 have HNM:=Hd (cknames_any hw h0 h1)
 have HL:=Hd hl
 have HE:=Hd (show ∀ s,d.ckClear s=if hasName d s=true then d.remove s else (0,d) from fun _=>rfl)
 obtain ⟨S,hS⟩:∃ S,S=cName c.vol 0:=⟨_,rfl⟩
 rw [←hS] at HNM HL ⊢
 obtain ⟨T,hT⟩:∃ T,T=cName c.vol c.gen:=⟨_,rfl⟩
 rw [←hT] at HNM
 clear hw hds hP h0 h1 hl hS hT
 go_enter Tryz.func69,Tryz.ntmps69
 go_wp2_with fail
 refine HNM.out.mono ?_
 rintro e w1 ⟨rfl,hb⟩
 have HB1:=Hd hb
 have HW1:=Hd (show CkW w1 wb dp vp c a cap step from blk_below' HW.out hb)
 have HD1:=Hd (HD.out.below hb)
 have hz1:=hb.size
 clear hb
 obtain ⟨s0,s1,s2,s3,s4,s5,s6⟩:=cells7' HW1.out
 have hlt:=blk_lt HW1.out
 go_wp2_with fail
 refine (names_ds HD1.out).mono ?_
 rintro r w3 ⟨vn,rfl,ho3,hb3⟩
 have HB3:=Hd (HB1.out.trans (hb3.mono hz1))
 have HD3:=Hd (HD1.out.below hb3)
 have HW3:=Hd (show CkW w3 wb dp vp c a cap step from blk_below' HW1.out hb3)
 have hn64:=HD1.out.ok.lnow
 obtain ⟨an,cn,rfl,-⟩:=slice_of ho3
 have HCT:=Hd (scontains_any w1.heap.size d.now.length (.slice an d.now.length cn) (namesOf d.now) S w3 (namesOf_len d.now).symm (by omega) ho3)
 rw [show decide (S∈namesOf d.now)=hasName d S from has_names d S] at HCT
 clear ho3 hb3 s0 s1 s2 s3 s4 s5 s6 hlt
 go_wp2_with fail
 refine HCT.out.mono ?_
 rintro r w3' ⟨rfl,rfl⟩
 clear HCT
 obtain ⟨q,hq⟩:∃ q,q=hasName d S:=⟨_,rfl⟩
 rw [←hq]
 have HHN:=Hd hq
 clear hq
 have hz3:=HB3.out.size
 cases q with
 | false=>
  go_wp2_with fail
  go_ret
  rw [HE.out,←HHN.out,if_neg (by simp)]
  exact ⟨rfl,HD3.out.more (by omega),KP.of HB3.out⟩
 | true=>
  have HRM:=Hd (remove_ds HD3.out (fun k hk=>Nat.lt_of_lt_of_le (HP.out k hk) hz3) hK S HL.out)
  obtain ⟨s0,s1,s2,s3,s4,s5,s6⟩:=cells7' HW3.out
  have hlt:=blk_lt HW3.out
  go_wp2_with fail
  refine HRM.out.mono ?_
  rintro r w4 ⟨rfl,ht⟩
  have HT:=Hd ht
  clear ht
  go_wp2_with fail
  go_ret
  rw [HE.out,←HHN.out,if_pos rfl]
  exact ⟨rfl,HT.out.1,(KP.of HB3.out).trans HT.out.2⟩
theorem ckdo_ds{w:World}{wb dp vp cap step K:Nat}{P:Nat→Prop}{d:Dk}{c:Ck}{a:Option Addr}(hw:CkW w wb dp vp c a cap step)(hds:DS w dp P K d)(hK:K+2<1099511627776)(hP:∀ k,P k→k<w.heap.size)(hwb:P wb)(h0:NamesAt c.vol 0)(h1:NamesAt c.vol c.gen)(hl0:(cName c.vol 0).length≤maxLen)(hl1:(cName c.vol c.gen).length≤maxLen)
  (hr:Reads w 5 (.slice a c.l.length cap) c.l.length (c.l.flatMap psC)) (hln:c.l.length≤1000000000) (hck:∀ p∈c.l,p.key<18446744073709551616∧p.cookie<4294967296) (hst:step≤4) :
  Calls Tryz.prog 70 #[(.pointer (some ⟨wb,0,none⟩))] w fun e w'=>e=.returned (errV (ckDo c step d).1)∧DTo w w' dp P (K+2) (ckDo c step d).2:=by
 have HW:=Hd hw
 have HD:=Hd hds
 have HP:=Hd hP
 have HWB:=Hd hwb
 have HNM:=Hd (cknames_any hw h0 h1)
 have HL0:=Hd hl0
 have HL1:=Hd hl1
 have HCL:=Hd (fun (w0:World) (hb:Below w.heap.size w w0)=>ckclear_ds (w:=w0) (show CkW w0 wb dp vp c a cap step from blk_below' hw hb) (hds.below hb) (by omega) (fun k hk=>Nat.lt_of_lt_of_le (hP k hk) hb.size) h0 h1 hl0)
 have HPT:=Hd (fun (w0:World) (hb:Below w.heap.size w w0)=>ckput_any c a cap w0 (hr.below hb) hln hck)
 have HE:=Hd (show ckDo c step d=if step=0 then (if (d.ckClear (cName c.vol 0)).1≠0 then d.ckClear (cName c.vol 0) else (d.ckClear (cName c.vol 0)).2.create (cName c.vol 0))
  else if step=1 then (if ckRight c≠0 then (ckRight c,d) else d.append (cName c.vol 0) (ckB c))
  else if step=2 then d.sync (cName c.vol 0)
  else if step=3 then d.rename (cName c.vol 0) (cName c.vol c.gen)
  else d.syncNames from rfl)
 obtain ⟨R,hR⟩:∃ R,R=ckDo c step d:=⟨_,rfl⟩
 rw [←hR] at HE ⊢
 obtain ⟨S,hS⟩:∃ S,S=cName c.vol 0:=⟨_,rfl⟩
 rw [←hS] at HNM HL0 HCL HE
 obtain ⟨T,hT⟩:∃ T,T=cName c.vol c.gen:=⟨_,rfl⟩
 rw [←hT] at HNM HL1 HE
 obtain ⟨RT,hRT⟩:∃ RT,RT=ckRight c:=⟨_,rfl⟩
 rw [←hRT] at HPT HE
 obtain ⟨BB,hBB⟩:∃ BB,BB=ckB c:=⟨_,rfl⟩
 rw [←hBB] at HPT HE
 obtain ⟨RS,hRS⟩:∃ RS,RS=if RT=0 then BB else []:=⟨_,rfl⟩
 rw [←hRS] at HPT
 have HRS:=Hd hRS
 unfold ckV ReadTo at HPT
 clear hw hds hP hwb h0 h1 hl0 hl1 hr hck hR hS hT hRT hBB hRS
 go_enter Tryz.func70,Tryz.ntmps70
 go_wp2_with fail
 refine HNM.out.mono ?_
 rintro e w1 ⟨rfl,hb⟩
 have HB1:=Hd hb
 have HW1:=Hd (show CkW w1 wb dp vp c a cap step from blk_below' HW.out hb)
 have HD1:=Hd (HD.out.below hb)
 have hz1:=hb.size
 have HP1:=Hd (show ∀ k,P k→k<w1.heap.size from fun k hk=>Nat.lt_of_lt_of_le (HP.out k hk) hb.size)
 clear hb
 obtain ⟨s0,s1,s2,s3,s4,s5,s6⟩:=cells7' HW1.out
 have hlt:=blk_lt HW1.out
 rcases Nat.lt_or_ge step 1 with hs|hs
 ·obtain rfl:step=0:=by omega
  have HE0:=Hd (show R=if (d.ckClear S).1≠0 then d.ckClear S else (d.ckClear S).2.create S by rw [HE.out,if_pos rfl])
  obtain ⟨k,hk⟩:∃ k,k=(d.ckClear S).1:=⟨_,rfl⟩
  obtain ⟨d2,hd2⟩:∃ d2,d2=(d.ckClear S).2:=⟨_,rfl⟩
  rw [←hk,←hd2] at HCL
  have HKK:=Hd hk
  have HDD:=Hd hd2
  clear hk hd2
  go_wp2_with fail
  refine (HCL.out w1 HB1.out).mono ?_
  rintro e w2 ⟨rfl,ht⟩
  have HT2:=Hd ht
  have HW2:=Hd (show CkW w2 wb dp vp c a cap 0 from KP.blk ht.2 HW1.out HWB.out)
  clear ht s0 s1 s2 s3 s4 s5 s6 hlt
  by_cases hk0:k=0
  case neg=>
   have HNE:=Hd (errV_ne (k:=(k:Int)) (by omega))
   have HKN:=Hd hk0
   rw [HNE.out]
   clear hk0
   go_wp2_with fail
   go_ret
   rw [HE0.out,←HKK.out,if_pos HKN.out,←HKK.out,←HDD.out,HNE.out]
   exact ⟨rfl,HT2.out.1.more (by omega),(KP.of HB1.out).trans HT2.out.2⟩
  have HKZ:=Hd hk0
  rw [hk0,show errV ((0:Nat):Int)=.nilIface from rfl]
  clear hk0
  obtain ⟨s0,s1,s2,s3,s4,s5,s6⟩:=cells7' HW2.out
  have hlt:=blk_lt HW2.out
  have HCR:=Hd (create_ds HT2.out.1 (fun k hk=>Nat.lt_of_lt_of_le (HP1.out k hk) HT2.out.2.size) (by omega) S HL0.out)
  go_wp2_with fail
  refine HCR.out.mono ?_
  rintro r w4 ⟨rfl,ht⟩
  have HT4:=Hd ht
  clear ht
  go_wp2_with fail
  go_ret
  rw [HE0.out,←HKK.out,if_neg (by rw [HKZ.out];simp),←HDD.out]
  exact ⟨rfl,HT4.out.1.more (by omega),((KP.of HB1.out).trans HT2.out.2).trans HT4.out.2⟩
 rcases Nat.lt_or_ge step 2 with hs|hs
 ·obtain rfl:step=1:=by omega
  have HE1:=Hd (show R=if RT≠0 then (RT,d) else d.append S BB by rw [HE.out,if_neg (by omega),if_pos rfl])
  go_wp2_with fail
  refine (HPT.out w1 HB1.out).mono ?_
  rintro e w2 ⟨vr,rfl,ho,hb⟩
  obtain ⟨ar,cr,rfl,hcr⟩:=slice_of ho
  have HO2:=Hd ho
  have HB2:=Hd (HB1.out.trans (hb.mono hz1))
  have HW2:=Hd (show CkW w2 wb dp vp c a cap 1 from blk_below' HW1.out hb)
  have HD2:=Hd (HD1.out.below hb)
  have hz2:=hb.size
  clear ho hb s0 s1 s2 s3 s4 s5 s6 hlt
  by_cases hk0:RT=0
  case neg=>
   have HNE:=Hd (errV_ne (k:=(RT:Int)) (by omega))
   have HKN:=Hd hk0
   rw [HNE.out]
   clear hk0
   go_wp2_with fail
   go_ret
   rw [HE1.out,if_pos HKN.out,HNE.out]
   exact ⟨rfl,HD2.out.more (by omega),KP.of HB2.out⟩
  have HKZ:=Hd hk0
  have HRB:=Hd (show RS=BB by rw [HRS.out,if_pos hk0])
  rw [hk0,show errV ((0:Nat):Int)=.nilIface from rfl]
  clear hk0
  obtain ⟨s0,s1,s2,s3,s4,s5,s6⟩:=cells7' HW2.out
  have hlt:=blk_lt HW2.out
  have HAP:=Hd (append_ds HD2.out (fun k hk=>Nat.lt_of_lt_of_le (HP1.out k hk) hz2) S (.slice ar RS.length cr) RS HL0.out (reads_of_owns HO2.out))
  go_wp2_with fail
  refine HAP.out.mono ?_
  rintro r w4 ⟨rfl,ht⟩
  have HT4:=Hd ht
  clear ht
  go_wp2_with fail
  go_ret
  rw [HE1.out,if_neg (by rw [HKZ.out];simp),←HRB.out]
  exact ⟨rfl,HT4.out.1.more (by omega),(KP.of HB2.out).trans HT4.out.2⟩
 rcases Nat.lt_or_ge step 3 with hs|hs
 ·obtain rfl:step=2:=by omega
  have HE2:=Hd (show R=d.sync S by rw [HE.out,if_neg (by omega),if_neg (by omega),if_pos rfl])
  have HSY:=Hd (sync_ds HD1.out HP1.out S HL0.out)
  go_wp2_with fail
  refine HSY.out.mono ?_
  rintro r w4 ⟨rfl,ht⟩
  have HT4:=Hd ht
  clear ht
  go_wp2_with fail
  go_ret
  rw [HE2.out]
  exact ⟨rfl,HT4.out.1.more (by omega),(KP.of HB1.out).trans HT4.out.2⟩
 rcases Nat.lt_or_ge step 4 with hs|hs
 ·obtain rfl:step=3:=by omega
  have HE3:=Hd (show R=d.rename S T by rw [HE.out,if_neg (by omega),if_neg (by omega),if_neg (by omega),if_pos rfl])
  have HRN:=Hd (rename_ds HD1.out HP1.out (by omega) S T HL0.out HL1.out)
  go_wp2_with fail
  refine HRN.out.mono ?_
  rintro r w4 ⟨rfl,ht⟩
  have HT4:=Hd ht
  clear ht
  go_wp2_with fail
  go_ret
  rw [HE3.out]
  exact ⟨rfl,HT4.out.1.more (by omega),(KP.of HB1.out).trans HT4.out.2⟩
 ·obtain rfl:step=4:=by omega
  have HE4:=Hd (show R=d.syncNames by rw [HE.out,if_neg (by omega),if_neg (by omega),if_neg (by omega),if_neg (by omega)])
  have HSN:=Hd (syncNames_ds HD1.out HP1.out)
  go_wp2_with fail
  refine HSN.out.mono ?_
  rintro r w4 ⟨rfl,ht⟩
  have HT4:=Hd ht
  clear ht
  go_wp2_with fail
  go_ret
  rw [HE4.out]
  exact ⟨rfl,HT4.out.1.more (by omega),(KP.of HB1.out).trans HT4.out.2⟩
theorem DS.keepsP{w w':World}{d K:Nat}{P:Nat→Prop}{st:Dk}(h:DS w d P K st)(hk:Keeps P w w'):DS w' d P K st:=by
 obtain ⟨F,q,h1,h2,h3⟩:=h
 exact ⟨F,q,h1.keeps hk (fun k hf=>(h3 k hf).1),h2,fun k hf=>⟨(h3 k hf).1,Nat.lt_of_lt_of_le (h3 k hf).2 hk.size⟩⟩
theorem VS.store{w w':World}{vp dp K:Nat}{P:Nat→Prop}{d:Dk}{v:Vl}(h:VS w vp dp P K d v)(hk:Keeps P w w'):VS w' vp dp P K d v:=by
 obtain ⟨ix,vx,h1,h2,h3,h4⟩:=h
 exact ⟨ix,vx,h1.keeps hk (fun k hf e=>(h3 k hf).1 e),h2.keepsP (hk.mono fun k _ e=>.inl e),fun k hf=>⟨(h3 k hf).1,Nat.lt_of_lt_of_le (h3 k hf).2 hk.size⟩,h4⟩
theorem VS.disk{w:World}{vp dp K:Nat}{P:Nat→Prop}{d:Dk}{v:Vl}(h:VS w vp dp P K d v)(hP:∀ k,P k→k<w.heap.size):∃ R:Nat→Prop,DS w dp R K d∧(∀ k,P k→R k)∧(∀ k,R k→k<w.heap.size)∧∀ w' K' d',DTo w w' dp R K' d'→VS w' vp dp P K' d' v∧KP P w w':=by
 obtain ⟨ix,vx,h1,h2,h3,h4⟩:=h
 refine ⟨_,h2,fun k hk=>.inl hk,fun k hk=>hk.elim (hP k) (fun e=>(h3 k e).2),fun w' K' d' ht=>⟨⟨ix,vx,h1.keeps ht.2 (fun k hf e=>e (.inr hf)),ht.1,fun k hf=>⟨(h3 k hf).1,Nat.lt_of_lt_of_le (h3 k hf).2 ht.2.size⟩,h4⟩,ht.2.mono fun k _ hk=>.inl hk⟩⟩
def WrAt (w:World) (P:Nat→Prop) (wb dp vp:Nat) (c:Ck) (step:Nat):Prop:=
 ∃ a cap,CkW w wb dp vp c a cap step∧Reads w 5 (.slice a c.l.length cap) c.l.length (c.l.flatMap psC)∧(∀ k,(Value.slice a c.l.length cap).ownBlock=some k→P k∧k<w.heap.size∧k≠wb)∧P wb
def CkTo (w:World) (P:Nat→Prop) (wb dp vp K:Nat) (d:Dk) (v:Vl) (c:Ck) (step:Nat) (e:Ending) (w':World):Prop:=
 e=.returned (.tuple #[.bool ((ckDo c step d).1 == 0 && step == 4),errV (ckDo c step d).1])∧∃ Q:Nat→Prop,(∀ k,P k→Q k)∧(∀ k,Q k→k<w'.heap.size)∧VS w' vp dp Q (K+2) (ckDo c step d).2 v∧WrAt w' Q wb dp vp c (if (ckDo c step d).1=0 then step+1 else 5)∧KP (fun k=>P k∧k≠wb) w w'
theorem ckstep_over{w:World}{wb dp vp cap:Nat}{c:Ck}{a:Option Addr}(h:CkW w wb dp vp c a cap 5):Calls Tryz.prog 31 #[(.pointer (some ⟨wb,0,none⟩))] w fun e w'=>e=.returned (.tuple #[.bool false,errV 16])∧w=w':=by
 obtain ⟨s0,s1,s2,s3,s4,s5,s6⟩:=cells7' h
 have hlt:=blk_lt h
 go_enter Tryz.func31,Tryz.ntmps31
 go_wp2_with fail
 refine bodyPost_ret (v:=?_) ?_ rfl ?_
 rotate_left;(focus (simp [results,Tryz.results31,go_sem];exact rfl))
 exact ⟨rfl,rfl⟩
theorem cknew_any(dp vp:Nat)(w:World):Calls Tryz.prog 30 #[(.pointer (some ⟨dp,0,none⟩)),(.pointer (some ⟨vp,0,none⟩))] w fun e w'=>e=.returned (.tuple #[(.pointer (some ⟨w.heap.size,0,none⟩)),.nilIface])∧CkW w' w.heap.size dp vp ⟨0,0,0,[]⟩ none 0 0∧Below w.heap.size w w':=by
 go_enter Tryz.func30,Tryz.ntmps30
 go_wp2_with fail
 refine bodyPost_ret (v:=?_) ?_ rfl ?_
 rotate_left;(focus (simp [results,Tryz.results30,go_sem];exact rfl))
 exact ⟨rfl,heap_new w _,(Below.refl _ _).alloc (Nat.le_refl _) _⟩
theorem ckstep_next{w:World}{wb dp vp step K:Nat}{P:Nat→Prop}{d:Dk}{v:Vl}{c:Ck}(hv:VS w vp dp P K d v)(hw:WrAt w P wb dp vp c step)(hP:∀ k,P k→k<w.heap.size)(hK:K+2<1099511627776)(hs1:1≤step)(hst:step≤4)(hg:c.gen=v.gen)
  (h0:NamesAt c.vol 0) (h1:NamesAt c.vol c.gen) (hl0:(cName c.vol 0).length≤maxLen) (hl1:(cName c.vol c.gen).length≤maxLen) (hln:c.l.length≤1000000000) (hck:∀ p∈c.l,p.key<18446744073709551616∧p.cookie<4294967296) :
  Calls Tryz.prog 31 #[(.pointer (some ⟨wb,0,none⟩))] w (CkTo w P wb dp vp K d v c step):=by
 have HV0:=Hd hv
 have HW0:=Hd hw
 have HP0:=Hd hP
 have HN0:=Hd h0
 have HN1:=Hd h1
 have HL0:=Hd hl0
 have HL1:=Hd hl1
 have HLN:=Hd hln
 have HCK:=Hd hck
 have HSN:=Hd (show ∀ w0:World,Below w.heap.size w w0→Calls Tryz.prog 68 #[(.pointer (some ⟨vp,0,none⟩))] w0 (SnapTo w0 v) from fun w0 hb=>by
  obtain ⟨ix,vx,g1,-⟩:=hv
  exact snap_any (g1.below hb))
 unfold CkTo
 obtain ⟨a,cap,hcw,-,-,hpw⟩:=hw
 have HC0:=Hd hcw
 obtain ⟨s0,s1,s2,s3,s4,s5,s6⟩:=cells7' hcw
 have hlt:=blk_lt hcw
 have n5:((step:Int) == 5)=false:=by simp;omega
 have n0:((step:Int) == 0)=false:=by simp;omega
 have n6:(step == 5)=false:=by simp;omega
 have n7:(step == 0)=false:=by simp;omega
 have hgb:((v.gen:Int) != (c.gen:Int))=false:=by simp [hg]
 unfold SnapTo at HSN
 have HGB:=Hd hg
 clear hv hP h0 h1 hl0 hl1 hln hck hcw hpw hg
 obtain ⟨k,hk⟩:∃ k,k=(ckDo c step d).1:=⟨_,rfl⟩
 obtain ⟨d2,hd2⟩:∃ d2,d2=(ckDo c step d).2:=⟨_,rfl⟩
 rw [←hk,←hd2]
 have HKE:=Hd hk
 have HDE:=Hd hd2
 obtain ⟨NX,hNX⟩:∃ NX,NX=if k=0 then step+1 else 5:=⟨_,rfl⟩
 obtain ⟨DN,hDN⟩:∃ DN,DN=(k == 0 && step == 4):=⟨_,rfl⟩
 rw [←hNX,←hDN]
 have HNX:=Hd hNX
 have HDN:=Hd hDN
 clear hk hd2 hNX hDN
 go_enter Tryz.func31,Tryz.ntmps31
 go_upto_region 7 with fail
 obtain ⟨SS,HSD⟩:∃ SS:World→Prop,Hid (SS=fun w'=>Below w.heap.size w w'):=⟨_,Hd rfl⟩
 refine wp_region_mask0 SS [3,10] [0,1,3,7,15,31,0,64,192,448,960,2047,4095] (.op 0 0 (.op 1 0 (.op 2 0 (.op 3 2 (.op 6 0 (.op 7 0 (.op 8 0 (.op 9 0 (.op 10 2 (.op 4 1 (.op 5 0 (.op 11 0 (.op 12 0 .nil))))))))))))) (by kernel_rfl) (by kernel_rfl) rfl (by kernel_rfl) (by kernel_rfl) ?_ ?_
 (focus (rw [HSD.out];exact Below.drew (Below.refl _ _)));(iterate 3 refine stepM0 rfl rfl fun K hK=>?_;go_simp;refine hK _ ?_;clear hK K);refine stepM2 rfl rfl ?_ (fun w1 hS=>?_) fun K hK=>?_;rotate_left;(focus (rw [HSD.out] at hS;obtain ⟨s0,s1,s2,s3,s4,s5,s6⟩:=cells7' (blk_below' HC0.out hS);have hlt:=blk_lt (blk_below' HC0.out hS);go_simp;rfl));go_simp;refine hK _ ?_;clear hK K;(iterate 4 refine stepM0 rfl rfl fun K hK=>?_;go_simp;refine hK _ ?_;clear hK K);refine stepM2 rfl rfl ?_ (fun w1 hS=>?_) fun K hK=>?_;rotate_left;(focus (rw [HSD.out] at hS;obtain ⟨s0,s1,s2,s3,s4,s5,s6⟩:=cells7' (blk_below' HC0.out hS);have hlt:=blk_lt (blk_below' HC0.out hS);go_simp;rfl));go_simp;refine hK _ ?_;clear hK K;refine stepM1S rfl rfl fun K hK=>?_
 go_wp2_with fail;refine (HSN.out _ (Below.drew (Below.refl _ _))).mono ?_;rintro e wA ⟨vl,rfl,ho,hb⟩;have HBA:=Hd ((Below.drew (Below.refl w.heap.size w)).trans hb);clear ho hb;have hfd:∀ w:World,(Instr.field 159 (.agg #[.int .i64 v.num,.int .i64 v.gen,.int .i64 v.size,vl]) 1).run Tryz.prog w=.ok (.int .i64 v.gen) w:=(fun _=>by kernel_rfl);go_wp2
 refine ⟨by rw [HSD.out];exact (HBA.out),?_⟩
 (iterate 3 refine stepM0 rfl rfl fun K hK=>?_;go_simp;refine hK _ ?_;clear hK K)
 try refine stepMnil0 ?_
 clear HSD SS
 obtain ⟨Q,hQ⟩:∃ Q:Nat→Prop,Q=P:=⟨_,rfl⟩
 have HPQ:=Hd (show ∀ j,P j→Q j from fun j h=>hQ ▸ h)
 have HQL:=Hd (show ∀ j,Q j→j<wA.heap.size from fun j h=>Nat.lt_of_lt_of_le (HP0.out j (hQ ▸ h)) HBA.out.size)
 have HVS:=Hd (show VS wA vp dp Q K d v from hQ ▸ HV0.out.below HBA.out)
 have HWR:=Hd (show WrAt wA Q wb dp vp c step by
  obtain ⟨a1,c1,g1,g2,g3,g4⟩:=HW0.out
  exact ⟨a1,c1,blk_below' g1 HBA.out,g2.below HBA.out,fun k hk=>⟨hQ ▸ (g3 k hk).1,Nat.lt_of_lt_of_le (g3 k hk).2.1 HBA.out.size,(g3 k hk).2.2⟩,hQ ▸ g4⟩)
 have HKA:=Hd (show KP (fun j=>P j∧j≠wb) w wA from KP.of HBA.out)
 clear hQ s0 s1 s2 s3 s4 s5 s6 hlt
 obtain ⟨R,HDS,hQR,hRl,hRT⟩:=HVS.out.disk HQL.out
 have HRT:=Hd hRT
 obtain ⟨ar,cr,hcw,hrr,hrb,hqw⟩:=HWR.out
 have HRB:=Hd hrb
 have HQW:=Hd hqw
 have HRR:=Hd hrr
 have HDO:=Hd (ckdo_ds hcw HDS hK hRl (hQR _ hqw) HN0.out HN1.out HL0.out HL1.out hrr HLN.out HCK.out hst)
 have HCW:=Hd hcw
 clear HDS hQR hRl hRT hcw hrr hrb hqw
 rw [←HKE.out,←HDE.out] at HDO
 go_wp2_with fail
 refine HDO.out.mono ?_
 rintro e w2 ⟨rfl,ht⟩
 obtain ⟨hv2,hk2⟩:=HRT.out _ _ _ ht
 have HV2:=Hd hv2
 have HK2:=Hd hk2
 have HW2:=Hd (show CkW w2 wb dp vp c ar cr step from KP.blk hk2 HCW.out HQW.out)
 have HRR2:=Hd (show Reads w2 5 (.slice ar c.l.length cr) c.l.length (c.l.flatMap psC) from HRR.out.keepsN (by omega) hk2 (fun x e=>by
  have:=HRB.out x.block (by rw [e];rfl)
  exact ⟨this.2.1,fun e2=>e2 this.1⟩))
 clear ht hv2 hk2
 obtain ⟨s0,s1,s2,s3,s4,s5,s6⟩:=cells7' HW2.out
 obtain ⟨f0,f1,f2,f3,f4,f5,f6⟩:=free7 HW2.out
 have hlt:=blk_lt HW2.out
 have HOUT:=Hd (show ∀ (x:Nat) (kk:Nat),kk=x→∃ Q2:Nat→Prop,(∀ j,P j→Q2 j)∧(∀ j,Q2 j→j<(w2.setCell ⟨wb,6,none⟩ (.int .i64 x)).heap.size)∧VS (w2.setCell ⟨wb,6,none⟩ (.int .i64 x)) vp dp Q2 (K+2) d2 v∧WrAt (w2.setCell ⟨wb,6,none⟩ (.int .i64 x)) Q2 wb dp vp c kk∧KP (fun j=>P j∧j≠wb) w (w2.setCell ⟨wb,6,none⟩ (.int .i64 x)) from fun x kk hkk=>by
  rw [hkk]
  clear hkk
  have hke:Keeps (fun j=>j=wb) w2 (w2.setCell ⟨wb,6,none⟩ (.int .i64 x)):=(Keeps.refl (fun j=>j=wb) w2).setCell ⟨wb,6,none⟩ _ (fun _=>rfl)
  refine ⟨Q,HPQ.out,fun j hj=>(by have h1:=HQL.out j hj;have h2:=HK2.out.size;have h3:=hke.size;omega),HV2.out.store (hke.mono fun j _ e=>by have e':j=wb:=e;rw [e'];exact HQW.out),⟨ar,cr,?_,?_,?_,HQW.out⟩,?_⟩
  ·have:=heap_setCell_same w2 wb 6 _ _ (.int .i64 x) HW2.out
   simpa [CkW] using this
  ·exact HRR2.out.keepsN (by omega) hke (fun y e=>by
    have:=HRB.out y.block (by rw [e];rfl)
    exact ⟨Nat.lt_of_lt_of_le this.2.1 HK2.out.size,this.2.2⟩)
  ·intro j hj
   have:=HRB.out j hj
   exact ⟨this.1,Nat.lt_of_lt_of_le this.2.1 (Nat.le_trans HK2.out.size hke.size),this.2.2⟩
  ·exact HKA.out.trans ((HK2.out.mono fun j _ hj=>HPQ.out j hj.1).trans (hke.mono fun j _ e e2=>e2.2 e)))
 by_cases hk0:k=0
 case pos=>
  have HKZ:=Hd hk0
  rw [hk0,show errV ((0:Nat):Int)=.nilIface from rfl]
  clear hk0
  have hws:IntKind.i64.wrap ((step:Int)+1)=((step+1:Nat):Int):=by rw [IntKind.wrap_i64];omega
  have hws2:IntKind.i64.wrap (step:Int)=(step:Int):=by rw [IntKind.wrap_i64];omega
  by_cases h4:step=4
  ·subst h4
   go_wp2_with fail
   refine bodyPost_ret (v:=?_) ?_ rfl ?_
   rotate_left;(focus (simp [results,Tryz.results31,go_sem];exact rfl))
   exact ⟨by rw [HDN.out,HKZ.out];rfl,HOUT.out 5 _ (by rw [HNX.out,if_pos HKZ.out])⟩
  ·have d1:(((step+1:Nat):Int) == 5)=false:=by simp;omega
   have d2:((step:Int)+1 == 5)=false:=by simp;omega
   have d3:(step == 4)=false:=by simpa using h4
   clear h4
   go_wp2_with fail
   refine bodyPost_ret (v:=?_) ?_ rfl ?_
   rotate_left;(focus (simp [results,Tryz.results31,go_sem];exact rfl))
   exact ⟨by rw [HDN.out,HKZ.out,d3];rfl,HOUT.out (step+1) _ (by rw [HNX.out,if_pos HKZ.out])⟩
 have HNE:=Hd (errV_ne (k:=(k:Int)) (by omega))
 have HKN:=Hd hk0
 rw [HNE.out]
 clear hk0
 go_wp2_with fail
 refine bodyPost_ret (v:=?_) ?_ rfl ?_
 rotate_left;(focus (simp [results,Tryz.results31,go_sem];exact rfl))
 exact ⟨by rw [HDN.out,show (k == 0)=false by simpa using HKN.out,HNE.out];rfl,HOUT.out 5 _ (by rw [HNX.out,if_neg HKN.out])⟩
theorem set7_4{w:World}{b:Nat}{v0 v1 v2 v3 v4 v5 v6:Value}{t:TypeId}(h:w.heap[b]? = some (.cells #[v0,v1,v2,v3,v4,v5,v6] t (0,0)))(u2 u3 u4 u5:Value):((((w.setCell ⟨b,2,none⟩ u2).setCell ⟨b,3,none⟩ u3).setCell ⟨b,4,none⟩ u4).setCell ⟨b,5,none⟩ u5).heap[b]? = some (.cells #[v0,v1,u2,u3,u4,u5,v6] t (0,0)):=by
 have h0:(w.setCell ⟨b,2,none⟩ u2).heap[b]? = some (.cells #[v0,v1,u2,v3,v4,v5,v6] t (0,0)):=by simpa using heap_setCell_same w b 2 _ t u2 h
 have h1:((w.setCell ⟨b,2,none⟩ u2).setCell ⟨b,3,none⟩ u3).heap[b]? = some (.cells #[v0,v1,u2,u3,v4,v5,v6] t (0,0)):=by simpa using heap_setCell_same _ b 3 _ t u3 h0
 have h2:(((w.setCell ⟨b,2,none⟩ u2).setCell ⟨b,3,none⟩ u3).setCell ⟨b,4,none⟩ u4).heap[b]? = some (.cells #[v0,v1,u2,u3,u4,v5,v6] t (0,0)):=by simpa using heap_setCell_same _ b 4 _ t u4 h1
 simpa using heap_setCell_same _ b 5 _ t u5 h2
theorem ckstep_first{w:World}{wb dp vp step K cap0:Nat}{a0:Option Addr}{P:Nat→Prop}{d:Dk}{v:Vl}{c0:Ck}(hv:VS w vp dp P K d v)(hcw:CkW w wb dp vp c0 a0 cap0 step)(hpw:P wb)(hP:∀ k,P k→k<w.heap.size)(hK:K+2<1099511627776)(hs0:step=0)
  (h0:NamesAt v.num 0) (h1:NamesAt v.num v.gen) (hl0:(cName v.num 0).length≤maxLen) (hl1:(cName v.num v.gen).length≤maxLen) (hln:v.idx.length≤1000000000) (hck:∀ p∈v.idx,p.key<18446744073709551616∧p.cookie<4294967296) :
  Calls Tryz.prog 31 #[(.pointer (some ⟨wb,0,none⟩))] w (CkTo w P wb dp vp K d v (ckSnap v) step):=by
 have hst:step≤4:=by omega
 have HV0:=Hd hv
 have HP0:=Hd hP
 have HSN:=Hd (show ∀ w0:World,Below w.heap.size w w0→Calls Tryz.prog 68 #[(.pointer (some ⟨vp,0,none⟩))] w0 (SnapTo w0 v) from fun w0 hb=>by
  obtain ⟨ix,vx,g1,-⟩:=hv
  exact snap_any (g1.below hb))
 obtain ⟨c,hc⟩:∃ c,c=ckSnap v:=⟨_,rfl⟩
 have HN0:=Hd (show NamesAt c.vol 0 by rw [hc];exact h0)
 have HN1:=Hd (show NamesAt c.vol c.gen by rw [hc];exact h1)
 have HL0:=Hd (show (cName c.vol 0).length≤maxLen by rw [hc];exact hl0)
 have HL1:=Hd (show (cName c.vol c.gen).length≤maxLen by rw [hc];exact hl1)
 have HLN:=Hd (show c.l.length≤1000000000 by rw [hc];exact hln)
 have HCK:=Hd (show ∀ p∈c.l,p.key<18446744073709551616∧p.cookie<4294967296 by rw [hc];exact hck)
 have HC:=Hd hc
 rw [←hc]
 unfold CkTo
 have HC0:=Hd hcw
 have HPW:=Hd hpw
 obtain ⟨s0,s1,s2,s3,s4,s5,s6⟩:=cells7' hcw
 have hlt:wb<w.heap.size:=blk_lt hcw
 have n5:((step:Int) == 5)=false:=by simp;omega
 have n0:((step:Int) == 0)=true:=by simp;omega
 have n6:(step == 5)=false:=by simp;omega
 have n7:(step == 0)=true:=by simp;omega
 unfold SnapTo at HSN
 have HSZ:=Hd hs0
 clear hv hP h0 h1 hl0 hl1 hln hck hcw hpw hc hs0
 obtain ⟨k,hk⟩:∃ k,k=(ckDo c step d).1:=⟨_,rfl⟩
 obtain ⟨d2,hd2⟩:∃ d2,d2=(ckDo c step d).2:=⟨_,rfl⟩
 rw [←hk,←hd2]
 have HKE:=Hd hk
 have HDE:=Hd hd2
 obtain ⟨NX,hNX⟩:∃ NX,NX=if k=0 then step+1 else 5:=⟨_,rfl⟩
 obtain ⟨DN,hDN⟩:∃ DN,DN=(k == 0 && step == 4):=⟨_,rfl⟩
 rw [←hNX,←hDN]
 have HNX:=Hd hNX
 have HDN:=Hd hDN
 clear hk hd2 hNX hDN
 go_enter Tryz.func31,Tryz.ntmps31
 go_wp2_with fail
 refine (HSN.out w (Below.refl _ _)).mono ?_
 rintro e w1 ⟨vl,rfl,ho,hb⟩
 obtain ⟨sa,cs,rfl,hcs⟩:=slice_of ho
 have HO:=Hd ho
 have HB1:=Hd hb
 have HC1:=Hd (show CkW w1 wb dp vp c0 a0 cap0 step from blk_below' HC0.out hb)
 have hz1:=hb.size
 clear ho hb s0 s1 s2 s3 s4 s5 s6
 obtain ⟨s0,s1,s2,s3,s4,s5,s6⟩:=cells7' HC1.out
 obtain ⟨f0,f1,f2,f3,f4,f5,f6⟩:=free7 HC1.out
 have hlt1:wb<w1.heap.size:=blk_lt HC1.out
 go_upto_region 13 with fail
 obtain ⟨wA,hwA⟩:∃ wA,wA=(((w1.setCell ⟨wb,2,none⟩ (.int .i64 v.num)).setCell ⟨wb,3,none⟩ (.int .i64 v.gen)).setCell ⟨wb,4,none⟩ (.int .i64 v.size)).setCell ⟨wb,5,none⟩ (.slice sa v.idx.length cs):=⟨_,rfl⟩
 have hke:Keeps (fun j=>j=wb) w1 wA:=by rw [hwA];exact ((((Keeps.refl (fun j=>j=wb) w1).setCell ⟨wb,2,none⟩ _ (fun _=>rfl)).setCell ⟨wb,3,none⟩ _ (fun _=>rfl)).setCell ⟨wb,4,none⟩ _ (fun _=>rfl)).setCell ⟨wb,5,none⟩ _ (fun _=>rfl)
 have HCA:=Hd (show CkW wA wb dp vp c sa cs step by
  have g4:=set7_4 HC1.out (.int .i64 v.num) (.int .i64 v.gen) (.int .i64 v.size) (.slice sa v.idx.length cs)
  rw [hwA,HC.out]
  exact g4)
 obtain ⟨Q,hQ⟩:∃ Q:Nat→Prop,Q=fun k=>P k∨(w.heap.size≤k∧k<w1.heap.size):=⟨_,rfl⟩
 have HPQ:=Hd (show ∀ j,P j→Q j from fun j h=>by rw [hQ];exact .inl h)
 have HQL:=Hd (show ∀ j,Q j→j<wA.heap.size from fun j h=>by
  rw [hQ] at h
  have h2:=hke.size
  rcases h with h|h
  ·have:=HP0.out j h
   omega
  ·omega)
 have HVS:=Hd (show VS wA vp dp Q K d v from (HV0.out.later (R:=Q) HB1.out (fun j h=>by rw [hQ] at h;exact h.imp id (fun e=>e.1))).store (hke.mono fun j _ e=>by have e':j=wb:=e;rw [e'];exact HPQ.out wb HPW.out))
 have HWR:=Hd (show WrAt wA Q wb dp vp c step by
  have hown:∀ j,(Value.slice sa v.idx.length cs).ownBlock=some j→w.heap.size≤j∧j<w1.heap.size:=fun j hj=>HO.out.lt j hj
  refine ⟨sa,cs,HCA.out,?_,?_,HPQ.out wb HPW.out⟩
  ·have g:=(reads_of_owns HO.out).keepsN (by omega) hke (fun y e=>by
    have:=hown y.block (by rw [e];rfl)
    exact ⟨this.2,by have:=this.1;omega⟩)
   rw [HC.out]
   exact g
  ·intro j hj
   have:=hown j (by rw [HC.out] at hj;exact hj)
   refine ⟨?_,Nat.lt_of_lt_of_le this.2 hke.size,by omega⟩
   rw [hQ]
   exact .inr this)
 have HKA:=Hd (show KP (fun j=>P j∧j≠wb) w wA from (KP.of HB1.out).trans (hke.mono fun j _ e e2=>e2.2 e))
 rw [←hwA]
 clear hwA hke hQ s0 s1 s2 s3 s4 s5 s6 f0 f1 f2 f3 f4 f5 f6 hlt hlt1
 obtain ⟨R,HDS,hQR,hRl,hRT⟩:=HVS.out.disk HQL.out
 have HRT:=Hd hRT
 obtain ⟨ar,cr,hcw,hrr,hrb,hqw⟩:=HWR.out
 have HRB:=Hd hrb
 have HQW:=Hd hqw
 have HRR:=Hd hrr
 have HDO:=Hd (ckdo_ds hcw HDS hK hRl (hQR _ hqw) HN0.out HN1.out HL0.out HL1.out hrr HLN.out HCK.out hst)
 have HCW:=Hd hcw
 clear HDS hQR hRl hRT hcw hrr hrb hqw
 rw [←HKE.out,←HDE.out] at HDO
 go_wp2_with fail
 refine HDO.out.mono ?_
 rintro e w2 ⟨rfl,ht⟩
 obtain ⟨hv2,hk2⟩:=HRT.out _ _ _ ht
 have HV2:=Hd hv2
 have HK2:=Hd hk2
 have HW2:=Hd (show CkW w2 wb dp vp c ar cr step from KP.blk hk2 HCW.out HQW.out)
 have HRR2:=Hd (show Reads w2 5 (.slice ar c.l.length cr) c.l.length (c.l.flatMap psC) from HRR.out.keepsN (by omega) hk2 (fun x e=>by
  have:=HRB.out x.block (by rw [e];rfl)
  exact ⟨this.2.1,fun e2=>e2 this.1⟩))
 clear ht hv2 hk2
 obtain ⟨s0,s1,s2,s3,s4,s5,s6⟩:=cells7' HW2.out
 obtain ⟨f0,f1,f2,f3,f4,f5,f6⟩:=free7 HW2.out
 have hlt:=blk_lt HW2.out
 have HOUT:=Hd (show ∀ (x:Nat) (kk:Nat),kk=x→∃ Q2:Nat→Prop,(∀ j,P j→Q2 j)∧(∀ j,Q2 j→j<(w2.setCell ⟨wb,6,none⟩ (.int .i64 x)).heap.size)∧VS (w2.setCell ⟨wb,6,none⟩ (.int .i64 x)) vp dp Q2 (K+2) d2 v∧WrAt (w2.setCell ⟨wb,6,none⟩ (.int .i64 x)) Q2 wb dp vp c kk∧KP (fun j=>P j∧j≠wb) w (w2.setCell ⟨wb,6,none⟩ (.int .i64 x)) from fun x kk hkk=>by
  rw [hkk]
  clear hkk
  have hke:Keeps (fun j=>j=wb) w2 (w2.setCell ⟨wb,6,none⟩ (.int .i64 x)):=(Keeps.refl (fun j=>j=wb) w2).setCell ⟨wb,6,none⟩ _ (fun _=>rfl)
  refine ⟨Q,HPQ.out,fun j hj=>(by have h1:=HQL.out j hj;have h2:=HK2.out.size;have h3:=hke.size;omega),HV2.out.store (hke.mono fun j _ e=>by have e':j=wb:=e;rw [e'];exact HQW.out),⟨ar,cr,?_,?_,?_,HQW.out⟩,?_⟩
  ·have:=heap_setCell_same w2 wb 6 _ _ (.int .i64 x) HW2.out
   simpa [CkW] using this
  ·exact HRR2.out.keepsN (by omega) hke (fun y e=>by
    have:=HRB.out y.block (by rw [e];rfl)
    exact ⟨Nat.lt_of_lt_of_le this.2.1 HK2.out.size,this.2.2⟩)
  ·intro j hj
   have:=HRB.out j hj
   exact ⟨this.1,Nat.lt_of_lt_of_le this.2.1 (Nat.le_trans HK2.out.size hke.size),this.2.2⟩
  ·exact HKA.out.trans ((HK2.out.mono fun j _ hj=>HPQ.out j hj.1).trans (hke.mono fun j _ e e2=>e2.2 e)))
 by_cases hk0:k=0
 case pos=>
  have HKZ:=Hd hk0
  rw [hk0,show errV ((0:Nat):Int)=.nilIface from rfl]
  clear hk0
  have hws:IntKind.i64.wrap ((step:Int)+1)=((step+1:Nat):Int):=by rw [IntKind.wrap_i64];omega
  have hws2:IntKind.i64.wrap (step:Int)=(step:Int):=by rw [IntKind.wrap_i64];omega
  by_cases h4:step=4
  ·subst h4
   go_wp2_with fail
   refine bodyPost_ret (v:=?_) ?_ rfl ?_
   rotate_left;(focus (simp [results,Tryz.results31,go_sem];exact rfl))
   exact ⟨by rw [HDN.out,HKZ.out];rfl,HOUT.out 5 _ (by rw [HNX.out,if_pos HKZ.out])⟩
  ·have d1:(((step+1:Nat):Int) == 5)=false:=by simp;omega
   have d2:((step:Int)+1 == 5)=false:=by simp;omega
   have d3:(step == 4)=false:=by simpa using h4
   clear h4
   go_wp2_with fail
   refine bodyPost_ret (v:=?_) ?_ rfl ?_
   rotate_left;(focus (simp [results,Tryz.results31,go_sem];exact rfl))
   exact ⟨by rw [HDN.out,HKZ.out,d3];rfl,HOUT.out (step+1) _ (by rw [HNX.out,if_pos HKZ.out])⟩
 have HNE:=Hd (errV_ne (k:=(k:Int)) (by omega))
 have HKN:=Hd hk0
 rw [HNE.out]
 clear hk0
 go_wp2_with fail
 refine bodyPost_ret (v:=?_) ?_ rfl ?_
 rotate_left;(focus (simp [results,Tryz.results31,go_sem];exact rfl))
 exact ⟨by rw [HDN.out,show (k == 0)=false by simpa using HKN.out,HNE.out];rfl,HOUT.out 5 _ (by rw [HNX.out,if_neg HKN.out])⟩
end Go.Proofs.YtfpjfoajonbndaaGreatDoor
