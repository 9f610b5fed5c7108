import Derived.Test.YtfpjfoajonbndaaGreatDoorCh17
import Derived.Test.YtfpjfoajonbndaaGreatDoorCh16
namespace Go.Proofs.YtfpjfoajonbndaaGreatDoor
set_option maxHeartbeats 8000000
set_option maxRecDepth 100000
open Go.RowKit
set_option maxRecDepth 100000
set_option maxHeartbeats 8000000
open Go.RowKit
theorem v_ne_c(v g v' g':Nat):vName v g≠cName v' g':=fun e=>by injection e with e _;exact absurd e (by decide)
theorem c_ne_m(v g u:Nat):cName v g≠mName u:=fun e=>by injection e with e _;exact absurd e (by decide)
theorem c_ne_s(v g u:Nat):cName v g≠sName u:=fun e=>by injection e with e _;exact absurd e (by decide)
theorem beq_no{a b:Nm}(h:a≠b):(a == b)=false:=by simpa using h
def OursAt (v:Vl) (s:Nm) (b:Bool):Prop:=∀ (w:World) (vp dp ix:Nat) (vx:Value),VolAt w vp dp ix vx v→Calls Tryz.prog 112 #[(.pointer (some ⟨vp,0,none⟩)),.string ⟨s.toArray⟩] w fun e w'=>e=.returned (.bool b)∧Below w.heap.size w w'
theorem ours_own{v:Vl}(hn:NamesAt v.num v.gen){s:Nm}{b:Bool}(hs:(b=false∧(s=v.file∨s=cName v.num v.gen∨s=mName v.num))∨(b=true∧s=sName v.num)):OursAt v s b:=by
 intro w vp dp ix vx h
 obtain ⟨c0,c1,c2,c3,c4,c5,c6,c7⟩:=h.cells
 have HN:=Hd hn
 have HNV:=Hd (show namesV v.num v.gen=.tuple #[.string ⟨v.file.toArray⟩,.string ⟨(cName v.num v.gen).toArray⟩,.string ⟨(mName v.num).toArray⟩,.string ⟨(sName v.num).toArray⟩] from rfl)
 obtain ⟨V,hV⟩:∃ V,V=v.file:=⟨_,rfl⟩
 obtain ⟨C,hC⟩:∃ C,C=cName v.num v.gen:=⟨_,rfl⟩
 obtain ⟨M,hM⟩:∃ M,M=mName v.num:=⟨_,rfl⟩
 obtain ⟨S,hS⟩:∃ S,S=sName v.num:=⟨_,rfl⟩
 have n1:(C == V)=false:=by rw [hC,hV];exact beq_no (fun e=>v_ne_c _ _ _ _ e.symm)
 have n2:(M == V)=false:=by rw [hM,hV];exact beq_no (fun e=>v_ne_m _ _ _ e.symm)
 have n3:(M == C)=false:=by rw [hM,hC];exact beq_no (fun e=>c_ne_m _ _ _ e.symm)
 have n4:(S == V)=false:=by rw [hS,hV];exact beq_no (fun e=>v_ne_s _ _ _ e.symm)
 have n5:(S == C)=false:=by rw [hS,hC];exact beq_no (fun e=>c_ne_s _ _ _ e.symm)
 have n6:(S == M)=false:=by rw [hS,hM];exact beq_no (fun e=>s_ne_m _ e)
 have nv:(V == V)=true:=by simp
 have nc:(C == C)=true:=by simp
 have nm:(M == M)=true:=by simp
 have ns:(S == S)=true:=by simp
 rw [←hV,←hC,←hM,←hS] at HNV hs
 clear h hn hV hC hM hS
 rcases hs with ⟨rfl,rfl|rfl|rfl⟩|⟨rfl,rfl⟩
 all_goals
  go_enter Tryz.func112,Tryz.ntmps112
  go_upto_region 1 with fail
  obtain ⟨SS,HSD⟩:∃ SS:World→Prop,Hid (SS=fun w'=>w'.cell? ⟨vp,1,none⟩=some (.int .i64 v.num)∧w'.cell? ⟨vp,2,none⟩=some (.int .i64 v.gen)):=⟨_,Hd rfl⟩
  refine wp_region_mask0 SS [4,9] [0,1,3,7,15,0,32,96,224,480,1023,2047,4095,4095,4095,4095,8191,81919,229375,524287] (.op 0 0 (.op 1 0 (.op 2 0 (.op 3 0 (.op 4 2 (.op 5 0 (.op 6 0 (.op 7 0 (.op 8 0 (.op 9 2 (.op 10 1 (.op 11 0 (.op 12 0 (.op 13 0 (.op 14 0 (.op 15 0 (.op 16 0 (.op 17 0 (.op 18 0 (.op 19 0 .nil)))))))))))))))))))) (by kernel_rfl) (by kernel_rfl) rfl (by kernel_rfl) (by kernel_rfl) ?_ ?_
  (focus (rw [HSD.out];exact ⟨c1,c2⟩));(iterate 4 refine stepM0 rfl rfl fun K hK=>?_;go_simp;refine hK _ ?_;clear hK K);refine stepM2 rfl rfl ?_ (fun w1 hS=>?_) fun K hK=>?_;rotate_left;(focus (rw [HSD.out] at hS;obtain ⟨s1,s2⟩:=hS;go_simp;rfl));go_simp;refine hK _ ?_;clear hK K;(iterate 4 refine stepM0 rfl rfl fun K hK=>?_;go_simp;refine hK _ ?_;clear hK K);refine stepM2 rfl rfl ?_ (fun w1 hS=>?_) fun K hK=>?_;rotate_left;(focus (rw [HSD.out] at hS;obtain ⟨s1,s2⟩:=hS;go_simp;rfl));go_simp;refine hK _ ?_;clear hK K;refine stepM1 rfl rfl (by kernel_rfl) fun K hK=>?_
  (go_wp2_with fail;refine Calls.mono (HN.out _) ?_;rintro e w2 ⟨rfl,rfl⟩;rw [HNV.out];go_wp2)
  (iterate 9 refine stepM0 rfl rfl fun K hK=>?_;go_simp;refine hK _ ?_;clear hK K)
  try refine stepMnil0 ?_
  clear HSD SS
  go_wp2
  go_ret
  exact ⟨rfl,belo⟩
theorem tidy_vs{w:World}{vp dp K:Nat}{P:Nat→Prop}{d:Dk}{v:Vl}(h:VS w vp dp P K d v)(hP:∀ k,P k→k<w.heap.size)(o:Nm→Bool)(ho:∀ s∈namesOf d.now,OursAt v s (o s)∧s.length≤maxLen)(hK:K+64<1099511627776) :
  Calls Tryz.prog 62 #[(.pointer (some ⟨vp,0,none⟩))] w fun e w'=>e=.returned (errV (Dk.tidyL o (namesOf d.now) false d).1)∧VTo w w' vp dp P (K+64) (Dk.tidyL o (namesOf d.now) false d).2 v:=by
 obtain ⟨ix,vx,hv,hds,hF,hok⟩:=h
 obtain ⟨c0,c1,c2,c3,c4,c5,c6,c7⟩:=hv.cells
 have hlt:=hv.lt
 have hn64:=hds.ok.lnow
 have HV:=Hd hv
 have HDS:=Hd hds
 have HFT:=Hd hF
 have HOK:=Hd hok
 have HPP:=Hd hP
 have HO:=Hd ho
 have HNL:=Hd (namesOf_len d.now)
 obtain ⟨L,hL⟩:∃ L,L=namesOf d.now:=⟨_,rfl⟩
 obtain ⟨N,hN⟩:∃ N,N=d.now.length:=⟨_,rfl⟩
 have HNM:=Hd (names_ds hds)
 rw [←hL,←hN] at HNM HNL
 rw [←hL] at HO ⊢
 rw [←hN] at hn64
 obtain ⟨R,hR⟩:∃ R,R=Dk.tidyL o L false d:=⟨_,rfl⟩
 rw [←hR]
 have HR:=Hd hR
 clear hv hds hF hok hP ho hL hN hR
 go_enter Tryz.func62,Tryz.ntmps62
 go_wp2_with fail
 refine HNM.out.mono ?_
 rintro e w1 ⟨vn,rfl,hon,hb1⟩
 have HON:=Hd hon
 have HB1:=Hd hb1
 have hz1:=hb1.size
 obtain ⟨an,cn,rfl,hnc⟩:=slice_of hon
 clear hon hb1
 obtain ⟨Q,hQ⟩:∃ Q:Nat→Prop,Q=fun k=>(P k∨VFoot vp ix vx k)∨(w.heap.size≤k∧k<w1.heap.size):=⟨_,rfl⟩
 have HQ:=Hd hQ
 have HQ1:=Hd (show ∀ k,Q k→k<w1.heap.size from fun k hk=>by
  rw [hQ] at hk
  rcases hk with (hk|hk)|hk
  ·have:=HPP.out k hk;omega
  ·have:=(HFT.out k hk).2;omega
  ·omega)
 have HQ2:=Hd (show ∀ k,(P k∨VFoot vp ix vx k)→Q k from fun k hk=>by rw [hQ];exact .inl hk)
 have HQ3:=Hd (show ∀ k,(Value.slice an N cn).ownBlock=some k→Q k from fun k hk=>by rw [hQ];exact .inr (HON.out.lt k hk))
 have HD1:=Hd (show DS w1 dp Q K d from HDS.out.later HB1.out (fun k hk=>by
  rw [HQ.out] at hk
  exact hk.imp id (fun h=>h.1)))
 have HV1:=Hd (HV.out.below HB1.out)
 have HOUT:=Hd (show ∀ (wr:World) (M:Nat) (x:Dk),DS wr dp Q M x→KP Q w1 wr→M≤K+64→VTo w wr vp dp P (K+64) x v from fun wr M x h1 h2 h3=>by
  have hk:KP (fun k=>P k∨VFoot vp ix vx k) w wr:=(KP.of HB1.out).trans (h2.mono fun k _ e=>HQ2.out k e)
  refine ⟨⟨ix,vx,HV1.out.keeps h2 (fun j hj e=>e (HQ2.out j (.inr hj))),(h1.more h3).less HQ2.out,fun k hk'=>⟨(HFT.out k hk').1,by have:=(HFT.out k hk').2;have:=h2.size;omega⟩,HOK.out⟩,hk.mono fun k _ e=>.inl e⟩)
 clear hQ c0 c1 c2 c3 c4 c5 c6 c7 HNM
 go_wp2_with fail
 go_loopw [3,13] (fun s i wr=>∃(k:Nat)(m:Bool)(x:Dk),k≤N∧s=.bool m∧i=.int .i64 k∧R=Dk.tidyL o (L.drop k) m x∧DS wr dp Q (K+k) x∧KP Q w1 wr) (fun _ i _=>N - (intOf i).toNat)
 case atStart=>exact ⟨0,false,d,Nat.zero_le _,rfl,rfl,HR.out,HD1.out,KP.refl _ _⟩
 case round=>
  obtain ⟨k,m,x,hk,rfl,rfl,hre,hdr,hkr⟩:=hrel
  have HRE:=Hd hre
  have HDR:=Hd hdr
  have HKR:=Hd hkr
  have hzr:=hkr.size
  have HVR:=Hd (HV1.out.keeps hkr (fun j hj e=>e (HQ2.out j (.inr hj))))
  obtain ⟨c0,c1,c2,c3,c4,c5,c6,c7⟩:=HVR.out.cells
  have hltr:=HVR.out.lt
  clear hre hdr hkr
  have hi0:(0:Int)≤(k:Int):=by omega
  by_cases hlt:k<N
  ·obtain ⟨s,hs⟩:∃ s,L[k]? = some s:=⟨_,List.getElem?_eq_getElem (by rw [HNL.out];exact hlt)⟩
   obtain ⟨b,o',c',e,hb,_,hcell⟩:=reads_at (reads_of_owns (HKR.out.row HON.out HQ3.out)) (by omega) (by omega)
   obtain ⟨rfl,-,rfl⟩:=sl_inj e
   have ck:wr.cell? ⟨b,o'+k,none⟩=some (.string ⟨s.toArray⟩):=hcell k (strV s) (by rw [List.getElem?_map,hs];rfl)
   obtain ⟨hos,hsl⟩:=HO.out s (List.mem_of_getElem? hs)
   have hdk:L.drop k=s :: L.drop (k+1):=by
    obtain ⟨h1,h2⟩:=List.getElem?_eq_some_iff.1 hs
    rw [←h2]
    exact List.drop_eq_getElem_cons h1
   have HOS:=Hd (fun (w0:World) (hk0:KP Q w1 w0)=>hos w0 vp dp ix vx (HV1.out.keeps hk0 (fun j hj e=>e (HQ2.out j (.inr hj)))))
   obtain ⟨B,hB⟩:∃ B,B=o s:=⟨_,rfl⟩
   rw [←hB] at HOS
   have hj1:(k:Int)<(N:Int):=by omega
   have HSL:=Hd hsl
   have hre:=HRE.out
   rw [hdk] at hre
   cases B with
   | false=>
    have HRE2:=Hd (show R=Dk.tidyL o (L.drop (k+1)) m x by
     rw [hre,Dk.tidyL,if_neg (by rw [←hB];simp)])
    clear hre hdk hB hs hcell hos hsl e
    go_wp2_with fail
    refine (HOS.out _ HKR.out).mono ?_
    rintro e w2 ⟨rfl,hb2⟩
    have HK2:=Hd (HKR.out.trans (KP.of hb2))
    have HD2:=Hd (HDR.out.below hb2)
    clear hb2
    go_wp2_with fail
    go_roundw
    case rel=>exact ⟨k+1,m,x,by omega,rfl,by go_num,HRE2.out,HD2.out.more (by omega),HK2.out⟩
    case measure=>simp [intOf];omega
   | true=>
    have hre2:R=if (x.remove s).1≠0 then x.remove s else Dk.tidyL o (L.drop (k+1)) true (x.remove s).2:=by
     rw [hre,Dk.tidyL,if_pos hB.symm]
    obtain ⟨kk,hkk⟩:∃ kk:Nat,kk=(x.remove s).1:=⟨_,rfl⟩
    have HRE2:=Hd hre2
    have HKK:=Hd hkk
    clear hre hre2 hdk hB hs hcell hos hsl e hkk
    go_wp2_with fail
    refine (HOS.out _ HKR.out).mono ?_
    rintro e w2 ⟨rfl,hb2⟩
    have HK2:=Hd (HKR.out.trans (KP.of hb2))
    have HD2:=Hd (HDR.out.below hb2)
    obtain ⟨c0',-⟩:=(HVR.out.below hb2).cells
    clear hb2
    have hz2:=HK2.out.size
    go_wp2_with fail
    refine (remove_ds HD2.out (fun j hj=>by have:=HQ1.out j hj;omega) (by omega) s HSL.out).mono ?_
    rintro e w3 ⟨rfl,ht⟩
    have HD3:=Hd ht.1
    have HK3:=Hd (HK2.out.trans ht.2)
    clear ht
    rw [←HKK.out]
    by_cases hk0:kk=0
    ·have HRE3:=Hd (HRE2.out.trans (if_neg (by rw [←HKK.out,hk0];simp)))
     subst hk0
     rw [show errV ((0:Nat):Int)=.nilIface from rfl]
     go_wp2_with fail
     go_roundw
     case rel=>exact ⟨k+1,true,_,by omega,rfl,by go_num,HRE3.out,HD3.out.more (by omega),HK3.out⟩
     case measure=>simp [intOf];omega
    ·have HRE3:=Hd (HRE2.out.trans (if_pos (by rw [←HKK.out];exact hk0)))
     have HNE:=Hd (errV_ne (k:=(kk:Int)) (by omega))
     rw [HNE.out]
     go_wp2_with fail
     go_ret
     rw [HRE3.out,←HKK.out,HNE.out]
     exact ⟨rfl,HOUT.out _ _ _ HD3.out HK3.out (by omega)⟩
  ·have hj1:¬ (k:Int)<(N:Int):=by omega
   have hdk:L.drop k=[]:=List.drop_of_length_le (by rw [HNL.out];omega)
   have hre:=HRE.out
   rw [hdk,Dk.tidyL] at hre
   have hz2:=HKR.out.size
   cases m with
   | false=>
    have HRE2:=Hd (show R=(0,x) by rw [hre,if_neg (by simp)])
    clear hre hdk
    go_wp2_with fail
    go_ret
    rw [HRE2.out]
    exact ⟨rfl,HOUT.out _ _ _ HDR.out HKR.out (by omega)⟩
   | true=>
    have HRE2:=Hd (show R=x.syncNames by rw [hre,if_pos rfl])
    clear hre hdk
    go_wp2_with fail
    refine (syncNames_ds HDR.out (fun j hj=>by have:=HQ1.out j hj;omega)).mono ?_
    rintro e w3 ⟨rfl,ht⟩
    have HD3:=Hd ht.1
    have HK3:=Hd (HKR.out.trans ht.2)
    clear ht
    go_wp2_with fail
    go_ret
    rw [HRE2.out]
    exact ⟨rfl,HOUT.out _ _ _ HD3.out HK3.out (by omega)⟩
end Go.Proofs.YtfpjfoajonbndaaGreatDoor
