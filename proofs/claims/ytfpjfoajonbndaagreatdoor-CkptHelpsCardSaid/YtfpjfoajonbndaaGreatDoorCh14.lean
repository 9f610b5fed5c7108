import Derived.Test.YtfpjfoajonbndaaGreatDoorCh11
import Derived.Test.YtfpjfoajonbndaaGreatDoorCh13
namespace Go.Proofs.YtfpjfoajonbndaaGreatDoor
set_option maxHeartbeats 8000000
set_option maxRecDepth 100000
open Go.RowKit
set_option maxRecDepth 100000
set_option maxHeartbeats 8000000
open Go.RowKit
section
variable {d K:Nat} {P:Nat→Prop} {st:Dk} {w:World} (h:DS w d P K st) (hP:∀ k,P k→k<w.heap.size) (b1 b2 b3:Nat) (s:Nm) (hs:s.length≤maxLen)
 (h1:w.cell? ⟨b1,0,none⟩=some (.pointer (some ⟨d,0,none⟩))) (h2:w.cell? ⟨b2,0,none⟩=some (.string ⟨s.toArray⟩))
include h hP hs h1 h2
theorem fresh1_ds(hK:K<1099511627776):Calls Tryz.prog 88 #[.pointer (some ⟨b1,0,none⟩),.pointer (some ⟨b2,0,none⟩)] w fun e w'=>e=.returned (errV (st.create s).1)∧DTo w w' d P (K+1) (st.create s).2:=by
 have HC:=Hd (create_ds h hP hK s hs)
 obtain ⟨k,hk⟩:∃ k:Nat,k=(st.create s).1:=⟨_,rfl⟩
 rw [←hk] at HC ⊢
 clear h hP hs hk
 go_enter Tryz.func88,Tryz.ntmps88
 go_wp2_with fail
 refine HC.out.mono ?_
 rintro e w' ⟨rfl,ht⟩
 have HT:=Hd ht
 clear ht
 go_wp2_with fail
 go_ret
 exact ⟨rfl,HT.out⟩
theorem fresh3_ds:Calls Tryz.prog 92 #[.pointer (some ⟨b1,0,none⟩),.pointer (some ⟨b2,0,none⟩)] w fun e w'=>e=.returned (errV (st.sync s).1)∧DTo w w' d P K (st.sync s).2:=by
 have HC:=Hd (sync_ds h hP s hs)
 obtain ⟨k,hk⟩:∃ k:Nat,k=(st.sync s).1:=⟨_,rfl⟩
 rw [←hk] at HC ⊢
 clear h hP hs hk
 go_enter Tryz.func92,Tryz.ntmps92
 go_wp2_with fail
 refine HC.out.mono ?_
 rintro e w' ⟨rfl,ht⟩
 have HT:=Hd ht
 clear ht
 go_wp2_with fail
 go_ret
 exact ⟨rfl,HT.out⟩
theorem fresh2_ds(vb:Value)(b:List UInt8)(hr:Reads w 1 vb b.length (b.map bv))(h3:w.cell? ⟨b3,0,none⟩=some vb):Calls Tryz.prog 90 #[.pointer (some ⟨b1,0,none⟩),.pointer (some ⟨b2,0,none⟩),.pointer (some ⟨b3,0,none⟩)] w fun e w'=>e=.returned (errV (st.append s b).1)∧DTo w w' d P K (st.append s b).2:=by
 have HC:=Hd (append_ds h hP s vb b hs hr)
 obtain ⟨k,hk⟩:∃ k:Nat,k=(st.append s b).1:=⟨_,rfl⟩
 rw [←hk] at HC ⊢
 obtain ⟨_,⟨rfl,_⟩|⟨a,c,rfl,_⟩⟩:=hr
 all_goals
  clear h hP hs hk
  go_enter Tryz.func90,Tryz.ntmps90
  go_wp2_with fail
  refine HC.out.mono ?_
  rintro e w' ⟨rfl,ht⟩
  have HT:=Hd ht
  clear ht
  go_wp2_with fail
  go_ret
  exact ⟨rfl,HT.out⟩
end
theorem KP.cell{P:Nat→Prop}{w w':World}(h:KP P w w'){b o:Nat}{x:Value}(hc:w.cell? ⟨b,o,none⟩=some x)(hb:b<w.heap.size)(hp:P b):w'.cell? ⟨b,o,none⟩=some x:=
 (Keeps.cell h hb (fun e=>e hp) o).trans hc
def FrSt (st:Dk) (s:Nm) (b:List UInt8) (j:Nat) (x:Dk):Prop:=
 (j=0∧x=st)∨(j=1∧(st.create s).1=0∧x=(st.create s).2)∨(j=2∧(st.create s).1=0∧((st.create s).2.append s b).1=0∧x=((st.create s).2.append s b).2) ∨
  (j=3∧(st.create s).1=0∧((st.create s).2.append s b).1=0∧(((st.create s).2.append s b).2.sync s).1=0∧x=(((st.create s).2.append s b).2.sync s).2)
theorem fresh_1{st:Dk}{s:Nm}{b:List UInt8}(h1:(st.create s).1≠0):st.fresh s b=st.create s:=if_pos h1
theorem fresh_2{st:Dk}{s:Nm}{b:List UInt8}(h1:(st.create s).1=0)(h2:((st.create s).2.append s b).1≠0):st.fresh s b=(st.create s).2.append s b:=by
 unfold Dk.fresh
 rw [if_neg (by simpa using h1),if_pos h2]
theorem fresh_3{st:Dk}{s:Nm}{b:List UInt8}(h1:(st.create s).1=0)(h2:((st.create s).2.append s b).1=0):st.fresh s b=((st.create s).2.append s b).2.sync s:=by
 unfold Dk.fresh
 rw [if_neg (by simpa using h1),if_neg (by simpa using h2)]
theorem fresh_ds{d K:Nat}{P:Nat→Prop}{st:Dk}{w:World}(h:DS w d P K st)(hP:∀ k,P k→k<w.heap.size)(s:Nm)(hs:s.length≤maxLen)(hK:K<1099511627776)(base n:Nat)(vb:Value)(b:List UInt8)(hn:n=b.length)
  (hr:w.ownsRow base 5 1 vb n (b.map bv)) (hv:∀ k,vb.ownBlock=some k→P k) :
  Calls Tryz.prog 46 #[(.pointer (some ⟨d,0,none⟩)),.string ⟨s.toArray⟩,vb] w fun e w'=>e=.returned (errV (st.fresh s b).1)∧DTo w w' d P (K+1) (st.fresh s b).2:=by
 have H:=Hd h
 have HP:=Hd hP
 have HR:=Hd hr
 have HV:=Hd hv
 have HN:=Hd hn
 have HSL:=Hd hs
 obtain ⟨a,c,rfl,-⟩:=slice_of hr
 clear h hP hr hv hn hs
 go_enter Tryz.func46,Tryz.ntmps46
 go_wp2_with fail
 obtain ⟨w1,hw1⟩:∃ w1:World,w1=(((w.alloc (.cells #[(.pointer (some ⟨d,0,none⟩))] 28)).alloc (.cells #[.string ⟨s.toArray⟩] 9)).alloc (.cells #[.slice a n c] 47)).alloc (.cells #[.func (.func 88) #[] #[.pointer (some ⟨w.heap.size,0,none⟩),.pointer (some ⟨w.heap.size+1,0,none⟩)],.func (.func 90) #[] #[.pointer (some ⟨w.heap.size,0,none⟩),.pointer (some ⟨w.heap.size+1,0,none⟩),.pointer (some ⟨w.heap.size+1+1,0,none⟩)],.func (.func 92) #[] #[.pointer (some ⟨w.heap.size,0,none⟩),.pointer (some ⟨w.heap.size+1,0,none⟩)]] 148):=⟨_,rfl⟩
 have hz:w1.heap.size=w.heap.size+4:=by rw [hw1];simp
 have HB1:=Hd (show Below w.heap.size w w1 by rw [hw1];exact belo)
 have e1:w1.cell? ⟨w.heap.size,0,none⟩=some (.pointer (some ⟨d,0,none⟩)):=by rw [hw1];go_simp
 have e2:w1.cell? ⟨w.heap.size+1,0,none⟩=some (.string ⟨s.toArray⟩):=by rw [hw1];go_simp
 have e3:w1.cell? ⟨w.heap.size+1+1,0,none⟩=some (.slice a n c):=by rw [hw1];go_simp
 have f0:w1.cell? ⟨w.heap.size+1+1+1,0,none⟩=some (.func (.func 88) #[] #[.pointer (some ⟨w.heap.size,0,none⟩),.pointer (some ⟨w.heap.size+1,0,none⟩)]):=by rw [hw1];go_simp
 have f1:w1.cell? ⟨w.heap.size+1+1+1,1,none⟩=some (.func (.func 90) #[] #[.pointer (some ⟨w.heap.size,0,none⟩),.pointer (some ⟨w.heap.size+1,0,none⟩),.pointer (some ⟨w.heap.size+1+1,0,none⟩)]):=by rw [hw1];go_simp
 have f2:w1.cell? ⟨w.heap.size+1+1+1,2,none⟩=some (.func (.func 92) #[] #[.pointer (some ⟨w.heap.size,0,none⟩),.pointer (some ⟨w.heap.size+1,0,none⟩)]):=by rw [hw1];go_simp
 rw [←hw1]
 clear hw1
 have E1:=Hd e1
 have E2:=Hd e2
 have E3:=Hd e3
 have F0:=Hd f0
 have F1:=Hd f1
 have F2:=Hd f2
 clear e1 e2 e3 f0 f1 f2
 obtain ⟨Q,hQ⟩:∃ Q:Nat→Prop,Q=fun k=>P k∨(w.heap.size≤k∧k<w1.heap.size):=⟨_,rfl⟩
 have HQ:=Hd hQ
 clear hQ
 have HQ1:=Hd (show ∀ k,Q k→k<w1.heap.size from fun k hk=>by
  rw [HQ.out] at hk
  rcases hk with hk|hk
  ·have:=HP.out k hk
   omega
  ·exact hk.2)
 have HQN:=Hd (show ∀ k,w.heap.size≤k→k<w.heap.size+4→Q k from fun k h1 h2=>by rw [HQ.out];exact .inr ⟨h1,by omega⟩)
 have HD1:=Hd (show DS w1 d Q K st from H.out.later HB1.out (fun k hk=>by
  rw [HQ.out] at hk
  exact hk.imp id (fun h=>h.1)))
 have HRW:=Hd (show ∀ wr,KP Q w1 wr→Reads wr 1 (.slice a n c) b.length (b.map bv) from fun wr hk=>by
  rw [←HN.out]
  exact reads_of_owns (hk.row (ownsRow_below HR.out HB1.out) (fun k hk=>by rw [HQ.out];exact .inl (HV.out k hk))))
 have HOUT:=Hd (show ∀ (wr:World) (L:Nat) (x:Dk),DS wr d Q L x→KP Q w1 wr→L≤K+1→DTo w wr d P (K+1) x from fun wr L x h1 h2 h3=>by
  refine ⟨(h1.more h3).less (fun k hk=>by rw [HQ.out];exact .inl hk),?_⟩
  refine KP.trans (KP.of HB1.out) (h2.mono (fun k _ hk=>by rw [HQ.out];exact .inl hk)))
 go_loopw [15] (fun i wr=>∃(j L:Nat)(x:Dk),i=.int .i64 j∧FrSt st s b j x∧DS wr d Q L x∧L≤K+1∧(j=0→L≤K)∧KP Q w1 wr) (fun i _=>3 - (intOf i).toNat)
 case atStart=>exact ⟨0,K,st,rfl,.inl ⟨rfl,rfl⟩,HD1.out,by omega,fun _=>Nat.le_refl _,KP.refl _ _⟩
 case round=>
  obtain ⟨j,L,x,rfl,hfr,hds,hL,hL0,hkp⟩:=hrel
  have HKP:=Hd hkp
  have hzr:=hkp.size
  have HQR:=Hd (show ∀ k,Q k→k<wr.heap.size from fun k hk=>Nat.lt_of_lt_of_le (HQ1.out k hk) hzr)
  have HE1:=Hd (hkp.cell E1.out (by omega) (HQN.out _ (by omega) (by omega)))
  have HE2:=Hd (hkp.cell E2.out (by omega) (HQN.out _ (by omega) (by omega)))
  have HE3:=Hd (hkp.cell E3.out (by omega) (HQN.out _ (by omega) (by omega)))
  have g0:=hkp.cell F0.out (by omega) (HQN.out _ (by omega) (by omega))
  have g1:=hkp.cell F1.out (by omega) (HQN.out _ (by omega) (by omega))
  have g2:=hkp.cell F2.out (by omega) (HQN.out _ (by omega) (by omega))
  clear hkp
  rcases hfr with ⟨rfl,hx⟩|⟨rfl,hc1,hx⟩|⟨rfl,hc1,hc2,hx⟩|⟨rfl,hc1,hc2,hc3,hx⟩
  ·rw [hx] at hds
   clear hx
   have HDS:=Hd hds
   have HL0:=Hd hL0
   have hl1:(L+1)≤K+1:=by have:=HL0.out rfl;omega
   clear hds hL0
   obtain ⟨k,hk⟩:∃ k:Nat,k=(st.create s).1:=⟨_,rfl⟩
   have HK:=Hd hk
   clear hk
   go_wp2_with fail
   refine (fresh1_ds HDS.out HQR.out _ _ s HSL.out HE1.out HE2.out (by omega)).mono ?_
   rintro e w2 ⟨rfl,ht⟩
   have HT:=Hd ht
   have HKP2:=Hd (HKP.out.trans ht.2)
   clear ht
   rw [←HK.out]
   by_cases hk0':k=0
   ·rw [hk0',show errV ((0:Nat):Int)=.nilIface from rfl]
    go_wp2_with fail
    go_round
    case rel=>
     have hk0:(st.create s).1=0:=by rw [←HK.out];exact hk0'
     exact ⟨1,(L+1),_,by go_num,.inr (.inl ⟨rfl,hk0,rfl⟩),HT.out.1,hl1,fun h=>absurd h (by decide),HKP2.out⟩
    case measure=>simp [intOf]
   ·have HNE:=Hd (errV_ne (k:=(k:Int)) (by omega))
    rw [HNE.out]
    go_wp2_with fail
    go_ret
    have hk0:(st.create s).1≠0:=by rw [←HK.out];exact hk0'
    rw [fresh_1 hk0]
    refine ⟨by rw [←HK.out,HNE.out];rfl,HOUT.out _ _ _ HT.out.1 HKP2.out hl1⟩
  ·rw [hx] at hds
   clear hx
   have HC1:=Hd hc1
   clear hc1
   have HDS:=Hd hds
   have HL0:=Hd hL0
   have hl1:L≤K+1:=by exact hL
   clear hds hL0
   obtain ⟨k,hk⟩:∃ k:Nat,k=((st.create s).2.append s b).1:=⟨_,rfl⟩
   have HK:=Hd hk
   clear hk
   go_wp2_with fail
   refine (fresh2_ds HDS.out HQR.out _ _ _ s HSL.out HE1.out HE2.out (.slice a n c) b (HRW.out wr HKP.out) HE3.out).mono ?_
   rintro e w2 ⟨rfl,ht⟩
   have HT:=Hd ht
   have HKP2:=Hd (HKP.out.trans ht.2)
   clear ht
   rw [←HK.out]
   by_cases hk0':k=0
   ·rw [hk0',show errV ((0:Nat):Int)=.nilIface from rfl]
    go_wp2_with fail
    go_round
    case rel=>
     have hk0:((st.create s).2.append s b).1=0:=by rw [←HK.out];exact hk0'
     exact ⟨2,L,_,by go_num,.inr (.inr (.inl ⟨rfl,HC1.out,hk0,rfl⟩)),HT.out.1,hl1,fun h=>absurd h (by decide),HKP2.out⟩
    case measure=>simp [intOf]
   ·have HNE:=Hd (errV_ne (k:=(k:Int)) (by omega))
    rw [HNE.out]
    go_wp2_with fail
    go_ret
    have hk0:((st.create s).2.append s b).1≠0:=by rw [←HK.out];exact hk0'
    rw [fresh_2 HC1.out hk0]
    refine ⟨by rw [←HK.out,HNE.out];rfl,HOUT.out _ _ _ HT.out.1 HKP2.out hl1⟩
  ·rw [hx] at hds
   clear hx
   have HC1:=Hd hc1
   clear hc1
   have HC2:=Hd hc2
   clear hc2
   have HDS:=Hd hds
   have HL0:=Hd hL0
   have hl1:L≤K+1:=by exact hL
   clear hds hL0
   obtain ⟨k,hk⟩:∃ k:Nat,k=(((st.create s).2.append s b).2.sync s).1:=⟨_,rfl⟩
   have HK:=Hd hk
   clear hk
   go_wp2_with fail
   refine (fresh3_ds HDS.out HQR.out _ _ s HSL.out HE1.out HE2.out).mono ?_
   rintro e w2 ⟨rfl,ht⟩
   have HT:=Hd ht
   have HKP2:=Hd (HKP.out.trans ht.2)
   clear ht
   rw [←HK.out]
   by_cases hk0':k=0
   ·rw [hk0',show errV ((0:Nat):Int)=.nilIface from rfl]
    go_wp2_with fail
    go_round
    case rel=>
     have hk0:(((st.create s).2.append s b).2.sync s).1=0:=by rw [←HK.out];exact hk0'
     exact ⟨3,L,_,by go_num,.inr (.inr (.inr ⟨rfl,HC1.out,HC2.out,hk0,rfl⟩)),HT.out.1,hl1,fun h=>absurd h (by decide),HKP2.out⟩
    case measure=>simp [intOf]
   ·have HNE:=Hd (errV_ne (k:=(k:Int)) (by omega))
    rw [HNE.out]
    go_wp2_with fail
    go_ret
    have hk0:(((st.create s).2.append s b).2.sync s).1≠0:=by rw [←HK.out];exact hk0'
    rw [fresh_3 HC1.out HC2.out]
    refine ⟨by rw [←HK.out,HNE.out];rfl,HOUT.out _ _ _ HT.out.1 HKP2.out hl1⟩
  ·rw [hx] at hds
   clear hx
   have HC1:=Hd hc1
   have HC2:=Hd hc2
   have HC3:=Hd hc3
   have HDS:=Hd hds
   clear hc1 hc2 hc3 hds
   go_wp2_with fail
   go_ret
   rw [fresh_3 HC1.out HC2.out]
   exact ⟨by rw [HC3.out];rfl,HOUT.out _ _ _ HDS.out HKP.out hL⟩
theorem sindex_any(b n cap:Nat)(zs:List Nm)(x:Nm)(w:World)(hl:n=zs.length)(hc:∀ (i:Nat) (z:Nm),zs[i]? = some z→w.cell? ⟨b,i,none⟩=some (strV z))(hm:n≤1000000000) :
  Calls Tryz.prog 85 #[.slice (some ⟨b,0,none⟩) n cap,.string ⟨x.toArray⟩] w fun e w'=>∃ r:Int,e=.returned (.int .i64 r)∧(0≤r↔x∈zs)∧w=w':=by
 have HL:=Hd hl
 have HC:=Hd hc
 clear hl hc
 go_enter Tryz.func85,Tryz.ntmps85
 go_wp2
 go_loop [8] (fun i=>∃ k:Nat,k≤n∧(∀ j z,j<k→zs[j]? = some z→z≠x)∧i=.int .i64 k) (fun i=>n - (intOf i).toNat)
 case atStart=>exact ⟨0,Nat.zero_le _,fun j z hj=>absurd hj (Nat.not_lt_zero j),rfl⟩
 case round=>
  obtain ⟨k,hk,hb,rfl⟩:=hrel
  have HB:=Hd hb
  clear hb
  by_cases hlt:k<n
  ·obtain ⟨y,hy⟩:∃ y,zs[k]? = some y:=⟨_,List.getElem?_eq_getElem (by have:=HL.out;omega)⟩
   have h0:=HC.out k y hy
   unfold strV at h0
   have HY:=Hd hy
   clear hy
   by_cases he:x=y
   ·subst he
    go_wp2
    go_ret
    exact ⟨_,rfl,⟨fun _=>List.mem_of_getElem? HY.out,fun _=>by omega⟩,rfl⟩
   ·have hq:(x == y)=false:=by simpa using he
    have HE:=Hd he
    clear he
    go_wp2
    go_round
    case rel=>exact ⟨k+1,by omega,fun j z hj hz=>by
     by_cases hjk:j=k
     ·rw [hjk,HY.out] at hz
      cases hz
      exact fun h=>HE.out h.symm
     ·exact HB.out j z (by omega) hz,by go_num⟩
    case measure=>simp [intOf];omega
  ·have HKN:=Hd (show n≤k by omega)
   go_wp2
   go_ret
   refine ⟨-1,rfl,⟨fun h=>absurd h (by decide),fun h=>?_⟩,rfl⟩
   obtain ⟨j,hj⟩:=List.mem_iff_getElem?.1 h
   exact absurd rfl (HB.out j x (by have:=(List.getElem?_eq_some_iff.1 hj).1;have:=HL.out;have:=HKN.out;omega) hj)
theorem sindex_nil(x:Nm)(w:World):Calls Tryz.prog 85 #[.slice none 0 0,.string ⟨x.toArray⟩] w fun e w'=>e=.returned (.int .i64 (-1))∧w=w':=by
 go_enter Tryz.func85,Tryz.ntmps85
 go_wp2
 go_loop [8] (fun i=>i=.int .i64 0) (fun _=>0)
 case atStart=>rfl
 case round=>
  subst hrel
  go_wp2
  go_ret
  exact ⟨rfl,rfl⟩
theorem scontains_any(base n:Nat)(v:Value)(zs:List Nm)(x:Nm)(w:World)(hl:n=zs.length)(hm:n≤1000000000)(hr:w.ownsRow base 9 1 v n (zs.map strV)) :
  Calls Tryz.prog 44 #[v,.string ⟨x.toArray⟩] w fun e w'=>e=.returned (.bool (decide (x∈zs)))∧w=w':=by
 obtain ⟨q,hq⟩:∃ q,q=decide (x∈zs):=⟨_,rfl⟩
 rw [←hq]
 have HQ:=Hd hq
 clear hq
 rcases id hr.2 with ⟨rfl,h0⟩|⟨g,cap,cur,rfl,_⟩
 ·have hz:zs=[]:=List.eq_nil_of_length_eq_zero (by omega)
  have HZ:=Hd hz
  clear hr hl hz h0
  go_enter Tryz.func44,Tryz.ntmps44
  go_wp2_with fail
  refine (sindex_nil x _).mono ?_
  rintro e w' ⟨rfl,rfl⟩
  go_wp2_with fail
  go_ret
  exact ⟨by rw [HQ.out,HZ.out];rfl,rfl⟩
 ·have HC:=Hd (sindex_any g n cap zs x w hl (fun i z hz=>by
   have:=hr.cells (g:=g) rfl i (strV z) (by rw [List.getElem?_map,hz];rfl)
   rwa [Addr.add_lit,Nat.zero_add] at this) hm)
  clear hr hl
  go_enter Tryz.func44,Tryz.ntmps44
  go_wp2_with fail
  refine HC.out.mono ?_
  rintro e w' ⟨r,rfl,hr,rfl⟩
  have HR:=Hd hr
  clear hr
  by_cases h0:0≤r
  ·go_wp2_with fail
   go_ret
   exact ⟨by rw [HQ.out];exact ret_bool (by simpa using HR.out.1 h0),rfl⟩
  ·have h0':decide (0≤r)=false:=by simpa using h0
   have HN:=Hd h0
   clear h0
   go_wp2_with fail
   go_ret
   refine ⟨?_,rfl⟩
   have:¬ x∈zs:=fun h=>by have:=HR.out.2 h;have:=HN.out;omega
   rw [HQ.out]
   simp [this]
theorem has_names(d:Dk)(s:Nm):decide (s∈namesOf d.now)=hasName d s:=by
 unfold hasName dirGet namesOf
 rw [Option.isSome_map]
 rw [Bool.eq_iff_iff,decide_eq_true_eq,List.find?_isSome,(List.mergeSort_perm _ _).mem_iff,List.mem_map]
 constructor
 ·rintro ⟨p,hp,rfl⟩
  exact ⟨p,hp,by simp⟩
 ·rintro ⟨p,hp,h⟩
  exact ⟨p,hp,by simpa using h⟩
theorem lay_a{st:Dk}{v g e:Nat}{s:Bool}(h:rightV v g e=true)(h1:hasName st (sName v)=false):st.lay v g e s=st.layTo v g e s:=by
 unfold Dk.lay
 rw [if_neg (by simp [h]),if_neg (by simp [h1])]
theorem lay_b{st:Dk}{v g e:Nat}{s:Bool}(h:rightV v g e=true)(h1:hasName st (sName v)=true)(h2:(st.remove (sName v)).1≠0):st.lay v g e s=st.remove (sName v):=by
 unfold Dk.lay
 rw [if_neg (by simp [h]),if_pos h1,if_pos h2]
theorem lay_c{st:Dk}{v g e:Nat}{s:Bool}(h:rightV v g e=true)(h1:hasName st (sName v)=true)(h2:(st.remove (sName v)).1=0):st.lay v g e s=(st.remove (sName v)).2.layTo v g e s:=by
 unfold Dk.lay
 rw [if_neg (by simp [h]),if_pos h1,if_neg (by simpa using h2)]
theorem layTo_1{x:Dk}{v g e:Nat}{s:Bool}(h:(x.fresh (sName v) (manB v g e s)).1≠0):x.layTo v g e s=x.fresh (sName v) (manB v g e s):=if_pos h
theorem layTo_2{x:Dk}{v g e:Nat}{s:Bool}(h:(x.fresh (sName v) (manB v g e s)).1=0)(h2:((x.fresh (sName v) (manB v g e s)).2.rename (sName v) (mName v)).1≠0):x.layTo v g e s=(x.fresh (sName v) (manB v g e s)).2.rename (sName v) (mName v):=by
 unfold Dk.layTo
 rw [if_neg (by simpa using h),if_pos h2]
theorem layTo_3{x:Dk}{v g e:Nat}{s:Bool}(h:(x.fresh (sName v) (manB v g e s)).1=0)(h2:((x.fresh (sName v) (manB v g e s)).2.rename (sName v) (mName v)).1=0):x.layTo v g e s=((x.fresh (sName v) (manB v g e s)).2.rename (sName v) (mName v)).2.syncNames:=by
 unfold Dk.layTo
 rw [if_neg (by simpa using h),if_neg (by simpa using h2)]
theorem lay_ds{d K:Nat}{P:Nat→Prop}{st:Dk}{w:World}(h:DS w d P K st)(hP:∀ k,P k→k<w.heap.size)(hK:K+4<1099511627776)(v g e:Nat)(sl:Bool)(hN:NamesAt v g)(hri:rightV v g e=true)(hsn:(sName v).length≤maxLen)(hmn:(mName v).length≤maxLen) :
  Calls Tryz.prog 47 #[(.pointer (some ⟨d,0,none⟩)),.agg #[.int .i64 v,.int .i64 g,.int .i64 e,.bool sl]] w fun r w'=>r=.returned (errV (st.lay v g e sl).1)∧DTo w w' d P (K+4) (st.lay v g e sl).2:=by
 have H:=Hd h
 have HP:=Hd hP
 have HNA:=Hd hN
 have HRI:=Hd hri
 have HSN:=Hd hsn
 have HMN:=Hd hmn
 obtain ⟨S,hS⟩:∃ S,S=sName v:=⟨_,rfl⟩
 obtain ⟨M,hM⟩:∃ M,M=mName v:=⟨_,rfl⟩
 have HS:=Hd hS
 have HM:=Hd hM
 have HNV:=Hd (show namesV v g=.tuple #[.string ⟨(vName v g).toArray⟩,.string ⟨(cName v g).toArray⟩,.string ⟨M.toArray⟩,.string ⟨S.toArray⟩] by rw [hS,hM];rfl)
 clear h hP hN hri hsn hmn hS hM
 go_enter Tryz.func47,Tryz.ntmps47
 go_wp2_with fail
 refine (HNA.out _).mono ?_
 rintro r wn ⟨rfl,rfl⟩
 rw [HNV.out]
 go_wp2_with fail
 refine (pman_any v g e sl HRI.out _).mono ?_
 rintro r w2 ⟨vb,rfl,ho2,hb2⟩
 have HB2:=Hd (show Below w.heap.size w w2 from Below.trans belo (hb2.mono (by first|exact Nat.le_refl _|(simp;done)|(simp;omega))))
 have ho2':=ownsRow_mono ho2 (show w.heap.size≤_ by first|exact Nat.le_refl _|(simp;done)|(simp;omega))
 have HO2:=Hd ho2'
 obtain ⟨a,c,rfl,-⟩:=slice_of ho2'
 clear ho2 hb2 ho2'
 have hz2:=HB2.out.size
 obtain ⟨Q,hQ⟩:∃ Q:Nat→Prop,Q=fun k=>P k∨(w.heap.size≤k∧k<w2.heap.size):=⟨_,rfl⟩
 have HQ:=Hd hQ
 clear hQ
 have HQ1:=Hd (show ∀ wr:World,w2.heap.size≤wr.heap.size→∀ k,Q k→k<wr.heap.size from fun wr hs k hk=>by
  rw [HQ.out] at hk
  rcases hk with hk|hk
  ·have:=HP.out k hk
   omega
  ·omega)
 have HD2:=Hd (show DS w2 d Q K st from H.out.later HB2.out (fun k hk=>by
  rw [HQ.out] at hk
  exact hk.imp id (fun h=>h.1)))
 have HVQ:=Hd (show ∀ k,(Value.slice a 24 c).ownBlock=some k→Q k from fun k hk=>by
  rw [HQ.out]
  exact .inr (HO2.out.lt k hk))
 have HOUT:=Hd (show ∀ (wr:World) (L:Nat) (x:Dk),DS wr d Q L x→KP Q w2 wr→L≤K+4→DTo w wr d P (K+4) x from fun wr L x h1 h2 h3=>by
  refine ⟨(h1.more h3).less (fun k hk=>by rw [HQ.out];exact .inl hk),?_⟩
  refine KP.trans (KP.of HB2.out) (h2.mono (fun k _ hk=>by rw [HQ.out];exact .inl hk)))
 go_wp2_with fail
 refine (names_ds HD2.out).mono ?_
 rintro r w3 ⟨vn,rfl,ho3,hb3⟩
 have HO3:=Hd ho3
 have HD3:=Hd (HD2.out.below hb3)
 have HK3:=Hd (show KP Q w2 w3 from KP.of hb3)
 have hz3:=hb3.size
 have hn64:=HD2.out.ok.lnow
 obtain ⟨an,cn,rfl,-⟩:=slice_of ho3
 have HCT:=Hd (scontains_any w2.heap.size st.now.length (.slice an st.now.length cn) (namesOf st.now) S w3 (namesOf_len st.now).symm (by omega) ho3)
 rw [show decide (S∈namesOf st.now)=hasName st (sName v) by rw [HS.out];exact has_names st (sName v)] at HCT
 clear ho3 hb3
 go_wp2_with fail
 refine HCT.out.mono ?_
 rintro r w3' ⟨rfl,rfl⟩
 clear HCT
 obtain ⟨q,hq⟩:∃ q,q=hasName st (sName v):=⟨_,rfl⟩
 rw [←hq]
 have HHN:=Hd hq
 clear hq
 have HSL:=Hd (show S.length≤maxLen by rw [HS.out];exact HSN.out)
 have HML:=Hd (show M.length≤maxLen by rw [HM.out];exact HMN.out)
 cases q
 ·obtain ⟨k,hk⟩:∃ k:Nat,k=(st.fresh S (manB v g e sl)).1:=⟨_,rfl⟩
  have HK4:=Hd hk
  clear hk
  go_wp2_with fail
  refine (fresh_ds HD3.out (HQ1.out _ (by omega)) S HSL.out (by omega) w.heap.size 24 (.slice a 24 c) (manB v g e sl) (manB_len v g e sl).symm (HK3.out.row HO2.out HVQ.out) HVQ.out).mono ?_
  rintro r w4 ⟨rfl,ht⟩
  have HT4:=Hd ht
  have HD4:=Hd ht.1
  have HK4P:=Hd (HK3.out.trans ht.2)
  have hz4:=ht.2.size
  clear ht
  rw [←HK4.out]
  by_cases hk0:k=0
  case neg=>
   have HNE:=Hd (errV_ne (k:=(k:Int)) (by omega))
   have HF:=Hd (show (st.fresh (sName v) (manB v g e sl)).1≠0 by rw [←HS.out,←HK4.out];exact hk0)
   rw [HNE.out]
   go_wp2_with fail
   go_ret
   rw [lay_a HRI.out HHN.out.symm,layTo_1 HF.out,←HS.out]
   exact ⟨by rw [←HK4.out,HNE.out];rfl,HOUT.out _ _ _ HD4.out HK4P.out (by omega)⟩
  have HF:=Hd (show (st.fresh (sName v) (manB v g e sl)).1=0 by rw [←HS.out,←HK4.out];exact hk0)
  rw [hk0,show errV ((0:Nat):Int)=.nilIface from rfl]
  clear hk0 HK4
  obtain ⟨k,hk⟩:∃ k:Nat,k=((st.fresh S (manB v g e sl)).2.rename S M).1:=⟨_,rfl⟩
  have HK5:=Hd hk
  clear hk
  go_wp2_with fail
  refine (rename_ds HD4.out (HQ1.out _ (by omega)) (by omega) S M HSL.out HML.out).mono ?_
  rintro r w5 ⟨rfl,ht⟩
  have HT5:=Hd ht
  have HD5:=Hd ht.1
  have HK5P:=Hd (HK4P.out.trans ht.2)
  have hz5:=ht.2.size
  clear ht
  rw [←HK5.out]
  by_cases hk0:k=0
  case neg=>
   have HNE:=Hd (errV_ne (k:=(k:Int)) (by omega))
   have HF2:=Hd (show ((st.fresh (sName v) (manB v g e sl)).2.rename (sName v) (mName v)).1≠0 by rw [←HS.out,←HM.out,←HK5.out];exact hk0)
   rw [HNE.out]
   go_wp2_with fail
   go_ret
   rw [lay_a HRI.out HHN.out.symm,layTo_2 HF.out HF2.out,←HS.out,←HM.out]
   exact ⟨by rw [←HK5.out,HNE.out];rfl,HOUT.out _ _ _ HD5.out HK5P.out (by omega)⟩
  have HF2:=Hd (show ((st.fresh (sName v) (manB v g e sl)).2.rename (sName v) (mName v)).1=0 by rw [←HS.out,←HM.out,←HK5.out];exact hk0)
  rw [hk0,show errV ((0:Nat):Int)=.nilIface from rfl]
  clear hk0 HK5
  obtain ⟨k,hk⟩:∃ k:Nat,k=(((st.fresh S (manB v g e sl)).2.rename S M).2.syncNames).1:=⟨_,rfl⟩
  have HK6:=Hd hk
  clear hk
  go_wp2_with fail
  refine (syncNames_ds HD5.out (HQ1.out _ (by omega))).mono ?_
  rintro r w6 ⟨rfl,ht⟩
  have HT6:=Hd ht
  have HD6:=Hd ht.1
  have HK6P:=Hd (HK5P.out.trans ht.2)
  have hz6:=ht.2.size
  clear ht
  rw [←HK6.out]
  go_wp2_with fail
  go_ret
  rw [lay_a HRI.out HHN.out.symm,layTo_3 HF.out HF2.out,←HS.out,←HM.out]
  exact ⟨by rw [←HK6.out];rfl,HOUT.out _ _ _ HD6.out HK6P.out (by omega)⟩
 ·obtain ⟨k,hk⟩:∃ k:Nat,k=(st.remove S).1:=⟨_,rfl⟩
  have HK9:=Hd hk
  clear hk
  go_wp2_with fail
  refine (remove_ds HD3.out (HQ1.out _ (by omega)) (by omega) S HSL.out).mono ?_
  rintro r w9 ⟨rfl,ht⟩
  have HD9:=Hd ht.1
  have HK9P:=Hd (HK3.out.trans ht.2)
  have hz9:=ht.2.size
  clear ht
  rw [←HK9.out]
  by_cases hk0:k=0
  case neg=>
   have HNE:=Hd (errV_ne (k:=(k:Int)) (by omega))
   have HF:=Hd (show (st.remove (sName v)).1≠0 by rw [←HS.out,←HK9.out];exact hk0)
   rw [HNE.out]
   go_wp2_with fail
   go_ret
   rw [lay_b HRI.out HHN.out.symm HF.out,←HS.out]
   exact ⟨by rw [←HK9.out,HNE.out];rfl,HOUT.out _ _ _ HD9.out HK9P.out (by omega)⟩
  have HF0:=Hd (show (st.remove (sName v)).1=0 by rw [←HS.out,←HK9.out];exact hk0)
  rw [hk0,show errV ((0:Nat):Int)=.nilIface from rfl]
  clear hk0 HK9
  have HX:=Hd (show (st.remove S).2=(st.remove (sName v)).2 by rw [HS.out])
  rw [HX.out] at HD9
  obtain ⟨x,hx⟩:∃ x,x=(st.remove (sName v)).2:=⟨_,rfl⟩
  rw [←hx] at HD9
  have HXX:=Hd (show st.lay v g e sl=x.layTo v g e sl by rw [hx];exact lay_c HRI.out HHN.out.symm HF0.out)
  clear hx HX
  obtain ⟨k,hk⟩:∃ k:Nat,k=(x.fresh S (manB v g e sl)).1:=⟨_,rfl⟩
  have HK4:=Hd hk
  clear hk
  go_wp2_with fail
  refine (fresh_ds HD9.out (HQ1.out _ (by omega)) S HSL.out (by omega) w.heap.size 24 (.slice a 24 c) (manB v g e sl) (manB_len v g e sl).symm (HK9P.out.row HO2.out HVQ.out) HVQ.out).mono ?_
  rintro r w4 ⟨rfl,ht⟩
  have HT4:=Hd ht
  have HD4:=Hd ht.1
  have HK4P:=Hd (HK9P.out.trans ht.2)
  have hz4:=ht.2.size
  clear ht
  rw [←HK4.out]
  by_cases hk0:k=0
  case neg=>
   have HNE:=Hd (errV_ne (k:=(k:Int)) (by omega))
   have HF:=Hd (show (x.fresh (sName v) (manB v g e sl)).1≠0 by rw [←HS.out,←HK4.out];exact hk0)
   rw [HNE.out]
   go_wp2_with fail
   go_ret
   rw [HXX.out,layTo_1 HF.out,←HS.out]
   exact ⟨by rw [←HK4.out,HNE.out];rfl,HOUT.out _ _ _ HD4.out HK4P.out (by omega)⟩
  have HF:=Hd (show (x.fresh (sName v) (manB v g e sl)).1=0 by rw [←HS.out,←HK4.out];exact hk0)
  rw [hk0,show errV ((0:Nat):Int)=.nilIface from rfl]
  clear hk0 HK4
  obtain ⟨k,hk⟩:∃ k:Nat,k=((x.fresh S (manB v g e sl)).2.rename S M).1:=⟨_,rfl⟩
  have HK5:=Hd hk
  clear hk
  go_wp2_with fail
  refine (rename_ds HD4.out (HQ1.out _ (by omega)) (by omega) S M HSL.out HML.out).mono ?_
  rintro r w5 ⟨rfl,ht⟩
  have HT5:=Hd ht
  have HD5:=Hd ht.1
  have HK5P:=Hd (HK4P.out.trans ht.2)
  have hz5:=ht.2.size
  clear ht
  rw [←HK5.out]
  by_cases hk0:k=0
  case neg=>
   have HNE:=Hd (errV_ne (k:=(k:Int)) (by omega))
   have HF2:=Hd (show ((x.fresh (sName v) (manB v g e sl)).2.rename (sName v) (mName v)).1≠0 by rw [←HS.out,←HM.out,←HK5.out];exact hk0)
   rw [HNE.out]
   go_wp2_with fail
   go_ret
   rw [HXX.out,layTo_2 HF.out HF2.out,←HS.out,←HM.out]
   exact ⟨by rw [←HK5.out,HNE.out];rfl,HOUT.out _ _ _ HD5.out HK5P.out (by omega)⟩
  have HF2:=Hd (show ((x.fresh (sName v) (manB v g e sl)).2.rename (sName v) (mName v)).1=0 by rw [←HS.out,←HM.out,←HK5.out];exact hk0)
  rw [hk0,show errV ((0:Nat):Int)=.nilIface from rfl]
  clear hk0 HK5
  obtain ⟨k,hk⟩:∃ k:Nat,k=(((x.fresh S (manB v g e sl)).2.rename S M).2.syncNames).1:=⟨_,rfl⟩
  have HK6:=Hd hk
  clear hk
  go_wp2_with fail
  refine (syncNames_ds HD5.out (HQ1.out _ (by omega))).mono ?_
  rintro r w6 ⟨rfl,ht⟩
  have HT6:=Hd ht
  have HD6:=Hd ht.1
  have HK6P:=Hd (HK5P.out.trans ht.2)
  have hz6:=ht.2.size
  clear ht
  rw [←HK6.out]
  go_wp2_with fail
  go_ret
  rw [HXX.out,layTo_3 HF.out HF2.out,←HS.out,←HM.out]
  exact ⟨by rw [←HK6.out];rfl,HOUT.out _ _ _ HD6.out HK6P.out (by omega)⟩
structure VolAt (w:World) (vp dp ix:Nat) (vx:Value) (v:Vl):Prop where
 blk:w.heap[vp]? = some (.cells #[(.pointer (some ⟨dp,0,none⟩)),.int .i64 v.num,.int .i64 v.gen,.int .i64 v.epoch,.bool v.shut,.int .i64 v.most,.int .i64 v.size,(.pointer (some ⟨ix,0,none⟩))] 118 (0,0))
 idx:IxAt w 0 ix vx v.idx
 ne:vp≠ix
 nv:vx.ownBlock≠some vp
structure VOk (v:Vl):Prop where
 names:NamesAt v.num v.gen
 right:rightV v.num v.gen v.epoch=true
 size:v.size≤v.most
 most:v.most≤16777216
 long:v.file.length≤maxLen∧(sName v.num).length≤maxLen∧(mName v.num).length≤maxLen
def VFoot (vp ix:Nat) (vx:Value) (k:Nat):Prop:=k=vp∨k=ix∨vx.ownBlock=some k
theorem VolAt.lt{w:World}{vp dp ix:Nat}{vx:Value}{v:Vl}(h:VolAt w vp dp ix vx v):vp<w.heap.size:=blk_lt h.blk
theorem VolAt.keeps{w w':World}{vp dp ix:Nat}{vx:Value}{v:Vl}{F:Nat→Prop}(h:VolAt w vp dp ix vx v)(hk:Keeps F w w')(hF:∀ k,VFoot vp ix vx k→¬ F k):VolAt w' vp dp ix vx v:=
 ⟨(hk.block vp h.lt (hF _ (.inl rfl))).trans h.blk,h.idx.keeps hk (hF _ (.inr (.inl rfl))) (fun k e=>hF k (.inr (.inr e))),h.ne,h.nv⟩
theorem VolAt.below{w w':World}{vp dp ix:Nat}{vx:Value}{v:Vl}(h:VolAt w vp dp ix vx v)(hb:Below w.heap.size w w'):VolAt w' vp dp ix vx v:=
 h.keeps (F:=fun _=>False) (Keeps.of_below hb fun _ hk _=>hk) (fun _ _ h=>h)
theorem VolAt.cells{w:World}{vp dp ix:Nat}{vx:Value}{v:Vl}(h:VolAt w vp dp ix vx v) :
  w.cell? ⟨vp,0,none⟩=some (.pointer (some ⟨dp,0,none⟩))∧w.cell? ⟨vp,1,none⟩=some (.int .i64 v.num)∧w.cell? ⟨vp,2,none⟩=some (.int .i64 v.gen)∧w.cell? ⟨vp,3,none⟩=some (.int .i64 v.epoch)∧w.cell? ⟨vp,4,none⟩=some (.bool v.shut)∧w.cell? ⟨vp,5,none⟩=some (.int .i64 v.most)∧w.cell? ⟨vp,6,none⟩=some (.int .i64 v.size)∧w.cell? ⟨vp,7,none⟩=some (.pointer (some ⟨ix,0,none⟩)):=by
 refine ⟨?_,?_,?_,?_,?_,?_,?_,?_⟩ <;> (rw [cell_of_row w vp _ _ _ _ h.blk];rfl)
def VS (w:World) (vp dp:Nat) (P:Nat→Prop) (K:Nat) (d:Dk) (v:Vl):Prop:=
 ∃ ix vx,VolAt w vp dp ix vx v∧DS w dp (fun k=>P k∨VFoot vp ix vx k) K d∧(∀ k,VFoot vp ix vx k→¬ P k∧k<w.heap.size)∧VOk v
def VTo (w w':World) (vp dp:Nat) (P:Nat→Prop) (K:Nat) (d:Dk) (v:Vl):Prop:=VS w' vp dp P K d v∧KP P w w'
theorem VS.below{w w':World}{vp dp K:Nat}{P:Nat→Prop}{d:Dk}{v:Vl}(h:VS w vp dp P K d v)(hb:Below w.heap.size w w'):VS w' vp dp P K d v:=by
 obtain ⟨ix,vx,h1,h2,h3,h4⟩:=h
 exact ⟨ix,vx,h1.below hb,h2.below hb,fun k hk=>⟨(h3 k hk).1,Nat.lt_of_lt_of_le (h3 k hk).2 hb.size⟩,h4⟩
theorem VS.later{w w':World}{vp dp K:Nat}{P R:Nat→Prop}{d:Dk}{v:Vl}(h:VS w vp dp P K d v)(hb:Below w.heap.size w w')(hr:∀ k,R k→P k∨w.heap.size≤k):VS w' vp dp R K d v:=by
 obtain ⟨ix,vx,h1,h2,h3,h4⟩:=h
 refine ⟨ix,vx,h1.below hb,h2.later hb (fun k hk=>?_),fun k hk=>⟨fun e=>?_,Nat.lt_of_lt_of_le (h3 k hk).2 hb.size⟩,h4⟩
 ·rcases hk with hk|hk
  ·exact (hr k hk).imp .inl id
  ·exact .inl (.inr hk)
 ·rcases hr k e with h|h
  ·exact (h3 k hk).1 h
  ·have:=(h3 k hk).2
   omega
theorem VS.less{w:World}{vp dp K:Nat}{P R:Nat→Prop}{d:Dk}{v:Vl}(h:VS w vp dp P K d v)(hr:∀ k,R k→P k):VS w vp dp R K d v:=by
 obtain ⟨ix,vx,h1,h2,h3,h4⟩:=h
 exact ⟨ix,vx,h1,h2.less (fun k hk=>hk.imp (hr k) id),fun k hk=>⟨fun e=>(h3 k hk).1 (hr k e),(h3 k hk).2⟩,h4⟩
theorem VS.more{w:World}{vp dp K L:Nat}{P:Nat→Prop}{d:Dk}{v:Vl}(h:VS w vp dp P K d v)(hl:K≤L):VS w vp dp P L d v:=by
 obtain ⟨ix,vx,h1,h2,h3,h4⟩:=h
 exact ⟨ix,vx,h1,h2.more hl,h3,h4⟩
theorem VS.same{w w':World}{vp dp K:Nat}{P:Nat→Prop}{d:Dk}{v:Vl}(h:VS w vp dp P K d v)(hb:Below w.heap.size w w'):VTo w w' vp dp P K d v:=⟨h.below hb,KP.of hb⟩
theorem vright_yes(num most e:Nat)(h1:1≤num∧num≤65535)(h2:16≤most∧most≤16777216)(h3:e≤2147483647)(w:World):Calls Tryz.prog 43 #[.int .i64 num,.int .i64 most,.int .i64 e] w fun r w'=>r=.returned (.bool true)∧w=w':=by
 have i0:(0:Int)≤(e:Int):=by omega
 have i1:(1:Int)≤(num:Int):=by omega
 have i2:(num:Int)≤65535:=by omega
 have i3:(16:Int)≤(most:Int):=by omega
 have i4:(most:Int)≤16777216:=by omega
 have i5:(e:Int)≤2147483647:=by omega
 go_enter Tryz.func43,Tryz.ntmps43
 go_wp2
 go_ret
 exact ⟨rfl,rfl⟩
theorem file_any{w:World}{vp dp ix:Nat}{vx:Value}{v:Vl}(h:VolAt w vp dp ix vx v)(hn:NamesAt v.num v.gen):Calls Tryz.prog 83 #[(.pointer (some ⟨vp,0,none⟩))] w fun e w'=>e=.returned (.string ⟨v.file.toArray⟩)∧Below w.heap.size w w':=by
 obtain ⟨c0,c1,c2,c3,c4,c5,c6,c7⟩:=h.cells
 have HN:=Hd hn
 have HNV:=Hd (show namesV v.num v.gen=.tuple #[.string ⟨v.file.toArray⟩,.string ⟨(cName v.num v.gen).toArray⟩,.string ⟨(mName v.num).toArray⟩,.string ⟨(sName v.num).toArray⟩] from rfl)
 clear h hn
 go_enter Tryz.func83,Tryz.ntmps83
 go_upto_region 1 with fail
 obtain ⟨SS,HSD⟩:∃ SS:World→Prop,Hid (SS=fun w'=>w'.cell? ⟨vp,1,none⟩=some (.int .i64 v.num)∧w'.cell? ⟨vp,2,none⟩=some (.int .i64 v.gen)):=⟨_,Hd rfl⟩
 refine wp_region_mask0 SS [4,9] [0,1,3,7,15,0,32,96,224,480,1023,2047,4095,4095,4095,4095,8191,81919,229375,524287] (.op 0 0 (.op 1 0 (.op 2 0 (.op 3 0 (.op 4 2 (.op 5 0 (.op 6 0 (.op 7 0 (.op 8 0 (.op 9 2 (.op 10 1 (.op 11 0 (.op 12 0 (.op 13 0 (.op 14 0 (.op 15 0 (.op 16 0 (.op 17 0 (.op 18 0 (.op 19 0 .nil)))))))))))))))))))) (by kernel_rfl) (by kernel_rfl) rfl (by kernel_rfl) (by kernel_rfl) ?_ ?_
 (focus (rw [HSD.out];exact ⟨c1,c2⟩));(iterate 4 refine stepM0 rfl rfl fun K hK=>?_;go_simp;refine hK _ ?_;clear hK K);refine stepM2 rfl rfl ?_ (fun w1 hS=>?_) fun K hK=>?_;rotate_left;(focus (rw [HSD.out] at hS;obtain ⟨s1,s2⟩:=hS;go_simp;rfl));go_simp;refine hK _ ?_;clear hK K;(iterate 4 refine stepM0 rfl rfl fun K hK=>?_;go_simp;refine hK _ ?_;clear hK K);refine stepM2 rfl rfl ?_ (fun w1 hS=>?_) fun K hK=>?_;rotate_left;(focus (rw [HSD.out] at hS;obtain ⟨s1,s2⟩:=hS;go_simp;rfl));go_simp;refine hK _ ?_;clear hK K;refine stepM1 rfl rfl (by kernel_rfl) fun K hK=>?_
 (go_wp2_with fail;refine Calls.mono (HN.out _) ?_;rintro e w2 ⟨rfl,rfl⟩;rw [HNV.out];go_wp2)
 (iterate 9 refine stepM0 rfl rfl fun K hK=>?_;go_simp;refine hK _ ?_;clear hK K)
 try refine stepMnil0 ?_
 clear HSD SS
 go_wp2
 go_ret
 exact ⟨rfl,belo⟩
theorem errV_6:errV 6=.iface 99 (.int .i64 6):=rfl
theorem room_any{w:World}{vp dp ix:Nat}{vx:Value}{v:Vl}(h:VolAt w vp dp ix vx v)(key n:Nat)(_:n≤1000000)(hs:v.size≤v.most)(hm:v.most≤16777216) :
  Calls Tryz.prog 122 #[(.pointer (some ⟨vp,0,none⟩)),.int .u64 key,.int .i64 n] w fun e w'=>e=.returned (.bool (v.room key n))∧Below w.heap.size w w':=by
 obtain ⟨c0,c1,c2,c3,c4,c5,c6,c7⟩:=h.cells
 have H:=Hd h
 have hlt:=h.lt
 obtain ⟨gn,hgn⟩:∃ gn,gn=v.idx.countP fun p=>p.gone:=⟨_,rfl⟩
 obtain ⟨lv,hlv⟩:∃ lv,lv=v.idx.length - gn:=⟨_,rfl⟩
 have hgl:gn≤v.idx.length:=by rw [hgn];exact List.countP_le_length
 have hsum:lv+gn=v.idx.length:=by omega
 have hf:=h.idx.few
 have HLEN:=Hd (show ∀ wr,IxAt wr 0 ix vx v.idx→Calls Tryz.prog 114 #[(.pointer (some ⟨ix,0,none⟩))] wr fun e w'=>e=.returned (.tuple #[.int .i64 lv,.int .i64 gn])∧Below wr.heap.size wr w' from fun wr hw=>by
  rw [hlv,hgn]
  exact ilen_any 0 ix vx v.idx wr hw)
 obtain ⟨R,hR⟩:∃ R,R=v.room key n:=⟨_,rfl⟩
 rw [←hR]
 have HR:=Hd hR
 obtain ⟨L,hL⟩:∃ L,L=v.idx.length:=⟨_,rfl⟩
 rw [←hL] at hsum hf
 have HL:=Hd hL
 clear hgn hlv hgl hR h hL
 have hw1:IntKind.i64.wrap ((v.most:Int) - (v.size:Int))=(v.most:Int) - (v.size:Int):=by rw [IntKind.wrap_i64];omega
 have hw2:IntKind.i64.wrap ((lv:Int)+(gn:Int))=(lv:Int)+(gn:Int):=by rw [IntKind.wrap_i64];omega
 by_cases hA:v.size+n≤v.most
 ·have HA:=Hd hA
  have i1:(n:Int)≤(v.most:Int) - (v.size:Int):=by omega
  clear hA
  cases hfd:ixFind v.idx key with
  | some x=>
   have HF:=Hd hfd
   clear hfd
   go_enter Tryz.func122,Tryz.ntmps122
   go_wp2_with fail
   refine (ifind_yes 0 ix vx v.idx key x _ H.out.idx HF.out).mono ?_
   rintro e w1 ⟨rfl,hb1⟩
   have HB1:=Hd hb1
   have hz1:=hb1.size
   have hlt1:vp<w1.heap.size:=by omega
   obtain ⟨e0,e1,e2,e3,e4,e5,e6,e7⟩:=(H.out.below hb1).cells
   try unfold psV
   try rw [errV_6]
   clear hb1 c0 c1 c2 c3 c4 c5 c6 c7
   go_wp2_with fail
   refine (HLEN.out _ ((H.out.below HB1.out).below belo).idx).mono ?_
   rintro e w2 ⟨rfl,hb2⟩
   have HB2:=Hd (HB1.out.trans (show Below w.heap.size w1 w2 from Below.trans (Below.mono belo hz1) (hb2.mono (by first|exact hz1|(simp;omega)))))
   obtain ⟨g0,g1,g2,g3,g4,g5,g6,g7⟩:=(H.out.below HB2.out).cells
   clear hb2 e0 e1 e2 e3 e4 e5 e6 e7
   go_upto_region 3 with fail
   obtain ⟨SS,HSD⟩:∃ SS:World→Prop,Hid (SS=fun w'=>w'.cell? ⟨vp,5,none⟩=some (.int .i64 v.most)∧w'.cell? ⟨vp,6,none⟩=some (.int .i64 v.size)):=⟨_,Hd rfl⟩
   refine wp_region_mask0 SS [4,8] [0,0,2,6,14,0,32,96,224,510,1023,2047,4095,8191,16383,32767,32767,131071,262143,524287,1048575,2097151] (.op 0 0 (.op 1 0 (.op 2 0 (.op 3 0 (.op 4 2 (.op 5 0 (.op 6 0 (.op 7 0 (.op 8 2 (.op 9 0 (.op 10 0 (.op 11 0 (.op 12 0 (.op 13 0 (.op 14 0 (.op 15 0 (.op 16 0 (.op 17 0 (.op 18 0 (.op 19 0 (.op 20 0 (.op 21 0 .nil)))))))))))))))))))))) (by kernel_rfl) (by kernel_rfl) rfl (by kernel_rfl) (by kernel_rfl) ?_ ?_
   (focus (rw [HSD.out];exact ⟨g5,g6⟩));(iterate 4 refine stepM0 rfl rfl fun K hK=>?_;go_simp;refine hK _ ?_;clear hK K);refine stepM2 rfl rfl ?_ (fun w1 hS=>?_) fun K hK=>?_;rotate_left;(focus (rw [HSD.out] at hS;obtain ⟨s5,s6⟩:=hS;go_simp;rfl));go_simp;refine hK _ ?_;clear hK K;(iterate 3 refine stepM0 rfl rfl fun K hK=>?_;go_simp;refine hK _ ?_;clear hK K);refine stepM2 rfl rfl ?_ (fun w1 hS=>?_) fun K hK=>?_;rotate_left;(focus (rw [HSD.out] at hS;obtain ⟨s5,s6⟩:=hS;go_simp;rfl));go_simp;refine hK _ ?_;clear hK K;(iterate 6 refine stepM0 rfl rfl fun K hK=>?_;go_simp;refine hK _ ?_;clear hK K);(iterate 4 refine stepMy0 rfl rfl fun K hK=>?_;go_simp;refine hK _ ?_;clear hK K);(iterate 3 refine stepM0 rfl rfl fun K hK=>?_;go_simp;refine hK _ ?_;clear hK K)
   try refine stepMnil0 ?_
   clear HSD SS
   go_wp2
   go_ret
   refine ⟨?_,HB2.out.trans belo⟩
   rw [HR.out]
   exact ret_bool (by have h1:=HA.out;simp [Vl.room,HF.out,h1])
  | none=>
   have HF:=Hd hfd
   clear hfd
   by_cases hB:L<4096
   ·have HBB:=Hd hB
    have i2:(lv:Int)+(gn:Int)<4096:=by omega
    go_enter Tryz.func122,Tryz.ntmps122
    go_wp2_with fail
    refine (ifind_no 0 ix vx v.idx key _ H.out.idx HF.out).mono ?_
    rintro e w1 ⟨rfl,hb1⟩
    have HB1:=Hd hb1
    have hz1:=hb1.size
    have hlt1:vp<w1.heap.size:=by omega
    obtain ⟨e0,e1,e2,e3,e4,e5,e6,e7⟩:=(H.out.below hb1).cells
    try unfold psV
    try rw [errV_6]
    clear hb1 c0 c1 c2 c3 c4 c5 c6 c7
    go_wp2_with fail
    refine (HLEN.out _ ((H.out.below HB1.out).below belo).idx).mono ?_
    rintro e w2 ⟨rfl,hb2⟩
    have HB2:=Hd (HB1.out.trans (show Below w.heap.size w1 w2 from Below.trans (Below.mono belo hz1) (hb2.mono (by first|exact hz1|(simp;omega)))))
    obtain ⟨g0,g1,g2,g3,g4,g5,g6,g7⟩:=(H.out.below HB2.out).cells
    clear hb2 e0 e1 e2 e3 e4 e5 e6 e7
    go_upto_region 3 with fail
    obtain ⟨SS,HSD⟩:∃ SS:World→Prop,Hid (SS=fun w'=>w'.cell? ⟨vp,5,none⟩=some (.int .i64 v.most)∧w'.cell? ⟨vp,6,none⟩=some (.int .i64 v.size)):=⟨_,Hd rfl⟩
    refine wp_region_mask0 SS [4,8] [0,0,2,6,14,0,32,96,224,510,1023,2047,4095,8191,16383,32767,32767,131071,262143,524287,1048575,2097151] (.op 0 0 (.op 1 0 (.op 2 0 (.op 3 0 (.op 4 2 (.op 5 0 (.op 6 0 (.op 7 0 (.op 8 2 (.op 9 0 (.op 10 0 (.op 11 0 (.op 12 0 (.op 13 0 (.op 14 0 (.op 15 0 (.op 16 0 (.op 17 0 (.op 18 0 (.op 19 0 (.op 20 0 (.op 21 0 .nil)))))))))))))))))))))) (by kernel_rfl) (by kernel_rfl) rfl (by kernel_rfl) (by kernel_rfl) ?_ ?_
    (focus (rw [HSD.out];exact ⟨g5,g6⟩));(iterate 4 refine stepM0 rfl rfl fun K hK=>?_;go_simp;refine hK _ ?_;clear hK K);refine stepM2 rfl rfl ?_ (fun w1 hS=>?_) fun K hK=>?_;rotate_left;(focus (rw [HSD.out] at hS;obtain ⟨s5,s6⟩:=hS;go_simp;rfl));go_simp;refine hK _ ?_;clear hK K;(iterate 3 refine stepM0 rfl rfl fun K hK=>?_;go_simp;refine hK _ ?_;clear hK K);refine stepM2 rfl rfl ?_ (fun w1 hS=>?_) fun K hK=>?_;rotate_left;(focus (rw [HSD.out] at hS;obtain ⟨s5,s6⟩:=hS;go_simp;rfl));go_simp;refine hK _ ?_;clear hK K;(iterate 13 refine stepM0 rfl rfl fun K hK=>?_;go_simp;refine hK _ ?_;clear hK K)
    try refine stepMnil0 ?_
    clear HSD SS
    go_wp2
    go_ret
    refine ⟨?_,HB2.out.trans belo⟩
    rw [HR.out]
    exact ret_bool (by have h1:=HA.out;have h2:=HBB.out;rw [HL.out] at h2;simp [Vl.room,HF.out,h1,h2])
   ·have HBB:=Hd hB
    have i2:¬ (lv:Int)+(gn:Int)<4096:=by omega
    go_enter Tryz.func122,Tryz.ntmps122
    go_wp2_with fail
    refine (ifind_no 0 ix vx v.idx key _ H.out.idx HF.out).mono ?_
    rintro e w1 ⟨rfl,hb1⟩
    have HB1:=Hd hb1
    have hz1:=hb1.size
    have hlt1:vp<w1.heap.size:=by omega
    obtain ⟨e0,e1,e2,e3,e4,e5,e6,e7⟩:=(H.out.below hb1).cells
    try unfold psV
    try rw [errV_6]
    clear hb1 c0 c1 c2 c3 c4 c5 c6 c7
    go_wp2_with fail
    refine (HLEN.out _ ((H.out.below HB1.out).below belo).idx).mono ?_
    rintro e w2 ⟨rfl,hb2⟩
    have HB2:=Hd (HB1.out.trans (show Below w.heap.size w1 w2 from Below.trans (Below.mono belo hz1) (hb2.mono (by first|exact hz1|(simp;omega)))))
    obtain ⟨g0,g1,g2,g3,g4,g5,g6,g7⟩:=(H.out.below HB2.out).cells
    clear hb2 e0 e1 e2 e3 e4 e5 e6 e7
    go_upto_region 3 with fail
    obtain ⟨SS,HSD⟩:∃ SS:World→Prop,Hid (SS=fun w'=>w'.cell? ⟨vp,5,none⟩=some (.int .i64 v.most)∧w'.cell? ⟨vp,6,none⟩=some (.int .i64 v.size)):=⟨_,Hd rfl⟩
    refine wp_region_mask0 SS [4,8] [0,0,2,6,14,0,32,96,224,510,1023,2047,4095,8191,16383,32767,32767,131071,262143,524287,1048575,2097151] (.op 0 0 (.op 1 0 (.op 2 0 (.op 3 0 (.op 4 2 (.op 5 0 (.op 6 0 (.op 7 0 (.op 8 2 (.op 9 0 (.op 10 0 (.op 11 0 (.op 12 0 (.op 13 0 (.op 14 0 (.op 15 0 (.op 16 0 (.op 17 0 (.op 18 0 (.op 19 0 (.op 20 0 (.op 21 0 .nil)))))))))))))))))))))) (by kernel_rfl) (by kernel_rfl) rfl (by kernel_rfl) (by kernel_rfl) ?_ ?_
    (focus (rw [HSD.out];exact ⟨g5,g6⟩));(iterate 4 refine stepM0 rfl rfl fun K hK=>?_;go_simp;refine hK _ ?_;clear hK K);refine stepM2 rfl rfl ?_ (fun w1 hS=>?_) fun K hK=>?_;rotate_left;(focus (rw [HSD.out] at hS;obtain ⟨s5,s6⟩:=hS;go_simp;rfl));go_simp;refine hK _ ?_;clear hK K;(iterate 3 refine stepM0 rfl rfl fun K hK=>?_;go_simp;refine hK _ ?_;clear hK K);refine stepM2 rfl rfl ?_ (fun w1 hS=>?_) fun K hK=>?_;rotate_left;(focus (rw [HSD.out] at hS;obtain ⟨s5,s6⟩:=hS;go_simp;rfl));go_simp;refine hK _ ?_;clear hK K;(iterate 13 refine stepM0 rfl rfl fun K hK=>?_;go_simp;refine hK _ ?_;clear hK K)
    try refine stepMnil0 ?_
    clear HSD SS
    go_wp2
    go_ret
    refine ⟨?_,HB2.out.trans belo⟩
    rw [HR.out]
    exact ret_bool (by have h1:=HA.out;have h2:=HBB.out;rw [HL.out] at h2;simp [Vl.room,HF.out,h1];omega)
 ·have HA:=Hd hA
  have i1:decide ((n:Int)≤(v.most:Int) - (v.size:Int))=false:=by simp;omega
  clear hA
  cases hfd:ixFind v.idx key with
  | some x=>
   have HF:=Hd hfd
   clear hfd
   go_enter Tryz.func122,Tryz.ntmps122
   go_wp2_with fail
   refine (ifind_yes 0 ix vx v.idx key x _ H.out.idx HF.out).mono ?_
   rintro e w1 ⟨rfl,hb1⟩
   have HB1:=Hd hb1
   have hz1:=hb1.size
   have hlt1:vp<w1.heap.size:=by omega
   obtain ⟨e0,e1,e2,e3,e4,e5,e6,e7⟩:=(H.out.below hb1).cells
   try unfold psV
   try rw [errV_6]
   clear hb1 c0 c1 c2 c3 c4 c5 c6 c7
   go_wp2_with fail
   refine (HLEN.out _ ((H.out.below HB1.out).below belo).idx).mono ?_
   rintro e w2 ⟨rfl,hb2⟩
   have HB2:=Hd (HB1.out.trans (show Below w.heap.size w1 w2 from Below.trans (Below.mono belo hz1) (hb2.mono (by first|exact hz1|(simp;omega)))))
   obtain ⟨g0,g1,g2,g3,g4,g5,g6,g7⟩:=(H.out.below HB2.out).cells
   clear hb2 e0 e1 e2 e3 e4 e5 e6 e7
   go_upto_region 3 with fail
   obtain ⟨SS,HSD⟩:∃ SS:World→Prop,Hid (SS=fun w'=>w'.cell? ⟨vp,5,none⟩=some (.int .i64 v.most)∧w'.cell? ⟨vp,6,none⟩=some (.int .i64 v.size)):=⟨_,Hd rfl⟩
   refine wp_region_mask0 SS [4,8] [0,0,2,6,14,0,32,96,224,510,1023,2047,4095,8191,16383,32767,32767,131071,262143,524287,1048575,2097151] (.op 0 0 (.op 1 0 (.op 2 0 (.op 3 0 (.op 4 2 (.op 5 0 (.op 6 0 (.op 7 0 (.op 8 2 (.op 9 0 (.op 10 0 (.op 11 0 (.op 12 0 (.op 13 0 (.op 14 0 (.op 15 0 (.op 16 0 (.op 17 0 (.op 18 0 (.op 19 0 (.op 20 0 (.op 21 0 .nil)))))))))))))))))))))) (by kernel_rfl) (by kernel_rfl) rfl (by kernel_rfl) (by kernel_rfl) ?_ ?_
   (focus (rw [HSD.out];exact ⟨g5,g6⟩));(iterate 4 refine stepM0 rfl rfl fun K hK=>?_;go_simp;refine hK _ ?_;clear hK K);refine stepM2 rfl rfl ?_ (fun w1 hS=>?_) fun K hK=>?_;rotate_left;(focus (rw [HSD.out] at hS;obtain ⟨s5,s6⟩:=hS;go_simp;rfl));go_simp;refine hK _ ?_;clear hK K;(iterate 3 refine stepM0 rfl rfl fun K hK=>?_;go_simp;refine hK _ ?_;clear hK K);refine stepM2 rfl rfl ?_ (fun w1 hS=>?_) fun K hK=>?_;rotate_left;(focus (rw [HSD.out] at hS;obtain ⟨s5,s6⟩:=hS;go_simp;rfl));go_simp;refine hK _ ?_;clear hK K;(iterate 3 refine stepM0 rfl rfl fun K hK=>?_;go_simp;refine hK _ ?_;clear hK K);(iterate 8 refine stepMy0 rfl rfl fun K hK=>?_;go_simp;refine hK _ ?_;clear hK K);(iterate 2 refine stepM0 rfl rfl fun K hK=>?_;go_simp;refine hK _ ?_;clear hK K)
   try refine stepMnil0 ?_
   clear HSD SS
   go_wp2
   go_ret
   refine ⟨?_,HB2.out.trans belo⟩
   rw [HR.out]
   exact ret_bool (by have h1:=HA.out;simp [Vl.room,HF.out];omega)
  | none=>
   have HF:=Hd hfd
   clear hfd
   go_enter Tryz.func122,Tryz.ntmps122
   go_wp2_with fail
   refine (ifind_no 0 ix vx v.idx key _ H.out.idx HF.out).mono ?_
   rintro e w1 ⟨rfl,hb1⟩
   have HB1:=Hd hb1
   have hz1:=hb1.size
   have hlt1:vp<w1.heap.size:=by omega
   obtain ⟨e0,e1,e2,e3,e4,e5,e6,e7⟩:=(H.out.below hb1).cells
   try unfold psV
   try rw [errV_6]
   clear hb1 c0 c1 c2 c3 c4 c5 c6 c7
   go_wp2_with fail
   refine (HLEN.out _ ((H.out.below HB1.out).below belo).idx).mono ?_
   rintro e w2 ⟨rfl,hb2⟩
   have HB2:=Hd (HB1.out.trans (show Below w.heap.size w1 w2 from Below.trans (Below.mono belo hz1) (hb2.mono (by first|exact hz1|(simp;omega)))))
   obtain ⟨g0,g1,g2,g3,g4,g5,g6,g7⟩:=(H.out.below HB2.out).cells
   clear hb2 e0 e1 e2 e3 e4 e5 e6 e7
   go_upto_region 3 with fail
   obtain ⟨SS,HSD⟩:∃ SS:World→Prop,Hid (SS=fun w'=>w'.cell? ⟨vp,5,none⟩=some (.int .i64 v.most)∧w'.cell? ⟨vp,6,none⟩=some (.int .i64 v.size)):=⟨_,Hd rfl⟩
   refine wp_region_mask0 SS [4,8] [0,0,2,6,14,0,32,96,224,510,1023,2047,4095,8191,16383,32767,32767,131071,262143,524287,1048575,2097151] (.op 0 0 (.op 1 0 (.op 2 0 (.op 3 0 (.op 4 2 (.op 5 0 (.op 6 0 (.op 7 0 (.op 8 2 (.op 9 0 (.op 10 0 (.op 11 0 (.op 12 0 (.op 13 0 (.op 14 0 (.op 15 0 (.op 16 0 (.op 17 0 (.op 18 0 (.op 19 0 (.op 20 0 (.op 21 0 .nil)))))))))))))))))))))) (by kernel_rfl) (by kernel_rfl) rfl (by kernel_rfl) (by kernel_rfl) ?_ ?_
   (focus (rw [HSD.out];exact ⟨g5,g6⟩));(iterate 4 refine stepM0 rfl rfl fun K hK=>?_;go_simp;refine hK _ ?_;clear hK K);refine stepM2 rfl rfl ?_ (fun w1 hS=>?_) fun K hK=>?_;rotate_left;(focus (rw [HSD.out] at hS;obtain ⟨s5,s6⟩:=hS;go_simp;rfl));go_simp;refine hK _ ?_;clear hK K;(iterate 3 refine stepM0 rfl rfl fun K hK=>?_;go_simp;refine hK _ ?_;clear hK K);refine stepM2 rfl rfl ?_ (fun w1 hS=>?_) fun K hK=>?_;rotate_left;(focus (rw [HSD.out] at hS;obtain ⟨s5,s6⟩:=hS;go_simp;rfl));go_simp;refine hK _ ?_;clear hK K;(iterate 3 refine stepM0 rfl rfl fun K hK=>?_;go_simp;refine hK _ ?_;clear hK K);(iterate 8 refine stepMy0 rfl rfl fun K hK=>?_;go_simp;refine hK _ ?_;clear hK K);(iterate 2 refine stepM0 rfl rfl fun K hK=>?_;go_simp;refine hK _ ?_;clear hK K)
   try refine stepMnil0 ?_
   clear HSD SS
   go_wp2
   go_ret
   refine ⟨?_,HB2.out.trans belo⟩
   rw [HR.out]
   exact ret_bool (by have h1:=HA.out;simp [Vl.room,HF.out];omega)
theorem found_any(off:Int)(n:Nd)(a:Option Addr)(c:Nat)(w:World) :
  Calls Tryz.prog 82 #[.agg #[.int .i64 off,.int .i64 0,.int .u64 n.key,.int .u32 n.cookie,.bool n.gone,.slice a n.data.length c]] w fun e w'=>e=.returned (.agg #[.int .u64 n.key,.int .i64 off,.int .i64 n.data.length,.int .u32 n.cookie,.bool n.gone])∧Below w.heap.size w w':=by
 obtain ⟨key,cookie,gone,data⟩:=n
 simp only
 go_enter Tryz.func82,Tryz.ntmps82
 go_wp2
 refine bodyPost_ret (v:=?_) ?_ rfl ?_
 rotate_left;(focus (simp [results,Tryz.results82,go_sem];exact rfl))
 exact ⟨rfl,belo⟩
theorem DS.step{w w':World}{d K:Nat}{P F R:Nat→Prop}{st:Dk}(h:DS w d P K st)(hk:Keeps F w w')(hF:∀ k,F k→P k)(hr:∀ k,R k→P k∨w.heap.size≤k):DS w' d R K st:=by
 obtain ⟨G,q,h1,h2,h3⟩:=h
 exact ⟨G,q,h1.keeps hk (fun k hg e=>(h3 k hg).1 (hF k e)),h2,fun k hg=>⟨fun e=>(hr k e).elim (h3 k hg).1 fun e=>by have:=(h3 k hg).2;omega,Nat.lt_of_lt_of_le (h3 k hg).2 hk.size⟩⟩
theorem iput_any(base ix:Nat)(v:Value)(l:List Ps)(p:Ps)(w:World)(h:IxAt w base ix v l)(hr:(ixFind l p.key).isSome=true∨l.length<4096) :
  Calls Tryz.prog 98 #[.pointer (some ⟨ix,0,none⟩),psV p] w fun e w'=>e=.returned .nilIface∧IxTo w base ix v (ixPut l p) w':=by
 cases hfd:ixFind l p.key with
 | some q=>exact iput_old base ix v l p q w h hfd
 | none=>
  rw [hfd] at hr
  exact iput_new base ix v l p w h hfd (hr.resolve_left (by simp))
theorem write_vs{w:World}{vp dp K:Nat}{P:Nat→Prop}{d:Dk}{v:Vl}(h:VS w vp dp P K d v)(hP:∀ k,P k→k<w.heap.size)(n:Nd)(a:Option Addr)(c:Nat)(hk:n.key<18446744073709551616)(hc:n.cookie<4294967296)(hd:n.data.length≤1000000000)(hr:Reads w 1 (.slice a n.data.length c) n.data.length (n.data.map bv)) :
  Calls Tryz.prog 78 #[(.pointer (some ⟨vp,0,none⟩)),ndV n a c] w fun e w'=>e=.returned (errV (v.write d n).1)∧VTo w w' vp dp P K (v.write d n).2.1 (v.write d n).2.2:=by
 by_cases hch:ndCheck n=0
 case neg=>
  have HC:=Hd (nput_bad n a c hch hd)
  have HH:=Hd h
  have HW:=Hd (show v.write d n=(ndCheck n,d,v) by unfold Vl.write;rw [if_pos hch])
  have HCH:=Hd (errV_ne (k:=(ndCheck n:Int)) (by omega))
  rw [HW.out]
  obtain ⟨key,cookie,gone,data⟩:=n
  unfold ndV
  unfold ndV at HC
  simp only at HC ⊢
  clear h hP hk hc hd hr hch
  go_enter Tryz.func78,Tryz.ntmps78
  go_wp2_with fail
  refine (HC.out _).mono ?_
  rintro e w1 ⟨rfl,hb1⟩
  rw [HCH.out]
  have HB1:=Hd (show Below w.heap.size w w1 from Below.trans belo (hb1.mono (by simp)))
  clear hb1
  go_wp2_with fail
  go_ret
  exact ⟨by rw [HCH.out];rfl,HH.out.same HB1.out⟩
 obtain ⟨ix,vx,hv,hds,hF,hok⟩:=h
 have HV:=Hd hv
 have HDS:=Hd hds
 have HFT:=Hd hF
 have HOK:=Hd hok
 have HPP:=Hd hP
 have hlt:=hv.lt
 have hd4:n.data.length≤4096:=by
  unfold ndCheck at hch
  split at hch
  ·omega
  ·omega
 have HPUT:=Hd (fun (w0:World) (hb:Below w.heap.size w w0)=>nput_any n a c hk hc hch hd4 w0 (hr.below hb))
 have HBL:=Hd (ndBytes_len n)
 have HSZ:=Hd (ndSize_le hd4)
 have HCH:=Hd hch
 have HD4:=Hd hd4
 have HKK:=Hd hk
 obtain ⟨key,cookie,gone,data⟩:=n
 unfold ndV
 unfold ndV at HPUT
 simp only at HPUT HD4 HKK ⊢
 clear hv hds hF hok hP hr hch hd4 hk hc hd
 go_enter Tryz.func78,Tryz.ntmps78
 go_wp2_with fail
 obtain ⟨w0,hw0⟩:∃ w0:World,w0=w.alloc (.cells #[.int .u64 key,.int .u32 cookie,.bool gone,.slice a data.length c] 60):=⟨_,rfl⟩
 have HB0:=Hd (show Below w.heap.size w w0 by rw [hw0];exact belo)
 have kb0:w0.heap[w.heap.size]? = some (.cells #[.int .u64 key,.int .u32 cookie,.bool gone,.slice a data.length c] 60 (0,0)):=by rw [hw0];exact heap_new w _
 have hl0:=blk_lt kb0
 rw [←hw0]
 clear hw0
 refine (HPUT.out _ HB0.out).mono ?_
 rintro e w1 ⟨vb,rfl,ho1,hb1⟩
 have HB1:=Hd (HB0.out.trans (hb1.mono HB0.out.size))
 have kb1:=(hb1.block w.heap.size hl0).trans kb0
 have hl1:=blk_lt kb1
 rw [HBL.out] at ho1
 obtain ⟨N,hN⟩:∃ N,N=ndSize data.length:=⟨_,rfl⟩
 have hN1:N≤4128:=by rw [hN];exact HSZ.out.2
 have HN:=Hd hN
 rw [show ndSize (Nd.data ⟨key,cookie,gone,data⟩).length=N from hN.symm] at ho1
 obtain ⟨ab,cb,rfl,-⟩:=slice_of ho1
 have HO1:=Hd ho1
 obtain ⟨x0,x1,x2,x3⟩:=ncells kb1
 have HK1:=Hd kb1
 clear hb1 kb0 hl0 ho1 hN kb1
 go_wp2_with fail
 have hz1:=HB1.out.size
 obtain ⟨R,hR⟩:∃ R,R=v.room key N:=⟨_,rfl⟩
 have HR:=Hd hR
 have HRM:=Hd (room_any (HV.out.below HB1.out) key N (by omega) HOK.out.size HOK.out.most)
 rw [←hR] at HRM
 clear hR
 refine HRM.out.mono ?_
 rintro e w2 ⟨rfl,hb2⟩
 have HB2:=Hd (HB1.out.trans (hb2.mono HB1.out.size))
 have HK2:=Hd ((hb2.block w.heap.size hl1).trans HK1.out)
 have HO2:=Hd (ownsRow_below HO1.out hb2)
 have hl2:=blk_lt HK2.out
 have hz12:=hb2.size
 clear hb2 HRM x0 x1 x2 x3
 cases R with
 | false=>
  have HW:=Hd (show v.write d ⟨key,cookie,gone,data⟩=(11,d,v) by
   unfold Vl.write
   rw [if_neg (by simpa using HCH.out),if_pos (by rw [←HN.out];exact HR.out.symm)])
  go_wp2_with fail
  go_ret
  rw [HW.out]
  exact ⟨rfl,(show VS w vp dp P K d v from ⟨ix,vx,HV.out,HDS.out,HFT.out,HOK.out⟩).same HB2.out⟩
 | true=>
  have hz2:=HB2.out.size
  obtain ⟨Q,hQ⟩:∃ Q:Nat→Prop,Q=fun k=>(P k∨VFoot vp ix vx k)∨(w.heap.size≤k∧k<w2.heap.size):=⟨_,rfl⟩
  have HQ:=Hd hQ
  clear hQ
  have HQ1:=Hd (show ∀ wr:World,w2.heap.size≤wr.heap.size→∀ k,Q k→k<wr.heap.size from fun wr hs k hk=>by
   rw [HQ.out] at hk
   rcases hk with (hk|hk)|hk
   ·have:=HPP.out k hk
    omega
   ·have:=(HFT.out k hk).2
    omega
   ·omega)
  have HD2:=Hd (show DS w2 dp Q K d from HDS.out.later HB2.out (fun k hk=>by
   rw [HQ.out] at hk
   exact hk.imp id (fun h=>h.1)))
  have HVK:=Hd (show ∀ wr,KP Q w2 wr→VolAt wr vp dp ix vx v from fun wr hk=>(HV.out.below HB2.out).keeps hk (fun k hk e=>e (by rw [HQ.out];exact .inl (.inr hk))))
  have HRK:=Hd (show ∀ wr,KP Q w2 wr→Reads wr 1 (.slice ab N cb) (ndBytes ⟨key,cookie,gone,data⟩).length ((ndBytes ⟨key,cookie,gone,data⟩).map bv) from fun wr hk=>by
   rw [HBL.out,show ndSize (Nd.data ⟨key,cookie,gone,data⟩).length=N from HN.out.symm]
   exact reads_of_owns (hk.row HO2.out (fun k hk=>by rw [HQ.out];exact .inr ⟨(HO1.out.lt k hk).1 |> Nat.le_trans HB0.out.size,Nat.lt_of_lt_of_le (HO1.out.lt k hk).2 (by omega)⟩)))
  have kv:=(HV.out.below HB2.out).cells.1
  go_upto_region 6 with fail
  obtain ⟨SS,HSD⟩:∃ SS:World→Prop,Hid (SS=fun w'=>w'.cell? ⟨vp,0,none⟩=some (.pointer (some ⟨dp,0,none⟩))):=⟨_,Hd rfl⟩
  refine wp_region_mask0 SS [3] [0,1,3,7,0,16,0,127,255] (.op 0 0 (.op 1 0 (.op 2 0 (.op 3 2 (.op 4 0 (.op 6 0 (.op 5 1 (.op 7 1 (.op 8 0 .nil))))))))) (by kernel_rfl) (by kernel_rfl) rfl (by kernel_rfl) (by kernel_rfl) ?_ ?_
  (focus (rw [HSD.out];exact kv));(iterate 3 refine stepM0 rfl rfl fun K hK=>?_;go_simp;refine hK _ ?_;clear hK K);refine stepM2 rfl rfl ?_ (fun w1 hS=>?_) fun K hK=>?_;rotate_left;(focus (rw [HSD.out] at hS;have s0:=hS;go_simp;rfl));go_simp;refine hK _ ?_;clear hK K;(iterate 2 refine stepM0 rfl rfl fun K hK=>?_;go_simp;refine hK _ ?_;clear hK K);refine stepM1S rfl rfl fun K hK=>?_
  (go_wp2_with fail;refine Calls.mono (file_any ((HV.out.below HB2.out).below belo) HOK.out.names) ?_;rintro e w3 ⟨rfl,hb3⟩;have HB3:=Hd (show Below w2.heap.size w2 w3 from Below.trans belo (hb3.mono (by first|exact Nat.le_refl _|(simp;done)|omega)));have kv3:=((HV.out.below HB2.out).below HB3.out).cells.1;clear hb3;go_wp2)
  refine ⟨by rw [HSD.out];exact (kv3),?_⟩
  refine stepM1 rfl rfl (by kernel_rfl) fun K hK=>?_
  (go_wp2_with fail;refine Calls.mono (append_ds (HD2.out.below HB3.out) (HQ1.out _ HB3.out.size) v.file (.slice ab N cb) (ndBytes ⟨key,cookie,gone,data⟩) HOK.out.long.1 (HRK.out _ (KP.of HB3.out))) ?_;rintro e w4 ⟨rfl,ht⟩;have HD4':=Hd ht.1;have HK4:=Hd (KP.trans (KP.of HB3.out) ht.2);have hz4:=Nat.le_trans HB3.out.size ht.2.size;clear ht;obtain ⟨k,hk⟩:∃ k:Nat,k=(d.append v.file (ndBytes ⟨key,cookie,gone,data⟩)).1:=⟨_,rfl⟩;rw [←hk];have HAK:=Hd hk;clear hk;go_upto_region 7 with fail)
  refine stepM0 rfl rfl fun K hK=>?_;go_simp;refine hK _ ?_;clear hK K
  try refine stepMnil0 ?_
  clear HSD SS
  have HV4:=Hd (HVK.out w4 HK4.out)
  by_cases hk0:k=0
  case neg=>
   have HNE:=Hd (errV_ne (k:=(k:Int)) (by omega))
   have HW:=Hd (show v.write d ⟨key,cookie,gone,data⟩=((d.append v.file (ndBytes ⟨key,cookie,gone,data⟩)).1,(d.append v.file (ndBytes ⟨key,cookie,gone,data⟩)).2,v) by
    unfold Vl.write
    rw [if_neg (by simpa using HCH.out),if_neg (by rw [←HN.out,←HR.out];simp),if_pos (by rw [←HAK.out];exact hk0)])
   rw [HNE.out]
   go_wp2_with fail
   go_ret
   rw [HW.out]
   refine ⟨by rw [←HAK.out,HNE.out];rfl,⟨ix,vx,HV4.out,HD4'.out.less (fun k hk=>by rw [HQ.out];exact .inl hk),fun k hk=>⟨(HFT.out k hk).1,Nat.lt_of_lt_of_le (HFT.out k hk).2 (by omega)⟩,HOK.out⟩,KP.trans (KP.of HB2.out) (HK4.out.mono (fun k _ hk=>by rw [HQ.out];exact .inl (.inl hk)))⟩
  have HA0:=Hd (show (d.append v.file (ndBytes ⟨key,cookie,gone,data⟩)).1=0 by rw [←HAK.out];exact hk0)
  rw [hk0,show errV ((0:Nat):Int)=.nilIface from rfl]
  clear hk0 HAK
  have HK4B:=Hd (HK4.out.blk HK2.out (by rw [HQ.out];exact .inr ⟨Nat.le_refl _,by omega⟩))
  obtain ⟨y0,y1,y2,y3⟩:=ncells (HK4.out.blk HK2.out (by rw [HQ.out];exact .inr ⟨Nat.le_refl _,by omega⟩))
  have HRO:=Hd (show (ixFind v.idx key).isSome=true∨v.idx.length<4096 by
   have:=HR.out
   simp only [Vl.room,Eq.comm (a:=true),Bool.and_eq_true,Bool.or_eq_true,decide_eq_true_eq] at this
   exact this.2)
  obtain ⟨e0,e1,e2,e3,e4,e5,e6,e7⟩:=HV4.out.cells
  go_upto_region 9 with fail
  obtain ⟨SS,HSD⟩:∃ SS:World→Prop,Hid (SS=fun w'=>w'.cell? ⟨vp,7,none⟩=some (.pointer (some ⟨ix,0,none⟩))∧w'.cell? ⟨vp,6,none⟩=some (.int .i64 v.size)∧w'.cell? ⟨w.heap.size,0,none⟩=some (.int .u64 key)∧w'.cell? ⟨w.heap.size,1,none⟩=some (.int .u32 cookie)∧w'.cell? ⟨w.heap.size,2,none⟩=some (.bool gone)∧w'.cell? ⟨w.heap.size,3,none⟩=some (.slice a data.length c)):=⟨_,Hd rfl⟩
  refine wp_region_mask0 SS [3,7,8] [0,1,3,7,0,16,48,112,0,496,1008,2047] (.op 0 0 (.op 1 0 (.op 2 0 (.op 3 2 (.op 4 0 (.op 5 0 (.op 6 0 (.op 7 2 (.op 8 2 (.op 9 0 (.op 10 1 (.op 11 1 .nil)))))))))))) (by kernel_rfl) (by kernel_rfl) rfl (by kernel_rfl) (by kernel_rfl) ?_ ?_
  (focus (rw [HSD.out];exact ⟨e7,e6,y0,y1,y2,y3⟩));(iterate 3 refine stepM0 rfl rfl fun K hK=>?_;go_simp;refine hK _ ?_;clear hK K);refine stepM2 rfl rfl ?_ (fun w1 hS=>?_) fun K hK=>?_;rotate_left;(focus (rw [HSD.out] at hS;obtain ⟨s0,s1,s2,s3,s4,s5⟩:=hS;go_simp;rfl));go_simp;refine hK _ ?_;clear hK K;(iterate 3 refine stepM0 rfl rfl fun K hK=>?_;go_simp;refine hK _ ?_;clear hK K);refine stepM2 rfl rfl ?_ (fun w1 hS=>?_) fun K hK=>?_;rotate_left;(focus (rw [HSD.out] at hS;obtain ⟨s0,s1,s2,s3,s4,s5⟩:=hS;go_simp;rfl));go_simp;refine hK _ ?_;clear hK K;refine stepM2 rfl rfl ?_ (fun w1 hS=>?_) fun K hK=>?_;rotate_left;(focus (rw [HSD.out] at hS;obtain ⟨s0,s1,s2,s3,s4,s5⟩:=hS;go_simp;rfl));go_simp;refine hK _ ?_;clear hK K;refine stepM0 rfl rfl fun K hK=>?_;go_simp;refine hK _ ?_;clear hK K;refine stepM1S rfl rfl fun K hK=>?_
  (go_wp2_with fail;refine Calls.mono (found_any v.size ⟨key,cookie,gone,data⟩ a c _) ?_;rintro e w5 ⟨rfl,hb5⟩;have HB5:=Hd (show Below w4.heap.size w4 w5 from Below.trans belo (hb5.mono (by first|exact Nat.le_refl _|(simp;done)|omega)));have hk5:=(HV4.out.below HB5.out).cells;have hz5:=HB5.out.size;clear hb5;go_wp2)
  refine ⟨by rw [HSD.out];exact (⟨hk5.2.2.2.2.2.2.2,hk5.2.2.2.2.2.2.1,ncells ((HB5.out.block _ (blk_lt HK4B.out)).trans HK4B.out)⟩),?_⟩
  refine stepM1 rfl rfl (by kernel_rfl) fun K hK=>?_
  (go_wp2_with fail;refine Calls.mono (iput_any 0 ix vx v.idx (posOf v.size ⟨key,cookie,gone,data⟩) _ (HV4.out.below HB5.out).idx HRO.out) ?_;rintro e w6 ⟨rfl,ht⟩;have HT6:=Hd ht;clear ht;go_upto_region 10 with fail)
  try refine stepMnil0 ?_
  clear HSD SS
  obtain ⟨vx',hi6,hnew,hkp6⟩:=HT6.out
  have hvp5:vp<w5.heap.size:=(HV4.out.below HB5.out).lt
  have kb6:=(hkp6.block vp hvp5 (fun e=>e.elim HV.out.ne HV.out.nv)).trans (HV4.out.below HB5.out).blk
  have HI6:=Hd hi6
  have HNW:=Hd hnew
  have HKP6:=Hd hkp6
  have HKB6:=Hd kb6
  have hz6:=hkp6.size
  have m6:w6.cell? ⟨vp,6,none⟩=some (.int .i64 v.size):=by rw [cell_of_row w6 vp 6 _ _ _ kb6];rfl
  have n6:=frozen_of_row w6 vp 6 _ _ kb6
  have hss:=HOK.out.size
  have hsm:=HOK.out.most
  have hw7:IntKind.i64.wrap ((v.size:Int)+(N:Int))=(v.size:Int)+(N:Int):=by rw [IntKind.wrap_i64];omega
  clear hi6 hnew hkp6 kb6
  go_upto_region 11 with fail
  obtain ⟨w7,hw7'⟩:∃ w7:World,w7=w6.setCell ⟨vp,6,none⟩ (.int .i64 ((v.size:Int)+(N:Int))):=⟨_,rfl⟩
  obtain ⟨v',hv'⟩:∃ v':Vl,v' = { v with idx:=ixPut v.idx (posOf v.size ⟨key,cookie,gone,data⟩),size:=v.size+ndSize data.length }:=⟨_,rfl⟩
  have HV':=Hd hv'
  have HK7:=Hd (show Keeps (fun b=>b=vp) w6 w7 by rw [hw7'];exact (Keeps.refl (fun b=>b=vp) w6).setCell ⟨vp,6,none⟩ (.int .i64 ((v.size:Int)+(N:Int))) (fun _=>rfl))
  have HNV:=Hd (show vx'.ownBlock≠some vp from fun e=>(HNW.out vp e).elim HV.out.nv (fun h=>by omega))
  have HV7:=Hd (show VolAt w7 vp dp ix vx' v' by
   refine ⟨?_,?_,HV.out.ne,HNV.out⟩
   ·rw [hv',hw7']
    have:=heap_setCell_same w6 vp 6 _ _ (.int .i64 ((v.size:Int)+(N:Int))) HKB6.out
    simp only [Int.natCast_add,←HN.out]
    simpa using this
   ·rw [hv']
    exact HI6.out.keeps HK7.out (fun e=>HV.out.ne e.symm) (fun k hk e=>HNV.out (by rw [hk,e])))
  rw [←hw7']
  have hz7:=HK7.out.size
  have HD6:=Hd (show DS w6 dp (fun k=>P k∨VFoot vp ix vx' k) K (d.append v.file (ndBytes ⟨key,cookie,gone,data⟩)).2 from (HD4'.out.below HB5.out).step HKP6.out (fun k hk=>by
   rw [HQ.out]
   exact .inl (.inr (.inr hk))) (fun k hk=>by
   rw [HQ.out]
   rcases hk with hk|hk|hk|hk
   ·exact .inl (.inl (.inl hk))
   ·exact .inl (.inl (.inr (.inl hk)))
   ·exact .inl (.inl (.inr (.inr (.inl hk))))
   ·exact (HNW.out k hk).imp (fun h=>.inl (.inr (.inr (.inr h)))) id))
  have HD7:=Hd (HD6.out.step HK7.out (fun k e=>.inr (.inl e)) (fun k hk=>.inl hk))
  have HFT7:=Hd (show ∀ wr:World,w7.heap.size≤wr.heap.size→∀ k,VFoot vp ix vx' k→¬ P k∧k<wr.heap.size from fun wr hs k hk=>by
   have hi:=HV7.out.idx.lt
   have hv:=HV7.out.lt
   rcases hk with hk|hk|hk
   ·exact ⟨(HFT.out k (.inl hk)).1,by omega⟩
   ·exact ⟨(HFT.out k (.inr (.inl hk))).1,by omega⟩
   ·have h1:=(HV7.out.idx.row.lt k hk).2
    refine ⟨?_,by omega⟩
    rcases HNW.out k hk with h|h
    ·exact (HFT.out k (.inr (.inr h))).1
    ·intro e
     have:=HPP.out k e
     omega)
  have HQ7:=Hd (show ∀ wr:World,w7.heap.size≤wr.heap.size→∀ k,P k∨VFoot vp ix vx' k→k<wr.heap.size from fun wr hs k hk=>by
   rcases hk with hk|hk
   ·have:=HPP.out k hk
    omega
   ·exact (HFT7.out wr hs k hk).2)
  have HOK7:=Hd (show VOk v' by
   rw [hv']
   refine ⟨HOK.out.names,HOK.out.right,?_,HOK.out.most,HOK.out.long⟩
   have:=HR.out
   simp only [Vl.room,Eq.comm (a:=true),Bool.and_eq_true,Bool.or_eq_true,decide_eq_true_eq] at this
   have h:=this.1
   rw [HN.out] at h
   exact h)
  have HFL:=Hd (show v'.file=v.file by rw [hv'];rfl)
  have kv7:=HV7.out.cells.1
  clear hw7' hv' m6 n6
  obtain ⟨SS,HSD⟩:∃ SS:World→Prop,Hid (SS=fun w'=>w'.cell? ⟨vp,0,none⟩=some (.pointer (some ⟨dp,0,none⟩))):=⟨_,Hd rfl⟩
  refine wp_region_mask0 SS [3] [0,1,3,7,0,16,63,127] (.op 0 0 (.op 1 0 (.op 2 0 (.op 3 2 (.op 4 0 (.op 5 1 (.op 6 1 (.op 7 0 .nil)))))))) (by kernel_rfl) (by kernel_rfl) rfl (by kernel_rfl) (by kernel_rfl) ?_ ?_
  (focus (rw [HSD.out];exact kv7));(iterate 3 refine stepM0 rfl rfl fun K hK=>?_;go_simp;refine hK _ ?_;clear hK K);refine stepM2 rfl rfl ?_ (fun w1 hS=>?_) fun K hK=>?_;rotate_left;(focus (rw [HSD.out] at hS;have s0:=hS;go_simp;rfl));go_simp;refine hK _ ?_;clear hK K;refine stepM0 rfl rfl fun K hK=>?_;go_simp;refine hK _ ?_;clear hK K;refine stepM1S rfl rfl fun K hK=>?_
  (go_wp2_with fail;refine Calls.mono (file_any (HV7.out.below belo) HOK7.out.names) ?_;rintro e w8 ⟨rfl,hb8⟩;rw [HFL.out];have HB8:=Hd (show Below w7.heap.size w7 w8 from Below.trans belo (hb8.mono (by first|exact Nat.le_refl _|(simp;done)|omega)));have kv8:=(HV7.out.below HB8.out).cells.1;clear hb8;go_wp2)
  refine ⟨by rw [HSD.out];exact (kv8),?_⟩
  refine stepM1 rfl rfl (by kernel_rfl) fun K hK=>?_
  (go_wp2_with fail;refine Calls.mono (sync_ds (HD7.out.below HB8.out) (HQ7.out _ HB8.out.size) v.file HOK.out.long.1) ?_;rintro e w9 ⟨rfl,ht⟩;have HT9:=Hd ht;have hz9:=ht.2.size;clear ht;go_wp2)
  refine stepM0 rfl rfl fun K hK=>?_;go_simp;refine hK _ ?_;clear hK K
  try refine stepMnil0 ?_
  clear HSD SS
  go_wp2
  go_ret
  have HW:=Hd (show v.write d ⟨key,cookie,gone,data⟩=(((d.append v.file (ndBytes ⟨key,cookie,gone,data⟩)).2.sync v.file).1,((d.append v.file (ndBytes ⟨key,cookie,gone,data⟩)).2.sync v.file).2,v') by
   rw [HV'.out]
   unfold Vl.write
   rw [if_neg (by simpa using HCH.out),if_neg (by rw [←HN.out,←HR.out];simp),if_neg (by simpa using HA0.out)])
  rw [HW.out]
  have KV:KP (fun k=>P k∨VFoot vp ix vx' k) w7 w9:=KP.trans (KP.of HB8.out) HT9.out.2
  refine ⟨rfl,⟨ix,vx',HV7.out.keeps KV (fun k hk e=>e (.inr hk)),HT9.out.1,HFT7.out _ (Nat.le_trans HB8.out.size hz9),HOK7.out⟩,?_⟩
  have k1:KP P w w4:=KP.trans (KP.of HB2.out) (HK4.out.mono (fun k _ hk=>by rw [HQ.out];exact .inl (.inl hk)))
  have k2:KP P w4 w5:=KP.of HB5.out
  have k3:KP P w5 w6:=Keeps.mono HKP6.out (fun k _ hk e=>(HFT.out k (.inr hk)).1 e)
  have k4:KP P w6 w7:=Keeps.mono HK7.out (fun k _ hk e=>(HFT.out k (.inl hk)).1 e)
  exact KP.trans k1 (KP.trans k2 (KP.trans k3 (KP.trans k4 (KV.mono (fun k _ hk=>.inl hk)))))
def Vl.state (v:Vl) (key:Nat):Nat:=match ixFind v.idx key with|none=>0|some p=>if p.gone=true then 7 else 8
theorem state_any{w:World}{vp dp ix:Nat}{vx:Value}{v:Vl}(h:VolAt w vp dp ix vx v)(key:Nat) :
  Calls Tryz.prog 77 #[(.pointer (some ⟨vp,0,none⟩)),.int .u64 key] w fun e w'=>e=.returned (errV (v.state key))∧Below w.heap.size w w':=by
 obtain ⟨c0,c1,c2,c3,c4,c5,c6,c7⟩:=h.cells
 have H:=Hd h
 have hlt:=h.lt
 obtain ⟨R,hR⟩:∃ R,R=v.state key:=⟨_,rfl⟩
 rw [←hR]
 have HR:=Hd hR
 clear h hR
 cases hfd:ixFind v.idx key with
 | some x=>
  have HF:=Hd hfd
  clear hfd
  obtain ⟨xk,xo,xl,xc,xg⟩:=x
  cases xg
  ·have HE:=Hd (show R=8 by rw [HR.out,Vl.state,HF.out];rfl)
   go_enter Tryz.func77,Tryz.ntmps77
   go_wp2_with fail
   refine (ifind_yes 0 ix vx v.idx key _ _ H.out.idx HF.out).mono ?_
   rintro e w1 ⟨rfl,hb1⟩
   have HB1:=Hd hb1
   have hz1:=hb1.size
   unfold psV
   clear hb1
   go_wp2_with fail
   go_ret
   exact ⟨by rw [HE.out];rfl,HB1.out.trans belo⟩
  ·have HE:=Hd (show R=7 by rw [HR.out,Vl.state,HF.out];rfl)
   go_enter Tryz.func77,Tryz.ntmps77
   go_wp2_with fail
   refine (ifind_yes 0 ix vx v.idx key _ _ H.out.idx HF.out).mono ?_
   rintro e w1 ⟨rfl,hb1⟩
   have HB1:=Hd hb1
   have hz1:=hb1.size
   unfold psV
   clear hb1
   go_wp2_with fail
   go_ret
   exact ⟨by rw [HE.out];rfl,HB1.out.trans belo⟩
 | none=>
  have HF:=Hd hfd
  clear hfd
  have HE:=Hd (show R=0 by rw [HR.out,Vl.state,HF.out])
  go_enter Tryz.func77,Tryz.ntmps77
  go_wp2_with fail
  refine (ifind_no 0 ix vx v.idx key _ H.out.idx HF.out).mono ?_
  rintro e w1 ⟨rfl,hb1⟩
  have HB1:=Hd hb1
  have hz1:=hb1.size
  unfold psV
  rw [errV_6]
  clear hb1
  go_wp2_with fail
  go_ret
  exact ⟨by rw [HE.out];rfl,HB1.out.trans belo⟩
theorem put_eq(v:Vl)(d:Dk)(n:Nd):v.put d n=if n.gone=true then (1,d,v) else if ndCheck n≠0 then (ndCheck n,d,v) else if v.shut=true then (10,d,v) else if v.state n.key≠0 then (v.state n.key,d,v) else v.write d n:=by
 unfold Vl.put Vl.state
 cases ixFind v.idx n.key with
 | none=>simp
 | some p=>by_cases hp:p.gone=true <;> simp [hp]
theorem put_vs{w:World}{vp dp K:Nat}{P:Nat→Prop}{d:Dk}{v:Vl}(h:VS w vp dp P K d v)(hP:∀ k,P k→k<w.heap.size)(n:Nd)(a:Option Addr)(c:Nat)(hk:n.key<18446744073709551616)(hc:n.cookie<4294967296)(hd:n.data.length≤1000000000)(hr:Reads w 1 (.slice a n.data.length c) n.data.length (n.data.map bv)) :
  Calls Tryz.prog 40 #[(.pointer (some ⟨vp,0,none⟩)),ndV n a c] w fun e w'=>e=.returned (errV (v.put d n).1)∧VTo w w' vp dp P K (v.put d n).2.1 (v.put d n).2.2:=by
 have HH:=Hd h
 have hlt:vp<w.heap.size:=by obtain ⟨_,_,h1,_⟩:=h;exact h1.lt
 have HPE:=Hd (put_eq v d n)
 have HWR:=Hd (fun (w0:World) (hb:Below w.heap.size w w0)=>write_vs (h.below hb) (fun k hk=>Nat.lt_of_lt_of_le (hP k hk) hb.size) n a c hk hc hd (hr.below hb))
 have HCK:=Hd (fun w0=>ncheck_any n a c hd w0)
 obtain ⟨ix,vx,hv,-⟩:=h
 have HV:=Hd hv
 have HST:=Hd (fun (w0:World) (hb:Below w.heap.size w w0)=>state_any (hv.below hb) n.key)
 obtain ⟨k1,hk1⟩:∃ k1,k1=ndCheck n:=⟨_,rfl⟩
 obtain ⟨k2,hk2⟩:∃ k2,k2=v.state n.key:=⟨_,rfl⟩
 rw [←hk1] at HPE HCK
 rw [←hk2] at HPE HST
 obtain ⟨key,cookie,gone,data⟩:=n
 unfold ndV at HWR HCK ⊢
 simp only at HWR HCK HST HPE ⊢
 clear hv hP hk hc hd hr hk1 hk2
 cases gone with
 | true=>
  have HW:=Hd (HPE.out.trans (if_pos rfl))
  rw [HW.out]
  go_enter Tryz.func40,Tryz.ntmps40
  go_wp2_with fail
  go_ret
  exact ⟨rfl,HH.out.same belo⟩
 | false=>
  go_enter Tryz.func40,Tryz.ntmps40
  go_wp2_with fail
  obtain ⟨w0,hw0⟩:∃ w0:World,w0=w.alloc (.cells #[.int .u64 key,.int .u32 cookie,.bool false,.slice a data.length c] 60):=⟨_,rfl⟩
  have HB0:=Hd (show Below w.heap.size w w0 by rw [hw0];exact belo)
  have kb0:w0.heap[w.heap.size]? = some (.cells #[.int .u64 key,.int .u32 cookie,.bool false,.slice a data.length c] 60 (0,0)):=by rw [hw0];exact heap_new w _
  have hl0:=blk_lt kb0
  rw [←hw0]
  clear hw0
  refine (HCK.out _).mono ?_
  rintro e w1 ⟨rfl,hb1⟩
  have HB1:=Hd (HB0.out.trans (hb1.mono HB0.out.size))
  have kb1:=(hb1.block w.heap.size hl0).trans kb0
  have hl1:=blk_lt kb1
  obtain ⟨x0,x1,x2,x3⟩:=ncells kb1
  obtain ⟨e0,e1,e2,e3,e4,e5,e6,e7⟩:=(HV.out.below HB1.out).cells
  clear hb1 kb0 hl0
  by_cases hk0:k1=0
  case neg=>
   have HNE:=Hd (errV_ne (k:=(k1:Int)) (by omega))
   have HW:=Hd (HPE.out.trans ((if_neg (by simp)).trans (if_pos hk0)))
   rw [HNE.out]
   go_wp2_with fail
   go_ret
   rw [HW.out]
   exact ⟨by rw [HNE.out];rfl,HH.out.same HB1.out⟩
  rw [hk0,show errV ((0:Nat):Int)=.nilIface from rfl]
  have HK1:=Hd hk0
  clear hk0
  obtain ⟨sh,hsh⟩:∃ sh,sh=v.shut:=⟨_,rfl⟩
  rw [←hsh] at e4
  have HSH:=Hd hsh
  clear hsh
  cases sh with
  | true=>
   have HW:=Hd (HPE.out.trans ((if_neg (by simp)).trans ((if_neg (by simpa using HK1.out)).trans (if_pos HSH.out.symm))))
   go_wp2_with fail
   go_ret
   rw [HW.out]
   exact ⟨rfl,HH.out.same HB1.out⟩
  | false=>
   go_wp2_with fail
   refine (HST.out _ HB1.out).mono ?_
   rintro e w2 ⟨rfl,hb2⟩
   have HB2:=Hd (HB1.out.trans (hb2.mono HB1.out.size))
   obtain ⟨y0,y1,y2,y3⟩:=ncells ((hb2.block w.heap.size hl1).trans kb1)
   clear hb2 x0 x1 x2 x3
   by_cases hk0:k2=0
   case neg=>
    have HNE:=Hd (errV_ne (k:=(k2:Int)) (by omega))
    have HW:=Hd (HPE.out.trans ((if_neg (by simp)).trans ((if_neg (by simpa using HK1.out)).trans ((if_neg (by rw [←HSH.out];simp)).trans (if_pos hk0)))))
    rw [HNE.out]
    go_wp2_with fail
    go_ret
    rw [HW.out]
    exact ⟨by rw [HNE.out];rfl,HH.out.same HB2.out⟩
   have HW:=Hd (HPE.out.trans ((if_neg (by simp)).trans ((if_neg (by simpa using HK1.out)).trans ((if_neg (by rw [←HSH.out];simp)).trans (if_neg (by simpa using hk0))))))
   rw [hk0,show errV ((0:Nat):Int)=.nilIface from rfl]
   clear hk0
   obtain ⟨r,hr⟩:∃ r,r=v.write d ⟨key,cookie,false,data⟩:=⟨_,rfl⟩
   rw [←hr] at HWR HW
   clear hr
   go_wp2_with fail
   refine (HWR.out _ HB2.out).mono ?_
   rintro e w3 ⟨rfl,ht⟩
   have HT:=Hd ht
   clear ht
   go_wp2_with fail
   go_ret
   rw [HW.out]
   exact ⟨rfl,HT.out.1,KP.trans (KP.of HB2.out) HT.out.2⟩
theorem alloc_blk{w:World}{b:Nat}{x:Obj}(h:w.heap[b]? = some x)(o:Obj):(w.alloc o).heap[b]? = some x:=(Below.heap_alloc _ _ _ (blk_lt h)).trans h
theorem set5_below{B b:Nat}{w:World}(h:B≤b)(u0 u1 u2 u3 u4:Value):Below B w (set5 w b u0 u1 u2 u3 u4):=by
 unfold set5
 exact belo
theorem vfind_any{w:World}{vp dp ix:Nat}{vx:Value}{v:Vl}(h:VolAt w vp dp ix vx v)(key cookie:Nat) :
  Calls Tryz.prog 79 #[(.pointer (some ⟨vp,0,none⟩)),.int .u64 key,.int .u32 cookie] w fun e w'=>e=.returned (.tuple #[psV (v.find key cookie).2,errV (v.find key cookie).1])∧Below w.heap.size w w':=by
 obtain ⟨c0,c1,c2,c3,c4,c5,c6,c7⟩:=h.cells
 have H:=Hd h
 have hlt:=h.lt
 obtain ⟨R,hR⟩:∃ R,R=v.find key cookie:=⟨_,rfl⟩
 rw [←hR]
 have HR:=Hd hR
 clear h hR
 cases hfd:ixFind v.idx key with
 | none=>
  have HF:=Hd hfd
  clear hfd
  have HE:=Hd (show R=(6,⟨0,0,0,0,false⟩) by rw [HR.out,Vl.find,HF.out])
  go_enter Tryz.func79,Tryz.ntmps79
  go_wp2_with fail
  obtain ⟨w0,hw0⟩:∃ w0:World,w0=w.alloc (.cells #[.int .u64 0,.int .i64 0,.int .i64 0,.int .u32 0,.bool false] 152):=⟨_,rfl⟩
  have HB0:=Hd (show Below w.heap.size w w0 by rw [hw0];exact belo)
  have kb0:w0.heap[w.heap.size]? = some (.cells #[.int .u64 0,.int .i64 0,.int .i64 0,.int .u32 0,.bool false] 152 (0,0)):=by rw [hw0];exact heap_new w _
  have hl0:=blk_lt kb0
  rw [←hw0]
  clear hw0
  refine (ifind_no 0 ix vx v.idx key _ (H.out.below HB0.out).idx HF.out).mono ?_
  rintro e w1 ⟨rfl,hb1⟩
  have HB1:=Hd (HB0.out.trans (hb1.mono HB0.out.size))
  have kb1:=(hb1.block w.heap.size hl0).trans kb0
  have hz1:=HB1.out.size
  have hl1:=blk_lt kb1
  obtain ⟨f0,f1,f2,f3,f4⟩:=pfree kb1
  obtain ⟨q0,q1,q2,q3,q4⟩:=pcells kb1
  unfold psV
  try rw [errV_6]
  clear kb0 hb1
  go_wp2
  obtain ⟨wf,hwf⟩:∃ wf,wf=(set5 w1 w.heap.size (.int .u64 0) (.int .i64 0) (.int .i64 0) (.int .u32 0) (.bool false)).alloc (.cells #[.int .u64 0,.int .i64 0,.int .i64 0,.int .u32 0,.bool false] 152):=⟨_,rfl⟩
  have hb5:=set5_below (w:=w1) (B:=w.heap.size) (b:=w.heap.size) (Nat.le_refl _) (.int .u64 0) (.int .i64 0) (.int .i64 0) (.int .u32 0) (.bool false)
  have HB2:=Hd (show Below w.heap.size w wf by rw [hwf];exact HB1.out.trans (hb5.alloc (Nat.le_trans hz1 hb5.size) _))
  have kb2:=alloc_blk (store5 kb1 (.int .u64 0) (.int .i64 0) (.int .i64 0) (.int .u32 0) (.bool false)) (.cells #[.int .u64 0,.int .i64 0,.int .i64 0,.int .u32 0,.bool false] 152)
  rw [←hwf] at kb2
  obtain ⟨s0,s1,s2,s3,s4⟩:=pcells kb2
  unfold set5 at hwf
  rw [←hwf]
  refine bodyPost_ret (v:=?_) ?_ rfl ?_
  rotate_left;(focus (simp [results,Tryz.results79,go_sem,s0,s1,s2,s3,s4];exact rfl))
  exact ⟨by rw [HE.out];rfl,HB2.out⟩
 | some x=>
  have HF:=Hd hfd
  clear hfd
  obtain ⟨xk,xo,xl,xc,xg⟩:=x
  cases xg
  case true=>
   have HE:=Hd (show R=(7,⟨0,0,0,0,false⟩) by rw [HR.out,Vl.find,HF.out];rfl)
   go_enter Tryz.func79,Tryz.ntmps79
   go_wp2_with fail
   obtain ⟨w0,hw0⟩:∃ w0:World,w0=w.alloc (.cells #[.int .u64 0,.int .i64 0,.int .i64 0,.int .u32 0,.bool false] 152):=⟨_,rfl⟩
   have HB0:=Hd (show Below w.heap.size w w0 by rw [hw0];exact belo)
   have kb0:w0.heap[w.heap.size]? = some (.cells #[.int .u64 0,.int .i64 0,.int .i64 0,.int .u32 0,.bool false] 152 (0,0)):=by rw [hw0];exact heap_new w _
   have hl0:=blk_lt kb0
   rw [←hw0]
   clear hw0
   refine (ifind_yes 0 ix vx v.idx key _ _ (H.out.below HB0.out).idx HF.out).mono ?_
   rintro e w1 ⟨rfl,hb1⟩
   have HB1:=Hd (HB0.out.trans (hb1.mono HB0.out.size))
   have kb1:=(hb1.block w.heap.size hl0).trans kb0
   have hz1:=HB1.out.size
   have hl1:=blk_lt kb1
   obtain ⟨f0,f1,f2,f3,f4⟩:=pfree kb1
   obtain ⟨q0,q1,q2,q3,q4⟩:=pcells kb1
   unfold psV
   try rw [errV_6]
   clear kb0 hb1
   go_wp2
   obtain ⟨wf,hwf⟩:∃ wf,wf=(set5 w1 w.heap.size (.int .u64 0) (.int .i64 0) (.int .i64 0) (.int .u32 0) (.bool false)).alloc (.cells #[.int .u64 xk,.int .i64 xo,.int .i64 xl,.int .u32 xc,.bool true] 152):=⟨_,rfl⟩
   have hb5:=set5_below (w:=w1) (B:=w.heap.size) (b:=w.heap.size) (Nat.le_refl _) (.int .u64 0) (.int .i64 0) (.int .i64 0) (.int .u32 0) (.bool false)
   have HB2:=Hd (show Below w.heap.size w wf by rw [hwf];exact HB1.out.trans (hb5.alloc (Nat.le_trans hz1 hb5.size) _))
   have kb2:=alloc_blk (store5 kb1 (.int .u64 0) (.int .i64 0) (.int .i64 0) (.int .u32 0) (.bool false)) (.cells #[.int .u64 xk,.int .i64 xo,.int .i64 xl,.int .u32 xc,.bool true] 152)
   rw [←hwf] at kb2
   obtain ⟨s0,s1,s2,s3,s4⟩:=pcells kb2
   unfold set5 at hwf
   rw [←hwf]
   refine bodyPost_ret (v:=?_) ?_ rfl ?_
   rotate_left;(focus (simp [results,Tryz.results79,go_sem,s0,s1,s2,s3,s4];exact rfl))
   exact ⟨by rw [HE.out];rfl,HB2.out⟩
  case false=>
   by_cases hcc:xc=cookie
   ·subst hcc
    have HE:=Hd (show R=(0,⟨xk,xo,xl,xc,false⟩) by rw [HR.out,Vl.find,HF.out];simp)
    go_enter Tryz.func79,Tryz.ntmps79
    go_wp2_with fail
    obtain ⟨w0,hw0⟩:∃ w0:World,w0=w.alloc (.cells #[.int .u64 0,.int .i64 0,.int .i64 0,.int .u32 0,.bool false] 152):=⟨_,rfl⟩
    have HB0:=Hd (show Below w.heap.size w w0 by rw [hw0];exact belo)
    have kb0:w0.heap[w.heap.size]? = some (.cells #[.int .u64 0,.int .i64 0,.int .i64 0,.int .u32 0,.bool false] 152 (0,0)):=by rw [hw0];exact heap_new w _
    have hl0:=blk_lt kb0
    rw [←hw0]
    clear hw0
    refine (ifind_yes 0 ix vx v.idx key _ _ (H.out.below HB0.out).idx HF.out).mono ?_
    rintro e w1 ⟨rfl,hb1⟩
    have HB1:=Hd (HB0.out.trans (hb1.mono HB0.out.size))
    have kb1:=(hb1.block w.heap.size hl0).trans kb0
    have hz1:=HB1.out.size
    have hl1:=blk_lt kb1
    obtain ⟨f0,f1,f2,f3,f4⟩:=pfree kb1
    obtain ⟨q0,q1,q2,q3,q4⟩:=pcells kb1
    unfold psV
    try rw [errV_6]
    clear kb0 hb1
    go_wp2
    obtain ⟨wf,hwf⟩:∃ wf,wf=(set5 w1 w.heap.size (.int .u64 xk) (.int .i64 xo) (.int .i64 xl) (.int .u32 xc) (.bool false)).alloc (.cells #[.int .u64 xk,.int .i64 xo,.int .i64 xl,.int .u32 xc,.bool false] 152):=⟨_,rfl⟩
    have hb5:=set5_below (w:=w1) (B:=w.heap.size) (b:=w.heap.size) (Nat.le_refl _) (.int .u64 xk) (.int .i64 xo) (.int .i64 xl) (.int .u32 xc) (.bool false)
    have HB2:=Hd (show Below w.heap.size w wf by rw [hwf];exact HB1.out.trans (hb5.alloc (Nat.le_trans hz1 hb5.size) _))
    have kb2:=alloc_blk (store5 kb1 (.int .u64 xk) (.int .i64 xo) (.int .i64 xl) (.int .u32 xc) (.bool false)) (.cells #[.int .u64 xk,.int .i64 xo,.int .i64 xl,.int .u32 xc,.bool false] 152)
    rw [←hwf] at kb2
    obtain ⟨s0,s1,s2,s3,s4⟩:=pcells kb2
    unfold set5 at hwf
    rw [←hwf]
    refine bodyPost_ret (v:=?_) ?_ rfl ?_
    rotate_left;(focus (simp [results,Tryz.results79,go_sem,s0,s1,s2,s3,s4];exact rfl))
    exact ⟨by rw [HE.out];rfl,HB2.out⟩
   ·have HE:=Hd (show R=(9,⟨0,0,0,0,false⟩) by rw [HR.out,Vl.find,HF.out];simp [hcc])
    have hcb:((xc:Int) == (cookie:Int))=false:=by simp;omega
    have hci:¬ (xc:Int)=(cookie:Int):=by omega
    clear hcc
    go_enter Tryz.func79,Tryz.ntmps79
    go_wp2_with fail
    obtain ⟨w0,hw0⟩:∃ w0:World,w0=w.alloc (.cells #[.int .u64 0,.int .i64 0,.int .i64 0,.int .u32 0,.bool false] 152):=⟨_,rfl⟩
    have HB0:=Hd (show Below w.heap.size w w0 by rw [hw0];exact belo)
    have kb0:w0.heap[w.heap.size]? = some (.cells #[.int .u64 0,.int .i64 0,.int .i64 0,.int .u32 0,.bool false] 152 (0,0)):=by rw [hw0];exact heap_new w _
    have hl0:=blk_lt kb0
    rw [←hw0]
    clear hw0
    refine (ifind_yes 0 ix vx v.idx key _ _ (H.out.below HB0.out).idx HF.out).mono ?_
    rintro e w1 ⟨rfl,hb1⟩
    have HB1:=Hd (HB0.out.trans (hb1.mono HB0.out.size))
    have kb1:=(hb1.block w.heap.size hl0).trans kb0
    have hz1:=HB1.out.size
    have hl1:=blk_lt kb1
    obtain ⟨f0,f1,f2,f3,f4⟩:=pfree kb1
    obtain ⟨q0,q1,q2,q3,q4⟩:=pcells kb1
    unfold psV
    try rw [errV_6]
    clear kb0 hb1
    go_wp2
    obtain ⟨wf,hwf⟩:∃ wf,wf=(set5 w1 w.heap.size (.int .u64 0) (.int .i64 0) (.int .i64 0) (.int .u32 0) (.bool false)).alloc (.cells #[.int .u64 xk,.int .i64 xo,.int .i64 xl,.int .u32 xc,.bool false] 152):=⟨_,rfl⟩
    have hb5:=set5_below (w:=w1) (B:=w.heap.size) (b:=w.heap.size) (Nat.le_refl _) (.int .u64 0) (.int .i64 0) (.int .i64 0) (.int .u32 0) (.bool false)
    have HB2:=Hd (show Below w.heap.size w wf by rw [hwf];exact HB1.out.trans (hb5.alloc (Nat.le_trans hz1 hb5.size) _))
    have kb2:=alloc_blk (store5 kb1 (.int .u64 0) (.int .i64 0) (.int .i64 0) (.int .u32 0) (.bool false)) (.cells #[.int .u64 xk,.int .i64 xo,.int .i64 xl,.int .u32 xc,.bool false] 152)
    rw [←hwf] at kb2
    obtain ⟨s0,s1,s2,s3,s4⟩:=pcells kb2
    unfold set5 at hwf
    rw [←hwf]
    refine bodyPost_ret (v:=?_) ?_ rfl ?_
    rotate_left;(focus (simp [results,Tryz.results79,go_sem,s0,s1,s2,s3,s4];exact rfl))
    exact ⟨by rw [HE.out];rfl,HB2.out⟩
theorem keys_any{w:World}{vp dp ix:Nat}{vx:Value}{v:Vl}(h:VolAt w vp dp ix vx v)(key:Nat)(most:Int) :
  Calls Tryz.prog 64 #[(.pointer (some ⟨vp,0,none⟩)),.int .u64 key,.int .i64 most] w fun e w'=>∃ v',e=.returned v'∧w'.ownsRow w.heap.size 152 5 v' (v.keys key most).length ((v.keys key most).flatMap psC)∧Below w.heap.size w w':=by
 obtain ⟨c0,c1,c2,c3,c4,c5,c6,c7⟩:=h.cells
 have HC:=Hd (show Calls Tryz.prog 113 #[(.pointer (some ⟨ix,0,none⟩)),.int .u64 key,.int .i64 most] w fun e w'=>∃ v',e=.returned v'∧w'.ownsRow w.heap.size 152 5 v' (v.keys key most).length ((v.keys key most).flatMap psC)∧Below w.heap.size w w' by
  by_cases hm:most<1
  ·have e:v.keys key most=[]:=if_pos hm
   rw [e]
   refine (ifrom_few 0 ix vx v.idx key most w h.idx hm).mono ?_
   rintro e w' ⟨rfl,rfl⟩
   exact ⟨_,rfl,World.ownsRow_nil _ _ _ _,Below.refl _ _⟩
  ·have e:v.keys key most=(v.idx.drop (ixAt v.idx key)).take most.toNat:=if_neg hm
   rw [e]
   exact ifrom_any 0 ix vx v.idx key most w h.idx (by omega))
 have hlt:=h.lt
 clear h
 go_enter Tryz.func64,Tryz.ntmps64
 go_wp2_with fail
 refine HC.out.mono ?_
 rintro e w1 ⟨v1,rfl,ho,hb⟩
 have HO:=Hd ho
 have HB:=Hd hb
 clear ho hb
 go_wp2_with fail
 go_ret
 exact ⟨v1,rfl,HO.out,HB.out⟩
section
variable {d:Dk} {num most epoch:Nat}
theorem make_8(h:hasName d (mName num)=true):d.make num most epoch=(8,d,⟨num,1,epoch,false,most,16,[]⟩):=if_pos h
theorem make_f(h:hasName d (mName num)=false)(h1:(d.fresh (vName num 1) (superB num 1)).1≠0):d.make num most epoch=((d.fresh (vName num 1) (superB num 1)).1,(d.fresh (vName num 1) (superB num 1)).2,⟨num,1,epoch,false,most,16,[]⟩):=by
 unfold Dk.make
 simp only
 rw [if_neg (by rw [h];simp),if_pos h1]
theorem make_l(h:hasName d (mName num)=false)(h1:(d.fresh (vName num 1) (superB num 1)).1=0):d.make num most epoch=(((d.fresh (vName num 1) (superB num 1)).2.lay num 1 epoch false).1,((d.fresh (vName num 1) (superB num 1)).2.lay num 1 epoch false).2,⟨num,1,epoch,false,most,16,[]⟩):=by
 unfold Dk.make
 simp only
 rw [if_neg (by rw [h];simp),if_neg (by rw [h1];simp)]
end
def MadeV (w:World) (dp:Nat) (P:Nat→Prop) (K:Nat) (r:Nat×Dk×Vl) (e:Ending) (w':World):Prop:=
 (r.1=0∧∃ vp,e=.returned (.tuple #[(.pointer (some ⟨vp,0,none⟩)),.nilIface])∧VTo w w' vp dp P K r.2.1 r.2.2)∨(r.1≠0∧e=.returned (.tuple #[.pointer none,errV r.1])∧DTo w w' dp P K r.2.1)
theorem VS.made{w:World}{dp K:Nat}{P:Nat→Prop}{d:Dk}{v:Vl}(h:DS w dp P K d)(hv:v.idx=[])(hok:VOk v)(hP:∀ k,P k→k<w.heap.size) :
  VS ((w.alloc (.cells #[.slice none 0 0] 186)).alloc (.cells #[(.pointer (some ⟨dp,0,none⟩)),.int .i64 v.num,.int .i64 v.gen,.int .i64 v.epoch,.bool v.shut,.int .i64 v.most,.int .i64 v.size,(.pointer (some ⟨w.heap.size,0,none⟩))] 118)) (w.heap.size+1) dp P K d v:=by
 obtain ⟨w1,hw1⟩:∃ w1:World,w1=w.alloc (.cells #[.slice none 0 0] 186):=⟨_,rfl⟩
 have hz1:w1.heap.size=w.heap.size+1:=by rw [hw1];exact World.size_alloc _ _
 have hx:=IxAt.made w 0 (Nat.zero_le _)
 rw [←hw1] at hx ⊢
 obtain ⟨w2,hw2⟩:∃ w2:World,w2=w1.alloc (.cells #[(.pointer (some ⟨dp,0,none⟩)),.int .i64 v.num,.int .i64 v.gen,.int .i64 v.epoch,.bool v.shut,.int .i64 v.most,.int .i64 v.size,(.pointer (some ⟨w.heap.size,0,none⟩))] 118):=⟨_,rfl⟩
 have hb:w2.heap[w1.heap.size]? = some (.cells #[(.pointer (some ⟨dp,0,none⟩)),.int .i64 v.num,.int .i64 v.gen,.int .i64 v.epoch,.bool v.shut,.int .i64 v.most,.int .i64 v.size,(.pointer (some ⟨w.heap.size,0,none⟩))] 118 (0,0)):=by rw [hw2];exact heap_new w1 _
 have hz2:w2.heap.size=w.heap.size+2:=by rw [hw2,World.size_alloc,hz1]
 have hB1:Below w.heap.size w w1:=by rw [hw1];exact belo
 have hB2:Below w1.heap.size w1 w2:=by rw [hw2];exact belo
 rw [←hw2]
 rw [hz1] at hb
 have hx2:=hx.below hB2
 have hf:∀ k,VFoot (w.heap.size+1) w.heap.size (.slice none 0 0) k→¬ P k∧k<w2.heap.size∧w.heap.size≤k:=by
  rintro k (rfl|rfl|hk)
  ·exact ⟨fun e=>by have:=hP _ e;omega,by omega,by omega⟩
  ·exact ⟨fun e=>by have:=hP _ e;omega,by omega,by omega⟩
  ·simp [Value.ownBlock] at hk
 refine ⟨w.heap.size,.slice none 0 0,⟨hb,by rw [hv];exact hx2,by omega,by simp [Value.ownBlock]⟩,?_,fun k hk=>⟨(hf k hk).1,(hf k hk).2.1⟩,hok⟩
 exact h.later (hB1.trans (hB2.mono (by omega))) (fun k hk=>hk.imp id fun e=>(hf k e).2.2)
theorem make_ds{dp K:Nat}{P:Nat→Prop}{d:Dk}{w:World}(h:DS w dp P K d)(hP:∀ k,P k→k<w.heap.size)(hK:K+5<1099511627776)(num most epoch:Nat)(h1:1≤num∧num≤65535)(h2:16≤most∧most≤16777216)(h3:epoch≤2147483647)(hN:NamesAt num 1)
  (hl:(vName num 1).length≤maxLen∧(sName num).length≤maxLen∧(mName num).length≤maxLen) :
  Calls Tryz.prog 12 #[(.pointer (some ⟨dp,0,none⟩)),.int .i64 num,.int .i64 most,.int .i64 epoch] w (MadeV w dp P (K+5) (d.make num most epoch)):=by
 have H:=Hd h
 have HP:=Hd hP
 have HNA:=Hd hN
 have HLL:=Hd hl
 have HRT:=Hd (fun w0=>vright_yes num most epoch h1 h2 h3 w0)
 have HSU:=Hd (fun w0=>psuper_any num 1 (by simp [rightV];omega) w0)
 have HRV:=Hd (show rightV num 1 epoch=true by simp [rightV];omega)
 obtain ⟨F,hF⟩:∃ F,F=vName num 1:=⟨_,rfl⟩
 obtain ⟨M,hM⟩:∃ M,M=mName num:=⟨_,rfl⟩
 have HF:=Hd hF
 have HM:=Hd hM
 have HNV:=Hd (show namesV num 1=.tuple #[.string ⟨F.toArray⟩,.string ⟨(cName num 1).toArray⟩,.string ⟨M.toArray⟩,.string ⟨(sName num).toArray⟩] by rw [hF,hM];rfl)
 have HVO:=Hd (show VOk ⟨num,1,epoch,false,most,16,[]⟩ from ⟨hN,HRV.out,h2.1,h2.2,hl⟩)
 clear h hP hN hl hF hM h1 h2 h3
 go_enter Tryz.func12,Tryz.ntmps12
 go_wp2_with fail
 refine (HNA.out _).mono ?_
 rintro r wn ⟨rfl,rfl⟩
 rw [HNV.out]
 go_wp2_with fail
 refine (HRT.out _).mono ?_
 rintro r wn ⟨rfl,rfl⟩
 go_wp2_with fail
 refine (names_ds H.out).mono ?_
 rintro r w3 ⟨vn,rfl,ho3,hb3⟩
 have HB3:=Hd hb3
 have HD3:=Hd (H.out.below hb3)
 have hz3:=hb3.size
 have hn64:=H.out.ok.lnow
 obtain ⟨an,cn,rfl,-⟩:=slice_of ho3
 have HCT:=Hd (scontains_any w.heap.size d.now.length (.slice an d.now.length cn) (namesOf d.now) M w3 (namesOf_len d.now).symm (by omega) ho3)
 rw [show decide (M∈namesOf d.now)=hasName d (mName num) by rw [HM.out];exact has_names d (mName num)] at HCT
 clear ho3 hb3 hn64
 go_wp2_with fail
 refine HCT.out.mono ?_
 rintro r w3' ⟨rfl,rfl⟩
 clear HCT
 obtain ⟨q,hq⟩:∃ q,q=hasName d (mName num):=⟨_,rfl⟩
 rw [←hq]
 have HHN:=Hd hq
 clear hq
 cases q
 case true=>
  go_wp2_with fail
  go_ret2
  have e:=make_8 (most:=most) (epoch:=epoch) HHN.out.symm
  exact .inr ⟨by rw [e];exact Nat.succ_ne_zero 7,by rw [e];rfl,by rw [e];exact ⟨HD3.out.more (by omega),KP.of HB3.out⟩⟩
 go_wp2_with fail
 refine (HSU.out _).mono ?_
 rintro r w4 ⟨vb,rfl,ho4,hb4⟩
 have HB4:=Hd (HB3.out.trans (hb4.mono hz3))
 have ho4':=ownsRow_mono ho4 hz3
 have HO4:=Hd ho4'
 obtain ⟨a,c,rfl,-⟩:=slice_of ho4'
 clear ho4 hb4 ho4'
 have hz4:=HB4.out.size
 obtain ⟨Q,hQ⟩:∃ Q:Nat→Prop,Q=fun k=>P k∨(w.heap.size≤k∧k<w4.heap.size):=⟨_,rfl⟩
 have HQ:=Hd hQ
 clear hQ
 have HQ1:=Hd (show ∀ wr:World,w4.heap.size≤wr.heap.size→∀ k,Q k→k<wr.heap.size from fun wr hs k hk=>by
  rw [HQ.out] at hk
  rcases hk with hk|hk
  ·have:=HP.out k hk
   omega
  ·omega)
 have HD4:=Hd (show DS w4 dp Q K d from H.out.later HB4.out (fun k hk=>by
  rw [HQ.out] at hk
  exact hk.imp id (fun h=>h.1)))
 have HVQ:=Hd (show ∀ k,(Value.slice a 16 c).ownBlock=some k→Q k from fun k hk=>by
  rw [HQ.out]
  exact .inr (HO4.out.lt k hk))
 have HOUT:=Hd (show ∀ (wr:World) (L:Nat) (x:Dk),DS wr dp Q L x→KP Q w4 wr→L≤K+5→DTo w wr dp P (K+5) x from fun wr L x h1 h2 h3=>by
  refine ⟨(h1.more h3).less (fun k hk=>by rw [HQ.out];exact .inl hk),?_⟩
  refine KP.trans (KP.of HB4.out) (h2.mono (fun k _ hk=>by rw [HQ.out];exact .inl hk)))
 obtain ⟨k,hk⟩:∃ k:Nat,k=(d.fresh F (superB num 1)).1:=⟨_,rfl⟩
 have HK4:=Hd hk
 clear hk
 go_wp2_with fail
 refine (fresh_ds HD4.out (HQ1.out _ (Nat.le_refl _)) F (by rw [HF.out];exact HLL.out.1) (by omega) w.heap.size 16 (.slice a 16 c) (superB num 1) (superB_len num 1).symm HO4.out HVQ.out).mono ?_
 rintro r w5 ⟨rfl,ht⟩
 have HD5:=Hd ht.1
 have HK5:=Hd ht.2
 have hz5:=ht.2.size
 clear ht
 rw [←HK4.out]
 by_cases hk0:k=0
 case neg=>
  have HNE:=Hd (errV_ne (k:=(k:Int)) (by omega))
  have HE:=Hd (make_f (most:=most) (epoch:=epoch) HHN.out.symm (by rw [←HF.out,←HK4.out];exact hk0))
  have HKN:=Hd hk0
  rw [HNE.out]
  go_wp2_with fail
  go_ret2
  refine .inr ⟨?_,?_,?_⟩
  ·rw [HE.out,←HF.out,←HK4.out];exact HKN.out
  ·rw [HE.out,←HF.out,←HK4.out,HNE.out];exact rfl
  ·rw [HE.out,←HF.out];exact HOUT.out _ _ _ HD5.out HK5.out (by omega)
 have HE:=Hd (make_l (most:=most) (epoch:=epoch) HHN.out.symm (by rw [←HF.out,←HK4.out];exact hk0))
 rw [hk0,show errV ((0:Nat):Int)=.nilIface from rfl]
 clear hk0 HK4
 rw [←HF.out] at HE
 obtain ⟨x,hx⟩:∃ x,x=(d.fresh F (superB num 1)).2:=⟨_,rfl⟩
 rw [←hx] at HE HD5
 clear hx
 have HLAY:=Hd (show ∀ (R:Nat→Prop) (w0:World),DS w0 dp R (K+1) x→(∀ k,R k→k<w0.heap.size)→Calls Tryz.prog 47 #[(.pointer (some ⟨dp,0,none⟩)),.agg #[.int .i64 num,.int .i64 1,.int .i64 epoch,.bool false]] w0 fun r w'=>r=.returned (errV (x.lay num 1 epoch false).1)∧DTo w0 w' dp R (K+1+4) (x.lay num 1 epoch false).2 from fun R w0 h1 h2=>lay_ds h1 h2 (by omega) num 1 epoch false HNA.out HRV.out HLL.out.2.1 HLL.out.2.2)
 obtain ⟨k,hk⟩:∃ k:Nat,k=(x.lay num 1 epoch false).1:=⟨_,rfl⟩
 have HK6:=Hd hk
 clear hk
 go_wp2_with fail
 obtain ⟨w5',hw5⟩:∃ w5':World,w5'=w5.alloc (.cells #[.int .i64 num,.int .i64 1,.int .i64 epoch,.bool false] 113):=⟨_,rfl⟩
 have HB5:=Hd (show Below w5.heap.size w5 w5' by rw [hw5];exact belo)
 have kb5:w5'.heap[w5.heap.size]? = some (.cells #[.int .i64 num,.int .i64 1,.int .i64 epoch,.bool false] 113 (0,0)):=by rw [hw5];exact heap_new w5 _
 have KB5:=Hd kb5
 rw [←hw5]
 clear hw5
 have hz5':=HB5.out.size
 have hlb5:=blk_lt kb5
 clear kb5
 obtain ⟨R,hR⟩:∃ R:Nat→Prop,R=fun k=>Q k∨k=w5.heap.size:=⟨_,rfl⟩
 have HRR:=Hd hR
 clear hR
 have HRB:=Hd (show ∀ k,R k→k<w5'.heap.size from fun k hk=>by
  rw [HRR.out] at hk
  rcases hk with hk|rfl
  ·have:=HQ1.out w5 hz5 k hk
   omega
  ·omega)
 have HD5':=Hd (show DS w5' dp R _ x from HD5.out.later HB5.out (fun k hk=>by
  rw [HRR.out] at hk
  exact hk.imp id (fun h=>by omega)))
 refine (HLAY.out _ _ HD5'.out HRB.out).mono ?_
 rintro r w6 ⟨rfl,ht⟩
 have HD6:=Hd (ht.1.less (fun k hk=>show R k by rw [HRR.out];exact .inl hk):DS w6 dp Q _ _)
 have HK6P:=Hd (HK5.out.trans ((KP.of HB5.out).trans (ht.2.mono (fun k _ hk=>by rw [HRR.out];exact .inl hk))))
 obtain ⟨g0,g1,g2,g3⟩:=ncells (ht.2.blk KB5.out (by rw [HRR.out];exact .inr rfl))
 have hz6:=ht.2.size
 clear ht
 rw [←HK6.out]
 by_cases hk0:k=0
 case neg=>
  have HNE:=Hd (errV_ne (k:=(k:Int)) (by omega))
  have HKN:=Hd hk0
  rw [HNE.out]
  go_wp2_with fail
  go_ret2
  refine .inr ⟨?_,?_,?_⟩
  ·rw [HE.out,←HK6.out];exact HKN.out
  ·rw [HE.out,←HK6.out,HNE.out];exact rfl
  ·rw [HE.out];exact HOUT.out _ _ _ HD6.out HK6P.out (by omega)
 have HKZ:=Hd hk0
 rw [hk0,show errV ((0:Nat):Int)=.nilIface from rfl]
 clear hk0
 go_upto_region 16 with fail
 have hlb6:w5.heap.size<w6.heap.size:=by omega
 obtain ⟨SS,HSD⟩:∃ SS:World→Prop,Hid (SS=fun w'=>w'.cell? ⟨w5.heap.size,0,none⟩=some (.int .i64 num)∧w'.cell? ⟨w5.heap.size,1,none⟩=some (.int .i64 1)∧w'.cell? ⟨w5.heap.size,2,none⟩=some (.int .i64 epoch)∧w'.cell? ⟨w5.heap.size,3,none⟩=some (.bool false)):=⟨_,Hd rfl⟩
 refine wp_region_order0 SS [1] [(0,0),(1,2),(2,0),(3,0),(4,0),(5,1),(6,0),(7,1),(8,0),(9,0)] (by kernel_rfl) (by kernel_rfl) rfl (by kernel_rfl) ?_ ?_
 (focus (rw [HSD.out];exact ⟨g0,g1,g2,g3⟩));refine stepE0 rfl rfl fun K hK=>?_;go_simp;refine hK _ ?_;clear hK K;refine stepE2 rfl rfl ?_ (fun w1 hS=>?_) fun K hK=>?_;rotate_left;(focus (rw [HSD.out] at hS;obtain ⟨s0,s1,s2,s3⟩:=hS;go_simp;rfl));go_simp;refine hK _ ?_;clear hK K;(iterate 3 refine stepE0 rfl rfl fun K hK=>?_;go_simp;refine hK _ ?_;clear hK K);refine stepE1S rfl rfl fun K hK=>?_
 (go_wp2_with fail;refine (inew_nil _).mono ?_;rintro r w7 ⟨rfl,rfl⟩;go_wp2)
 refine ⟨by rw [HSD.out];exact (⟨((bcell (W:=w6) belo).1 _ _ hlb6).trans g0,((bcell (W:=w6) belo).1 _ _ hlb6).trans g1,((bcell (W:=w6) belo).1 _ _ hlb6).trans g2,((bcell (W:=w6) belo).1 _ _ hlb6).trans g3⟩),?_⟩
 refine stepE0 rfl rfl fun K hK=>?_;go_simp;refine hK _ ?_;clear hK K;refine stepE1 rfl rfl (by kernel_rfl) fun K hK=>?_;go_wp2;(iterate 2 refine stepE0 rfl rfl fun K hK=>?_;go_simp;refine hK _ ?_;clear hK K)
 try refine stepEnil0 ?_
 clear HSD SS
 go_wp2
 go_ret2
 have hT:=HOUT.out _ _ _ HD6.out HK6P.out (by omega)
 have hPP:∀ k,P k→k<w6.heap.size:=fun k hk=>by have:=HP.out k hk;omega
 refine .inl ⟨by rw [HE.out,←HK6.out];exact HKZ.out,w6.heap.size+1,by simp,?_,?_⟩
 ·rw [HE.out]
  exact (VS.made hT.1 rfl HVO.out hPP).below (Below.drew (Below.refl _ _))
 ·exact hT.2.trans (KP.of belo)
theorem reads_none(w:World)(sz:Nat):Reads w sz (.slice none 0 0) 0 []:=reads_of_owns (World.ownsRow_nil w 0 5 sz)
theorem del_vs{w:World}{vp dp K:Nat}{P:Nat→Prop}{d:Dk}{v:Vl}(h:VS w vp dp P K d v)(hP:∀ k,P k→k<w.heap.size)(key cookie:Nat)(hk:key<18446744073709551616)(hc:cookie<4294967296) :
  Calls Tryz.prog 63 #[(.pointer (some ⟨vp,0,none⟩)),.int .u64 key,.int .u32 cookie] w fun e w'=>e=.returned (errV (v.del d key cookie).1)∧VTo w w' vp dp P K (v.del d key cookie).2.1 (v.del d key cookie).2.2:=by
 have HH:=Hd h
 have hlt:vp<w.heap.size:=by obtain ⟨_,_,h1,_⟩:=h;exact h1.lt
 have HDE:=Hd (show v.del d key cookie=if (v.find key cookie).1≠0 then ((v.find key cookie).1,d,v) else if v.shut=true then (10,d,v) else v.write d ⟨key,cookie,true,[]⟩ from rfl)
 have HWR:=Hd (fun (w0:World) (hb:Below w.heap.size w w0)=>write_vs (h.below hb) (fun k hk=>Nat.lt_of_lt_of_le (hP k hk) hb.size) ⟨key,cookie,true,[]⟩ none 0 hk hc (by simp) (reads_none w0 1))
 unfold ndV at HWR
 simp only [List.length_nil] at HWR
 obtain ⟨ix,vx,hv,-⟩:=h
 have HV:=Hd hv
 have HFI:=Hd (fun (w0:World) (hb:Below w.heap.size w w0)=>vfind_any (hv.below hb) key cookie)
 obtain ⟨k1,hk1⟩:∃ k1,k1=(v.find key cookie).1:=⟨_,rfl⟩
 obtain ⟨p1,hp1⟩:∃ p1,p1=(v.find key cookie).2:=⟨_,rfl⟩
 rw [←hk1,←hp1] at HFI
 rw [←hk1] at HDE
 obtain ⟨pk,po,pl,pc,pg⟩:=p1
 unfold psV at HFI
 simp only at HFI
 clear hv hP hk hc hk1 hp1
 go_enter Tryz.func63,Tryz.ntmps63
 go_wp2_with fail
 refine (HFI.out _ (Below.refl _ _)).mono ?_
 rintro e wa ⟨rfl,hba⟩
 have HBA:=Hd hba
 have hza:=hba.size
 clear hba
 go_upto_region 2 with fail
 obtain ⟨w1,hw1⟩:∃ w1:World,w1=wa.alloc (.cells #[.int .u64 pk,.int .i64 po,.int .i64 pl,.int .u32 pc,.bool pg] 152):=⟨_,rfl⟩
 have HB1:=Hd (show Below w.heap.size w w1 by rw [hw1];exact HBA.out.alloc hza _)
 rw [←hw1]
 clear hw1
 obtain ⟨e0,e1,e2,e3,e4,e5,e6,e7⟩:=(HV.out.below HB1.out).cells
 by_cases hk0:k1=0
 case neg=>
  have HNE:=Hd (errV_ne (k:=(k1:Int)) (by omega))
  have HW:=Hd (HDE.out.trans (if_pos hk0))
  rw [HNE.out]
  go_wp2_with fail
  go_ret
  rw [HW.out]
  exact ⟨by rw [HNE.out];rfl,HH.out.same HB1.out⟩
 rw [hk0,show errV ((0:Nat):Int)=.nilIface from rfl]
 have HK1:=Hd hk0
 clear hk0
 obtain ⟨sh,hsh⟩:∃ sh,sh=v.shut:=⟨_,rfl⟩
 rw [←hsh] at e4
 have HSH:=Hd hsh
 clear hsh
 cases sh with
 | true=>
  have HW:=Hd (HDE.out.trans ((if_neg (by simpa using HK1.out)).trans (if_pos HSH.out.symm)))
  go_wp2_with fail
  go_ret
  rw [HW.out]
  exact ⟨rfl,HH.out.same HB1.out⟩
 | false=>
  have HW:=Hd (HDE.out.trans ((if_neg (by simpa using HK1.out)).trans (if_neg (by rw [←HSH.out];simp))))
  obtain ⟨r,hr⟩:∃ r,r=v.write d ⟨key,cookie,true,[]⟩:=⟨_,rfl⟩
  rw [←hr] at HWR HW
  clear hr
  go_wp2_with fail
  refine (HWR.out _ HB1.out).mono ?_
  rintro e w3 ⟨rfl,ht⟩
  have HT:=Hd ht
  clear ht
  go_wp2_with fail
  go_ret
  rw [HW.out]
  exact ⟨rfl,HT.out.1,KP.trans (KP.of HB1.out) HT.out.2⟩
end Go.Proofs.YtfpjfoajonbndaaGreatDoor
