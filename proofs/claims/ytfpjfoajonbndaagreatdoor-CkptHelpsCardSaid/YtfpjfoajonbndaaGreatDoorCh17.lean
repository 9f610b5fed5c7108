import Derived.Test.YtfpjfoajonbndaaGreatDoorCh16
import Derived.Test.YtfpjfoajonbndaaGreatDoorCh10
namespace Go.Proofs.YtfpjfoajonbndaaGreatDoor
set_option maxHeartbeats 8000000
set_option maxRecDepth 100000
open Go.RowKit
set_option maxRecDepth 100000
set_option maxHeartbeats 8000000
open Go.RowKit
theorem dsize_le{K:Nat}{d:Dk}(h:DkOk K d)(s:Nm):(d.size s).2≤16777216:=by
 unfold Dk.size
 split
 ·simp
 ·exact (h.at _).2
theorem whole_ds{w:World}{dp K:Nat}{P:Nat→Prop}{d:Dk}(h:DS w dp P K d)(s:Nm)(hs:s.length≤maxLen) :
  Calls Tryz.prog 59 #[(.pointer (some ⟨dp,0,none⟩)),.string ⟨s.toArray⟩] w (ReadTo w (d.whole s).1 (d.whole s).2):=by
 have hle:=dsize_le h.ok s
 have HSZ:=Hd (size_ds h s hs)
 have HRD:=Hd (read_ds h s 0 (d.size s).2 hs (by omega) (by omega))
 obtain ⟨k,hk⟩:∃ k:Nat,k=(d.size s).1:=⟨_,rfl⟩
 obtain ⟨N,hN⟩:∃ N:Nat,N=(d.size s).2:=⟨_,rfl⟩
 have HE:=Hd (show d.whole s=if k≠0 then (k,[]) else d.read s 0 N by unfold Dk.whole;rw [←hk,←hN])
 rw [←hk,←hN] at HSZ
 rw [←hN] at HRD hle
 obtain ⟨W,hW⟩:∃ W,W=d.whole s:=⟨_,rfl⟩
 rw [←hW] at HE ⊢
 clear h hs hk hN hW
 by_cases hk0:k=0
 case neg=>
  have HNE:=Hd (errV_ne (k:=(k:Int)) (by omega))
  have HE2:=Hd (HE.out.trans (if_pos hk0))
  clear HE HRD
  rw [HNE.out] at HSZ
  go_enter Tryz.func59,Tryz.ntmps59
  go_wp2_with fail
  refine HSZ.out.mono ?_
  rintro e wx ⟨rfl,rfl⟩
  go_wp2_with fail
  go_ret2
  rw [HE2.out]
  exact ReadTo.none (by rw [HNE.out];rfl) belo
 subst hk0
 have HE2:=Hd (HE.out.trans (if_neg (by simp)))
 clear HE
 rw [show errV ((0:Nat):Int)=.nilIface from rfl] at HSZ
 go_enter Tryz.func59,Tryz.ntmps59
 go_wp2_with fail
 refine HSZ.out.mono ?_
 rintro e wx ⟨rfl,rfl⟩
 go_wp2_with fail
 refine HRD.out.mono ?_
 rintro e w1 ⟨v1,rfl,ho,hb⟩
 have HO:=Hd ho
 have HB:=Hd hb
 clear ho hb
 go_wp2_with fail
 go_ret2
 rw [HE2.out]
 exact ⟨v1,rfl,HO.out,HB.out⟩
def BaseTo (w:World) (l:List Ps) (from':Nat) (e:Ending) (w':World):Prop:=
 ∃ ix vx,e=.returned (.tuple #[(.pointer (some ⟨ix,0,none⟩)),.int .i64 from'])∧IxAt w' w.heap.size ix vx l∧w.heap.size≤ix∧Below w.heap.size w w'
theorem bfrom{w:World}{bk o n c:Nat}{b:List UInt8}(h:Reads w 1 (.slice (some ⟨bk,o,none⟩) n c) n (b.map bv))(hb:b.length=n)(hc:n≤c)(l:Nat)(hl:l≤n) :
  ∃ a',(∀ W,(Instr.slice 47 (.slice (some ⟨bk,o,none⟩) n c) (some (.int .i64 l)) none none).run Tryz.prog W=.ok (.slice a' (n - l) (c - l)) W)∧Reads w 1 (.slice a' (n - l) (c - l)) (n - l) ((b.drop l).map bv):=by
 have hs:∀ W,(sizeOf 5).run Tryz.prog W=.ok 1 W:=fun W=>by kernel_rfl
 obtain ⟨a',h1,h2⟩:=bcut h hb hc l (n - l) (by omega)
 have ht:(b.drop l).take (n - l)=b.drop l:=List.take_of_length_le (by rw [List.length_drop];omega)
 rw [ht] at h2
 refine ⟨a',fun W=>?_,h2⟩
 have h3:=h1 W
 rw [show ((l+(n - l):Nat):Int)=(n:Int) by omega] at h3
 rw [←h3]
 simp [Instr.slice,run_underlying Tryz.underlying47,Instr.sliceBounds,run_sliceBound,hs,Result.andThen,(by omega:(0:Int)≤(l:Int)),(by omega:(l:Int)≤(n:Int)),(by omega:(n:Int)≤(c:Int))]
theorem ndsB_long:∀ l:List Nd,32 * l.length≤(ndsB l).length
 | []=>by simp [ndsB]
 | n :: r=>by
  have ih:=ndsB_long r
  show 32 * (r.length+1)≤(ndBytes n ++ ndsB r).length
  rw [List.length_append,ndBytes_len]
  have:32≤ndSize n.data.length:=by unfold ndSize;omega
  omega
theorem foundInfo:(Tryz.prog.info? 175).map (fun i=>(i.zero,i.size,i.bytes))=some (some (.agg #[.int .i64 0,.int .i64 0,.int .u64 0,.int .u32 0,.bool false,.slice none 0 0]),6,56):=by kernel_rfl
structure FE where
 p:Ps
 a:Option Addr
 c:Nat
def FE.cs (x:FE):List Value:=[.int .i64 x.p.off,.int .i64 (ndSize x.p.len),.int .u64 x.p.key,.int .u32 x.p.cookie,.bool x.p.gone,.slice x.a x.p.len x.c]
def FoundRow (w:World) (B:Nat) (v:Value) (ps:List Ps):Prop:=∃ fs:List FE,fs.map FE.p=ps∧w.ownsRow B 175 6 v fs.length (fs.flatMap FE.cs)
def ScanTo (w:World) (ps:List Ps) (at':Nat) (bad:Bool) (e:Ending) (w':World):Prop:=
 ∃ v ev,e=.returned (.tuple #[v,.int .i64 at',ev])∧FoundRow w' w.heap.size v ps∧(if bad=true then ∃ T x,ev=.iface T x else ev=.nilIface)∧Below w.heap.size w w'
theorem scan_any(name:Nm)(bk o n c from':Nat)(pre:List UInt8)(ns:List Nd)(t:List UInt8)(w:World)(h:Reads w 1 (.slice (some ⟨bk,o,none⟩) n c) n ((pre ++ (ndsB ns ++ t)).map bv))(hlen:(pre ++ (ndsB ns ++ t)).length=n)(hpre:pre.length=from')(hc:n≤c)(hn:n≤100000000)(hok:∀ m∈ns,NdOk m)(ht:t=[]∨(ndGet t).1≠0) :
  Calls Tryz.prog 110 #[.string ⟨name.toArray⟩,.slice (some ⟨bk,o,none⟩) n c,.int .i64 from'] w (ScanTo w (posL from' ns) (from'+(ndsB ns).length) (!t.isEmpty)):=by
 obtain ⟨i0,hi,hzz0,hzz1,hzz2⟩:=info_parts foundInfo
 have HI:=Hd hi
 have HZ0:=Hd hzz0
 have HZ1:=Hd hzz1
 have HZ2:=Hd hzz2
 obtain ⟨b,hbe⟩:∃ b,b=pre ++ (ndsB ns ++ t):=⟨_,rfl⟩
 rw [←hbe] at h hlen
 have HR:=Hd h
 have HLN:=Hd hlen
 have HBE:=Hd hbe
 have HPR:=Hd hpre
 have HNC:=Hd hc
 have HOK:=Hd hok
 have HT:=Hd ht
 have hfn:from'+(ndsB ns).length+t.length=n:=by rw [←hlen,hbe,List.length_append,List.length_append];omega
 have HFN:=Hd hfn
 have hf0:decide ((from':Int)<0)=false:=by simp
 have hf1:decide ((n:Int)<(from':Int))=false:=by simp;omega
 have hf2:decide (n<from')=false:=by simp;omega
 have HDR:=Hd (show ∀ j,j≤ns.length→b.drop (from'+(ndsB (ns.take j)).length)=ndsB (ns.drop j) ++ t∧from'+(ndsB (ns.take j)).length≤n from fun j hj=>by
  have e1:ndsB ns=ndsB (ns.take j) ++ ndsB (ns.drop j):=by rw [←ndsB_append,List.take_append_drop]
  constructor
  ·rw [hbe,e1,←hpre,←List.drop_drop,List.drop_left,List.append_assoc,List.drop_left]
  ·rw [←hfn,e1,List.length_append]
   omega)
 clear h hlen hbe hpre hc hok ht hfn hi hzz0 hzz1 hzz2
 go_enter Tryz.func110,Tryz.ntmps110
 go_wp2_with fail
 go_loopw [9,10] (fun s i wr=>∃(k:Nat)(fs:List FE),k≤ns.length∧i=.int .i64 ((from'+(ndsB (ns.take k)).length:Nat):Int)∧fs.length=k∧fs.map FE.p=posL from' (ns.take k)∧(∃ aL cL,s=.slice aL k cL∧wr.ownsRow w.heap.size 175 6 (.slice aL k cL) k (fs.flatMap FE.cs))∧Below w.heap.size w wr) (fun _ i _=>n - (intOf i).toNat)
 case atStart=>exact ⟨0,[],Nat.zero_le _,by simp [ndsB],rfl,rfl,⟨none,0,rfl,World.ownsRow_nil _ _ _ _⟩,Below.refl _ _⟩
 case round=>
  obtain ⟨k,fs,hk,rfl,hfl,hfp,⟨aL,cL,rfl,hrw⟩,hbr⟩:=hrel
  have HFL:=Hd hfl
  have HFP:=Hd hfp
  have HRW:=Hd hrw
  have HBR:=Hd hbr
  have hzr:=hbr.size
  obtain ⟨hdr,hat⟩:=HDR.out k hk
  have HD:=Hd hdr
  have hkb:k≤100000000:=by
   have h1:=ndsB_long (ns.take k)
   rw [List.length_take] at h1
   omega
  obtain ⟨AT,hAT⟩:∃ AT,AT=from'+(ndsB (ns.take k)).length:=⟨_,rfl⟩
  rw [←hAT] at HD hat ⊢
  have HAT:=Hd hAT
  clear hfl hfp hrw hbr hdr hAT
  by_cases hlt:k<ns.length
  ·obtain ⟨m,hm⟩:∃ m,ns[k]? = some m:=⟨_,List.getElem?_eq_getElem hlt⟩
   have hmok:=HOK.out m (List.mem_of_getElem? hm)
   have HM:=Hd hm
   have hdk:ndsB (ns.drop k)=ndBytes m ++ ndsB (ns.drop (k+1)):=by
    have:ns.drop k=m :: ns.drop (k+1):=by
     obtain ⟨h1,h2⟩:=List.getElem?_eq_some_iff.1 hm
     rw [←h2]
     exact List.drop_eq_getElem_cons h1
    rw [this]
    rfl
   have hget:ndGet (b.drop AT)=(0,m,ndSize m.data.length):=by
    rw [HD.out,hdk,List.append_assoc]
    exact ndGet_put hmok _
   have hbl:AT+ndSize m.data.length≤n:=by
    have h1:=congrArg List.length HD.out
    rw [List.length_drop,HLN.out,hdk,List.length_append,List.length_append,ndBytes_len] at h1
    have h2:32≤ndSize m.data.length:=by unfold ndSize;omega
    omega
   have h32:32≤ndSize m.data.length∧ndSize m.data.length≤4128:=ndSize_le hmok.2.2.1
   have htk:(ndsB (ns.take (k+1))).length=(ndsB (ns.take k)).length+ndSize m.data.length:=by
    rw [List.take_add_one,hm,ndsB_append,List.length_append]
    simp [ndsB,ndBytes_len]
   have HTK:=Hd htk
   obtain ⟨a',hsl,hrd⟩:=bfrom HR.out HLN.out HNC.out AT hat
   have HNG:=Hd (show ∀ w0:World,Below w.heap.size w w0→Calls Tryz.prog 81 #[.slice a' (n - AT) (c - AT)] w0 (GotN w0 (0,m,ndSize m.data.length)) from fun w0 hb0=>by
    have h1:=nget_any a' (n - AT) (c - AT) (b.drop AT) w0 (hrd.below hb0) (by rw [List.length_drop,HLN.out]) (by have:=HNC.out;omega) (by omega)
    rw [hget] at h1
    exact h1)
   obtain ⟨mk,mc,mg,md⟩:=m
   simp only at HNG HTK h32 hbl
   obtain ⟨SZ,hSZ⟩:∃ SZ,SZ=ndSize md.length:=⟨_,rfl⟩
   rw [←hSZ] at HNG HTK h32 hbl
   have HSZ:=Hd hSZ
   have hj1:(AT:Int)<(n:Int):=by omega
   clear hm hdk hget hrd htk hSZ hmok
   go_wp2_with fail
   refine (HNG.out _ HBR.out).mono ?_
   rintro e w1 ⟨vd,rfl,hod,hb1⟩
   simp only
   have HB1:=Hd (HBR.out.trans (hb1.mono hzr))
   have HRW1:=Hd (ownsRow_below HRW.out hb1)
   obtain ⟨ad,cd,rfl,-⟩:=slice_of hod
   have hz1:=HB1.out.size
   have hoff:AT+SZ≤100000000:=by omega
   clear hod hb1
   rw [show errV ((0:Nat):Int)=.nilIface from rfl]
   obtain ⟨w2,hw2⟩:∃ w2:World,w2=(w1.alloc (.cells #[.int .u64 mk,.int .u32 mc,.bool mg,.slice ad md.length cd] 60)).alloc (.cells #[.int .i64 AT,.int .i64 SZ,.int .u64 mk,.int .u32 mc,.bool mg,.slice ad md.length cd] 175):=⟨_,rfl⟩
   have hb12:Below w1.heap.size w1 w2:=by rw [hw2];exact belo
   have HB2:=Hd (HB1.out.trans (hb12.mono hz1))
   have HRW2:=Hd (ownsRow_below HRW1.out hb12)
   have KF2:=Hd (show w2.heap[w1.heap.size+1]? = some (.cells #[.int .i64 AT,.int .i64 SZ,.int .u64 mk,.int .u32 mc,.bool mg,.slice ad md.length cd] 175 (0,0)) by rw [hw2];exact blk_new _ (by simp))
   have hz2:=HB2.out.size
   have hz12:w1.heap.size+1<w2.heap.size:=blk_lt KF2.out
   go_wp2_with (at_builtin;rw [←hw2];clear hw2 hb12;refine wpList_append_lies _ rfl _ _ 203 rfl w.heap.size 175 i0 (.agg #[.int .i64 0,.int .i64 0,.int .u64 0,.int .u32 0,.bool false,.slice none 0 0]) 6 56 Tryz.underlying203 HI.out HZ0.out HZ1.out HZ2.out rfl (by decide) (.slice aL k cL) k (fs.flatMap FE.cs) rfl HRW2.out ⟨w1.heap.size+1,0,none⟩ 1 1 [.int .i64 AT,.int .i64 SZ,.int .u64 mk,.int .u32 mc,.bool mg,.slice ad md.length cd] rfl rfl (World.news_of_block (cs:=#[.int .i64 AT,.int .i64 SZ,.int .u64 mk,.int .u32 mc,.bool mg,.slice ad md.length cd]) (t:=175) (fr:=(0,0)) KF2.out) (by simp [Value.oneCell']) (by omega) (by unfold maxLen;omega) (by omega) (by omega) _ rfl ?_;intro g' cap' w6 hown hgrow hat hlt6;have HG6:=Hd hgrow;have HO6:=Hd hown;have hz6:=hgrow.size;clear hgrow hown hat)
   go_roundw
   case rel=>
    refine ⟨k+1,fs ++ [⟨⟨mk,AT,md.length,mc,mg⟩,ad,cd⟩],by omega,by rw [HTK.out,←Nat.add_assoc,←HAT.out];go_num,by rw [List.length_append,HFL.out];rfl,?_,⟨some ⟨g',0,none⟩,cap',rfl,?_⟩,?_⟩
    ·rw [List.map_append,HFP.out,List.take_add_one,HM.out,posL_append,←HAT.out]
     rfl
    ·refine ownsRow_cast HO6.out rfl ?_
     rw [List.flatMap_append,HSZ.out]
     simp [FE.cs]
    ·exact Below.grown HB2.out HG6.out hz2 (fun g e=>(HRW2.out.lt g e).1)
   case measure=>simp [intOf];omega
  ·have hkn:k=ns.length:=by omega
   have htk:ns.take k=ns:=List.take_of_length_le (by omega)
   have hdk:ns.drop k=[]:=List.drop_of_length_le (by omega)
   have HFP2:=Hd (HFP.out.trans (by rw [htk]))
   have HAT2:=Hd (show AT=from'+(ndsB ns).length by rw [HAT.out,htk])
   have hd:=HD.out
   rw [hdk,show ndsB []=[] from rfl,List.nil_append] at hd
   have hat2:AT+t.length=n:=by
    have:=congrArg List.length hd
    rw [List.length_drop,HLN.out] at this
    omega
   have HFO:=Hd (show FoundRow wr w.heap.size (.slice aL k cL) (posL from' ns) from ⟨fs,HFP2.out,by rw [HFL.out];exact HRW.out⟩)
   clear hkn
   by_cases ht0:t=[]
   ·have htl:t.length=0:=by rw [ht0];rfl
    have hj1:¬ (AT:Int)<(n:Int):=by omega
    have HTE:=Hd (show (!t.isEmpty)=false by rw [ht0];rfl)
    clear hd ht0 htk hdk htl hat2
    go_wp2_with fail
    refine bodyPost_ret (v:=?_) ?_ rfl ?_
    rotate_left;(focus (simp [results,Tryz.results110,go_sem];exact rfl))
    rw [HTE.out,←HAT2.out]
    exact ⟨_,_,rfl,HFO.out,rfl,HBR.out⟩
   ·have htl:0<t.length:=List.length_pos_iff.2 ht0
    have hj1:(AT:Int)<(n:Int):=by omega
    have hne:=HT.out.resolve_left ht0
    have HTE:=Hd (show (!t.isEmpty)=true by cases t with|nil=>exact absurd rfl ht0|cons _ _=>rfl)
    obtain ⟨a',hsl,hrd⟩:=bfrom HR.out HLN.out HNC.out AT hat
    have HNG:=Hd (show ∀ w0:World,Below w.heap.size w w0→Calls Tryz.prog 81 #[.slice a' (n - AT) (c - AT)] w0 (GotN w0 (ndGet t)) from fun w0 hb0=>by
     have h1:=nget_any a' (n - AT) (c - AT) (b.drop AT) w0 (hrd.below hb0) (by rw [List.length_drop,HLN.out]) (by have:=HNC.out;omega) (by omega)
     rw [hd] at h1
     exact h1)
    obtain ⟨⟨ek,⟨mk,mc,mg,md⟩,sz⟩,hr⟩:∃ r,r=ndGet t:=⟨_,rfl⟩
    rw [←hr] at HNG hne
    simp only at hne
    have HNE:=Hd (errV_ne (k:=(ek:Int)) (by omega))
    clear hd ht0 htk hdk hr hrd hne
    go_wp2_with fail
    refine (HNG.out _ HBR.out).mono ?_
    rintro e w1 ⟨vd,rfl,hod,hb1⟩
    simp only
    have HB1:=Hd (HBR.out.trans (hb1.mono hzr))
    have HFO1:=Hd (show FoundRow w1 w.heap.size (.slice aL k cL) (posL from' ns) by
     obtain ⟨fs,h1,h2⟩:=HFO.out
     exact ⟨fs,h1,ownsRow_below h2 hb1⟩)
    obtain ⟨ad,cd,rfl,-⟩:=slice_of hod
    have hz1:=HB1.out.size
    rw [HNE.out]
    clear hod hb1
    go_wp2_with fail
    refine bodyPost_ret (v:=?_) ?_ rfl ?_
    rotate_left;(focus (simp [results,Tryz.results110,go_sem];exact rfl))
    rw [HTE.out,←HAT2.out]
    refine ⟨_,_,rfl,?_,⟨_,_,rfl⟩,HB1.out.trans belo⟩
    obtain ⟨fs,h1,h2⟩:=HFO1.out
    exact ⟨fs,h1,ownsRow_below h2 belo⟩
end Go.Proofs.YtfpjfoajonbndaaGreatDoor
