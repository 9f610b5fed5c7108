import Derived.Test.YtfpjfoajonbndaaGreatDoorCcMadeR10
import Derived.Test.YtfpjfoajonbndaaGreatDoorCcCkptK
import Derived.Test.YtfpjfoajonbndaaGreatDoorCcShipMadeL
import Derived.Test.YtfpjfoajonbndaaGreatDoorCcLaw09s
import Derived.Test.YtfpjfoajonbndaaGreatDoorCcCkptOpen
import Derived.Test.YtfpjfoajonbndaaGreatDoorCc27
import Derived.Test.YtfpjfoajonbndaaGreatDoorCcDiskPicks
import Derived.Test.YtfpjfoajonbndaaGreatDoorCcOpen07
namespace Go.Proofs.YtfpjfoajonbndaaGreatDoor
set_option maxHeartbeats 8000000
set_option maxRecDepth 100000
open Go.RowKit
open Go.RowKit
theorem VK.told{d:Dk}{v:Vl}{ns:List Nd}{X:Nat}(h:VK d v ns X)(key cookie:Nat):(v.get d key cookie).2.1=false:=by
 obtain ⟨f,g,hv,hrd⟩:=h.vi
 rw [←VK.get_two hrd]
 exact hv.told _ _
def MAt (w:World) (F:Nat→Prop) (MB:Nat) (R:Rv):Prop:=∃(c0 c1 c2 c3:Int)(c4:Bool)(c5a:Option Addr)(c5n c5c:Nat)(c6a:Option Addr)(c6n c6c:Nat),w.heap[MB]? = some (.cells #[.int .i64 c0,.int .i64 c1,.int .i64 c2,.int .i64 c3,.bool c4,.slice c5a c5n c5c,.slice c6a c6n c6c] 43 (0,0))∧RvIn w (fun k=>¬ F k∧k≠MB) (.agg #[.int .i64 c0,.int .i64 c1,.int .i64 c2,.int .i64 c3,.bool c4,.slice c5a c5n c5c,.slice c6a c6n c6c]) R
theorem MAt.kp{w w':World}{F:Nat→Prop}{MB:Nat}{R:Rv}(h:MAt w F MB R)(hk:KP (fun k=>¬ F k) w w')(hF:¬ F MB):MAt w' F MB R:=by
 obtain ⟨c0,c1,c2,c3,c4,c5a,c5n,c5c,c6a,c6n,c6c,h1,h2⟩:=h
 exact ⟨c0,c1,c2,c3,c4,c5a,c5n,c5c,c6a,c6n,c6c,(hk.block _ (blk_lt h1) (fun e=>e hF)).trans h1,h2.kp (hk.mono fun j _ e=>e.1)⟩
theorem MAt.later{w w':World}{F F2:Nat→Prop}{MB:Nat}{R:Rv}(h:MAt w F MB R)(hF:¬ F MB)(hk:KP (fun j=>¬ F j∧j<w.heap.size) w w')(h2:∀ j,F2 j→F j∨w.heap.size≤j):MAt w' F2 MB R:=by
 obtain ⟨c0,c1,c2,c3,c4,c5a,c5n,c5c,c6a,c6n,c6c,g1,g2⟩:=h
 have hl:=blk_lt g1
 refine ⟨c0,c1,c2,c3,c4,c5a,c5n,c5c,c6a,c6n,c6c,(hk.block _ hl (fun e=>e ⟨hF,hl⟩)).trans g1,?_⟩
 have g3:=g2.wide (Q:=fun k=>(¬ F k∧k≠MB)∧k<w.heap.size) fun j hj hl=>⟨hj,hl⟩
 exact (g3.kp (hk.mono fun j _ e=>⟨e.1.1,e.2⟩)).wide fun j hj _=>⟨fun e=>(h2 j e).elim hj.1.1 (fun e2=>by omega),hj.1.2⟩
theorem MAt.opened{w:World}{F:Nat→Prop}{MB:Nat}{v:Vl}{ns:List Nd}(h:MAt w F MB (Rv.of v ns))(hf:v.idx.length≤4096):∃(num most epoch size:Int)(shut:Bool)(al:Option Addr)(ln cl:Nat)(ad:Option Addr)(dn cd:Nat),ln=v.idx.length∧w.heap[MB]? = some (.cells #[.int .i64 num,.int .i64 most,.int .i64 epoch,.int .i64 size,.bool shut,.slice al ln cl,.slice ad dn cd] 43 (0,0))∧Reads w 5 (.slice al ln cl) ln (v.idx.flatMap psC)∧(∀ x,al=some x→¬ F x.block∧x.block≠MB∧x.block<w.heap.size)∧∀ (w0:World) (vp dp ix:Nat) (vx:Value),VolAt w0 vp dp ix vx v→Reads w0 5 (.slice al ln cl) ln (v.idx.flatMap psC)→Calls Tryz.prog 25 #[(.pointer (some ⟨vp,0,none⟩)),.agg #[.int .i64 num,.int .i64 most,.int .i64 epoch,.int .i64 size,.bool shut,.slice al ln cl,.slice ad dn cd]] w0 fun e w'=>e=.returned (.bool true)∧Below w0.heap.size w0 w':=by
 obtain ⟨c0,c1,c2,c3,c4,c5a,c5n,c5c,c6a,c6n,c6c,h1,al,cl,ad,cd,xs,hval,hat⟩:=h
 have hrl:Reads w 5 (.slice al v.idx.length cl) v.idx.length (v.idx.flatMap psC):=hat.rl
 have hbl:∀ x,al=some x→(¬ F x.block∧x.block≠MB)∧x.block<w.heap.size:=hat.bl
 have hsm:=fun (w0:World) (vp dp ix:Nat) (vx:Value) (hv:VolAt w0 vp dp ix vx v) (hr:Reads w0 5 (.slice al v.idx.length cl) v.idx.length (v.idx.flatMap psC))=>same09_any (ns:=ns) hv al cl ad cd hr hf
 rw [←hval] at hsm
 unfold rvV at hval
 have hl:(Rv.of v ns).l.length=v.idx.length:=rfl
 rw [hl] at hval
 simp only [Value.agg.injEq,Array.mk.injEq,List.cons.injEq,Value.slice.injEq] at hval
 obtain ⟨-,-,-,-,-,⟨rfl,rfl,rfl⟩,-⟩:=hval
 exact ⟨c0,c1,c2,c3,c4,c5a,v.idx.length,c5c,c6a,c6n,c6c,rfl,h1,hrl,fun x e=>⟨(hbl x e).1.1,(hbl x e).1.2,(hbl x e).2⟩,hsm⟩
theorem scells2{w:World}{b:Nat}{v0 v1:Value}{t:TypeId}(h:w.heap[b]? = some (.cells #[v0,v1] t (0,0))):w.cell? ⟨b,0,none⟩=some v0∧w.cell? ⟨b,1,none⟩=some v1:=by
 constructor <;> (rw [cell_of_row w b _ _ _ _ h];rfl)
theorem row_addrC{w:World}{base n sz:Nat}{e:TypeId}{a:Option Addr}{c:Nat}{xs:List Value}(h:w.ownsRow base e sz (.slice a n c) n xs):a=none∨∃ g,a=some ⟨g,0,none⟩:=by
 rcases h.2 with ⟨h2,_⟩|⟨g,cap,cur,h2,_⟩
 ·exact .inl (sl_inj h2).1
 ·exact .inr ⟨g,(sl_inj h2).1⟩
theorem ckptCrashes_walk(a:Option Addr)(len cap:Nat)(l:List ActE)(am:Nat)(ham:am≤255)(p:DPicks)(af:Option Addr)(cf:Nat)(w:World)(hl:l.length=len)(hr:Reads w 6 (.slice a len cap) len (l.flatMap ActE.cs))(ho:∀ x∈l,ActArg w x)
  (hrp:Reads w 2 (.slice af p.files.length cf) p.files.length (p.files.flatMap DPick.row)) (hp1 : -9223372036854775808≤p.names∧p.names≤9223372036854775807) (hpk:∀ x∈p.files,PickOk x) :
  Calls Tryz.prog 7 #[.slice a len cap,.int .u8 am,.agg #[.int .i64 p.names,.slice af p.files.length cf]] w fun e w'=>e=.returned (.bool true)∧Below w.heap.size w w':=by
 have HL:=Hd hl
 have HR:=Hd hr
 have HO:=Hd ho
 have HRP:=Hd hrp
 have HP1:=Hd hp1
 have HPK:=Hd hpk
 have hcv:IntKind.i64.wrap (am:Int)=(am:Int):=by rw [IntKind.wrap_i64];omega
 have ham2:(am:Int)≤255:=by omega
 have ham0:(0:Int)≤(am:Int):=by omega
 obtain ⟨PN,hPN⟩:∃ PN,PN=p.names:=⟨_,rfl⟩
 obtain ⟨PL,hPL⟩:∃ PL,PL=p.files.length:=⟨_,rfl⟩
 have HPN:=Hd hPN
 have HPL:=Hd hPL
 rw [←hPL] at HRP
 rw [←hPN,←hPL]
 clear hl hr ho hrp hp1 hpk hPN hPL
 go_enter Tryz.func7,Tryz.ntmps7
 go_upto_region 1 with fail
 obtain ⟨w0,hw0⟩:∃ w0:World,w0=w.alloc (.cells #[.int .i64 PN,.slice af PL cf] 25):=⟨_,rfl⟩
 have HB0:=Hd (show Below w.heap.size w w0 by rw [hw0];exact belo)
 have KX0:=Hd (show w0.heap[w.heap.size]? = some (.cells #[.int .i64 PN,.slice af PL cf] 25 (0,0)) by rw [hw0];exact heap_new w _)
 rw [←hw0]
 clear hw0
 have hz0:=HB0.out.size
 obtain ⟨XB,hXB⟩:∃ XB,XB=w.heap.size:=⟨_,rfl⟩
 have hXg:w.heap.size≤XB:=by omega
 rw [←hXB] at KX0 ⊢
 clear hXB
 have hxb:=blk_lt KX0.out
 go_wp2_with fail
 refine (alive10 w0).mono ?_
 rintro e w1 ⟨rfl,hb⟩
 have HB01:=Hd hb
 have KX1:=Hd (blk_below' KX0.out hb)
 have HB1:=Hd (HB0.out.trans (hb.mono hz0))
 have hz1:=HB1.out.size
 have hz01:=hb.size
 clear hb
 obtain ⟨x0,x1⟩:=scells2 KX1.out
 have hxb1:=blk_lt KX1.out
 go_wp2_with fail
 refine (far9_any a len cap l w1 HL.out (HR.out.below HB1.out)).mono ?_
 rintro e wx ⟨rfl,rfl⟩
 cases hfa:far9 l
 case true=>
  go_wp2_with fail
  go_ret
  exact ⟨rfl,HB1.out⟩
 have HFA:=Hd (far9_no hfa)
 clear hfa
 have h60:len≤60:=by have:=HFA.out.1;have:=HL.out;omega
 by_cases h100:(100:Int)<(PL:Int)
 ·have h1:decide ((100:Int)<(PL:Int))=true:=by simpa using h100
  have h2:decide (100<PL)=true:=by simp;omega
  go_wp2_with fail
  go_ret
  exact ⟨rfl,HB1.out⟩
 have h101:decide ((100:Int)<(PL:Int))=false:=by simpa using h100
 have h102:decide (100<PL)=false:=by simp;omega
 have HMA:=Hd (show Calls Tryz.prog 27 #[.slice a len cap] w1 (MadeR w1 1 l) from madeR_any a len cap l w1 HL.out (HR.out.below HB1.out) (fun x hx=>(HO.out x hx).below HB1.out) h60 HFA.out.2)
 unfold MadeR at HMA
 go_wp2_with fail
 refine HMA.out.mono ?_
 rintro e w2 ⟨vp,dp,F,val,d,v,ns,rfl,hvf,hfb,hvd,hrv,hac,hsz,hns,hb⟩
 have hnum:v.num=1:=by
  have h3:=congrArg Rv.num hac
  rw [Rv.acts_num] at h3
  exact h3
 have hmost:v.most=1048576:=by
  have h3:=congrArg Rv.most hac
  rw [Rv.acts_most] at h3
  exact h3
 have hvs:v.size≤20176:=by rw [HL.out] at hsz;omega
 have hvn:ns.length≤60:=by rw [HL.out] at hns;omega
 have hck:=hvd.ckF hnum
 have hvl:v.idx.length≤60:=Nat.le_trans hck.vk.len hvn
 have hcr:=hck.vk.ckRight (by omega) (by omega)
 have hbl:=ckB_len (ckSnap v)
 have hil:(ckSnap v).l.length=v.idx.length:=rfl
 rw [hil] at hbl
 have hcuts:=hck.cuts hvd.restK (c:=ckSnap v) hnum hvd.vi.gen hcr (by show v.size+48+24 * v.idx.length≤_;omega)
 have HCG:=Hd (hck.vk.ckGood hnum (by omega))
 have HGC:=Hd (hck.vk.goodC hnum (by omega) (by omega))
 have HCR:=Hd hcr
 obtain ⟨AN,hAN⟩:∃ AN,AN=am % 8:=⟨_,rfl⟩
 have hA8:AN<8:=by omega
 have htm1:(am:Int).tmod 8=(AN:Int):=by rw [hAN];simp [Int.tmod_eq_emod_of_nonneg ham0]
 have HARM:=Hd (show d.arm (AN:Int)=(0,d.arms AN) by
  unfold Dk.arm
  rw [if_neg (by rw [hvd.vi.armed];decide),if_neg (by omega)]
  rfl)
 obtain ⟨ce,dn,b5,y2,hce,hdn,hb5,hcase,hct⟩:∃(ce:Nat)(dn b5:Bool)(y2:Dk),ckWrite (ckSnap v) (d.arms AN)=(ce,y2)∧(y2.armed == 0)=dn∧decide ((AN:Int)<5)=b5∧((b5=true∧ce=12∧dn=true)∨(b5=false∧ce=0))∧CrashTo v ns (ckB (ckSnap v)) y2:=by
  by_cases h5:AN<5
  ·obtain ⟨y,q1,q2⟩:=hcuts.1 AN h5
   exact ⟨12,true,true,y.arms 0,q1,rfl,by simp;omega,.inl ⟨rfl,rfl,rfl⟩,q2⟩
  ·obtain ⟨y,q1,q2⟩:=hcuts.2
   obtain ⟨j,rfl⟩:∃ j,AN=j+5:=⟨AN - 5,by omega⟩
   exact ⟨0,_,false,y.arms j,q1 j,rfl,by simp;omega,.inr ⟨rfl,rfl⟩,q2⟩
 have HCE:=Hd hce
 have HDN:=Hd hdn
 have HCT:=Hd hct
 have hb5':decide (AN<5)=b5:=by rw [←hb5];exact decide_eq_decide.mpr (by omega)
 have hb6:decide ((5:Int)≤(AN:Int)) = !b5:=by rw [←hb5];by_cases h:(AN:Int)<5 <;> simp [h] <;> omega
 have hb6':decide (5≤AN) = !b5:=by rw [←hb5'];by_cases h:AN<5 <;> simp [h] <;> omega
 have HVF:=Hd hvf
 have HFB:=Hd hfb
 have HRV:=Hd hrv
 have HB2:=Hd (HB1.out.trans (hb.mono hz1))
 have HB12:=Hd hb
 have KX2:=Hd (blk_below' KX1.out hb)
 have hz2:=hb.size
 have HNS:=Hd (show Rv.of v ns=Rv.of v ns from rfl)
 obtain ⟨c0,c1,c2,c3,c4,c5a,c5n,c5c,c6a,c6n,c6c,rfl⟩:=RvIn.agg hrv
 clear hvf hfb hvd hrv hac hsz hns hb hck hcr hcuts hce hdn hct hil x0 x1 hAN
 go_upto_region 6 with fail
 obtain ⟨w3,hw3⟩:∃ w3:World,w3=w2.alloc (.cells #[.int .i64 c0,.int .i64 c1,.int .i64 c2,.int .i64 c3,.bool c4,.slice c5a c5n c5c,.slice c6a c6n c6c] 43):=⟨_,rfl⟩
 have HB23:=Hd (show Below w2.heap.size w2 w3 by rw [hw3];exact belo)
 have KM3:=Hd (show w3.heap[w2.heap.size]? = some (.cells #[.int .i64 c0,.int .i64 c1,.int .i64 c2,.int .i64 c3,.bool c4,.slice c5a c5n c5c,.slice c6a c6n c6c] 43 (0,0)) by rw [hw3];exact heap_new w2 _)
 have KX3:=Hd (blk_below' KX2.out HB23.out)
 rw [←hw3]
 clear hw3
 have hz23:=HB23.out.size
 obtain ⟨MB,hMB⟩:∃ MB,MB=w2.heap.size:=⟨_,rfl⟩
 have hMF:¬ F MB:=fun e=>by have:=HVF.out.lt MB e;omega
 have HVF3:=Hd (HVF.out.kp (KP.of HB23.out) (fun k hk=>HVF.out.lt k hk))
 have HMA3:=Hd (show MAt w3 F MB (Rv.of v ns) from ⟨c0,c1,c2,c3,c4,c5a,c5n,c5c,c6a,c6n,c6c,by rw [hMB];exact KM3.out,(HRV.out.wide (Q:=fun k=>¬ F k∧k≠MB) (fun j hj hl=>⟨hj,by omega⟩)).kp (KP.of HB23.out)⟩)
 have HB3:=Hd (HB2.out.trans (HB23.out.mono HB2.out.size))
 have hMBl:MB<w3.heap.size:=by rw [hMB];exact blk_lt KM3.out
 rw [←hMB]
 clear KM3 hMB HVF HRV HMA
 obtain ⟨num,most,epoch,size,shut,al,ln,cl,ad,ddn,cd,hln,km,hrl,hbl2,hsame⟩:=HMA3.out.opened (by omega)
 have KM:=Hd km
 have HRL:=Hd hrl
 have HBL:=Hd hbl2
 have HSM:=Hd hsame
 obtain ⟨P,hP⟩:∃ P:Nat→Prop,P=fun k=>¬ F k∧k<w3.heap.size:=⟨_,rfl⟩
 have HPV:=Hd hP
 have HMP:=Hd (show P MB by rw [hP];exact ⟨hMF,hMBl⟩)
 have HXP:=Hd (show P XB by rw [hP];exact ⟨fun e=>by have:=HFB.out XB e;omega,by omega⟩)
 have HV3:=Hd (show VS w3 vp dp P 245 d v from HVF3.out.vs fun k hf e=>by rw [hP] at e;exact e.1 hf)
 have HPL3:=Hd (show ∀ k,P k→k<w3.heap.size from fun k hk=>by rw [hP] at hk;exact hk.2)
 have HLOW:=Hd (show ∀ (wr:World),KP P w3 wr→Below w.heap.size w wr from fun wr hk=>HB3.out.trans (KP.below hk HB3.out.size (fun j hj=>by rw [hP];exact ⟨fun e=>by have:=HFB.out j e;omega,by have:=HB3.out.size;omega⟩)))
 clear hP km hrl hbl2 hsame hln HVF3 HMA3
 have KM:=Hd (show w3.heap[MB]? = some (.cells #[.int .i64 num,.int .i64 most,.int .i64 epoch,.int .i64 size,.bool shut,.slice al ln cl,.slice ad ddn cd] 43 (0,0)) from KM.out)
 obtain ⟨R3,r1,r2,r3,r4⟩:=HV3.out.disk HPL3.out
 have HAR:=Hd (arm_ds r1 r3 (AN:Int) (by omega))
 rw [HARM.out] at HAR
 have HR4:=Hd r4
 clear r1 r2 r3 r4 HARM
 go_wp2_with fail
 refine HAR.out.mono ?_
 rintro e w4 ⟨rfl,ht⟩
 obtain ⟨hv4,hk4⟩:=HR4.out _ _ _ ht
 have HV4:=Hd hv4
 have HK4:=Hd hk4
 have HPL4:=Hd (show ∀ k,P k→k<w4.heap.size from fun k hk=>Nat.lt_of_lt_of_le (HPL3.out k hk) hk4.size)
 clear ht hv4 hk4
 have HWR:=Hd (ckwrite_vs HV4.out HPL4.out (by omega) HCG.out)
 rw [HCE.out] at HWR
 go_wp2_with fail
 refine HWR.out.mono ?_
 rintro e w5 ⟨rfl,hvt⟩
 obtain ⟨ix,vx,hva,hds,hft,hok⟩:=hvt.1
 have HDS5:=Hd hds
 have HFT5:=Hd hft
 have HOK:=Hd hok
 have HK5:=Hd (show KP P w3 w5 from HK4.out.trans hvt.2)
 have hz5:=HK5.out.size
 clear hvt hva hds hft hok HWR HCE HAR HR4
 have HDW:=Hd (down_ds HDS5.out)
 rw [HDN.out] at HDW
 rcases hcase with ⟨rfl,rfl,rfl⟩|⟨rfl,rfl⟩
 focus
  rw [errV_ne (show ((12:Nat):Int)≠0 by decide)]
  simp only [Bool.not_true] at hb6 hb6'
  go_wp2_with fail
  refine HDW.out.mono ?_
  rintro e wx ⟨rfl,rfl⟩
  go_wp2_with fail
  refine (show Calls Tryz.prog 14 #[.iface 99 (.int .i64 12)] _ _ from code_some 12 (by decide) (by decide) _).mono ?_
  rintro e wx ⟨rfl,rfl⟩
  go_upto_region 13 with fail
 rotate_left
 focus
  rw [show errV ((0:Nat):Int)=.nilIface from rfl]
  simp only [Bool.not_false] at hb6 hb6'
  cases dn
  all_goals
   go_wp2_with fail
   refine HDW.out.mono ?_
   rintro e wx ⟨rfl,rfl⟩
   go_wp2_with fail
   refine (code0 _).mono ?_
   rintro e wx ⟨rfl,rfl⟩
   go_upto_region 13 with fail
 all_goals
  have KX5:=Hd (KP.blk HK5.out KX3.out HXP.out)
  obtain ⟨x0,x1⟩:=scells2 KX5.out
  have hxb5:=blk_lt KX5.out
  go_wp2_with fail
  refine (picks_any PN p.files af PL cf w5 HPL.out.symm (by omega) (HRP.out.below (HLOW.out w5 HK5.out))).mono ?_
  rintro e w6 ⟨pv,rfl,hov,hbb⟩
  obtain ⟨av,cv,rfl⟩:=ownsRow_len hov
  have HOV:=Hd hov
  have HBB:=Hd hbb
  have hzb:=hbb.size
  clear hov hbb x0 x1
  obtain ⟨Q,hQ⟩:∃ Q:Nat→Prop,Q=fun k=>(P k∨VFoot vp ix vx k)∨(w5.heap.size≤k∧k<w6.heap.size):=⟨_,rfl⟩
  have HQP:=Hd (show ∀ k,P k→Q k from fun k hk=>by rw [hQ];exact .inl (.inl hk))
  have HQL:=Hd (show ∀ k,Q k→k<w6.heap.size from fun k hk=>by
   rw [hQ] at hk
   rcases hk with (hk|hk)|hk
   ·have:=HPL3.out k hk;omega
   ·have:=(HFT5.out k hk).2;omega
   ·exact hk.2)
  have HD6:=Hd (show DS w6 dp Q 255 y2 from HDS5.out.later HBB.out (fun k hk=>by rw [hQ] at hk;exact hk.imp id (fun h=>h.1)))
  have hcr:=crash_ds HD6.out HQL.out (by omega) p av cv (by rw [←HPL.out];exact reads_of_owns HOV.out) (fun g e=>by
   subst e
   rcases row_addrC HOV.out with e|⟨g',e⟩
   ·cases e
   ·cases e
    have h9:=HOV.out.lt g' rfl
    exact ⟨rfl,by rw [hQ];exact .inr h9,h9.2⟩) HP1.out.1 HP1.out.2 HPK.out
  rw [←HPN.out,←HPL.out] at hcr
  have HCR2:=Hd hcr
  clear hcr hQ
  go_wp2_with fail
  refine HCR2.out.mono ?_
  rintro e w7 ⟨rfl,hdc,hkc⟩
  have HD7:=Hd hdc
  have HK7:=Hd (show KP P w3 w7 from (HK5.out.trans (KP.of HBB.out)).trans (hkc.mono fun j _ e=>HQP.out j e))
  have HQL7:=Hd (show ∀ k,Q k→k<w7.heap.size from fun k hk=>Nat.lt_of_lt_of_le (HQL.out k hk) hkc.size)
  clear hdc hkc HCR2
  obtain ⟨o',n',hcf,hrk,hol,hnn⟩:=HCT.out p
  obtain ⟨c',hc1,hr1,hop⟩:=hcf.opened HD7.out HQL7.out (by omega) hrk (by
   rcases hnn with rfl|rfl
   ·exact hcf.baseNone
   ·exact hcf.baseGood (List.prefix_refl _) HGC.out) HOK.out (by omega)
  rw [hmost] at hop
  have HOP:=Hd hop
  obtain ⟨d9,e9,hck9,hrs9⟩:=hc1.all hr1.syn (c:=ckSnap v) hnum hcf.vk.gen HCR.out (by
   have:olen n'≤(ckB (ckSnap v)).length:=by
    rcases hnn with rfl|rfl
    ·exact Nat.zero_le _
    ·exact Nat.le_refl _
   show v.size+48+24 * v.idx.length+olen n'≤_
   omega)
  have HE9:=Hd e9
  have HCK9:=Hd hck9
  have HRS9:=Hd (hrs9.crash hck9.vk.armed ⟨0,[]⟩)
  clear hcf hrk hol hnn hc1 hr1 hop e9 hck9 hrs9
  go_wp2_with fail
  refine (show Calls Tryz.prog 20 #[(.pointer (some ⟨dp,0,none⟩)),.int .i64 1,.int .i64 1048576] w7 _ from HOP.out).mono ?_
  rintro e w8 ⟨vp2,rfl,hv8,-,hk8⟩
  have HV8:=Hd hv8
  obtain ⟨ix2,vx2,hva2,-,-,-⟩:=hv8
  have HVA8:=Hd hva2
  have HK8:=Hd (show KP P w3 w8 from HK7.out.trans (hk8.mono fun j _ e=>HQP.out j e))
  have HQL8:=Hd (show ∀ k,Q k→k<w8.heap.size from fun k hk=>Nat.lt_of_lt_of_le (HQL7.out k hk) hk8.size)
  have KM8:=Hd (KP.blk HK8.out KM.out HMP.out)
  have HR8:=Hd (HRL.out.keepsN (by omega) HK8.out (fun x e=>⟨(HBL.out x e).2.2,fun e2=>e2 (by rw [HPV.out];exact ⟨(HBL.out x e).1,(HBL.out x e).2.2⟩)⟩))
  clear hva2 hk8 HOP
  have hlm:=blk_lt KM8.out
  obtain ⟨m0,m1,m2,m3,m4,m5,m6⟩:=cells7' KM8.out
  go_wp2_with fail
  refine (code0 _).mono ?_
  rintro e wx ⟨rfl,rfl⟩
  go_wp2_with fail
  refine (HSM.out w8 vp2 dp ix2 vx2 HVA8.out HR8.out).mono ?_
  rintro e w9 ⟨rfl,hb9⟩
  have HV9:=Hd (HV8.out.below hb9)
  have HK9:=Hd (show KP P w3 w9 from HK8.out.trans (KP.of hb9))
  have HQL9:=Hd (show ∀ k,Q k→k<w9.heap.size from fun k hk=>Nat.lt_of_lt_of_le (HQL8.out k hk) hb9.size)
  clear hb9 m0 m1 m2 m3 m4 m5 m6 hlm
  have HWR:=Hd (ckwrite_vs HV9.out HQL9.out (by omega) HCG.out)
  rw [HE9.out] at HWR
  go_wp2_with fail
  refine HWR.out.mono ?_
  rintro e w10 ⟨rfl,hvt⟩
  obtain ⟨ix3,vx3,hva3,hds3,hft3,hok3⟩:=hvt.1
  have HDS10:=Hd hds3
  have HK10:=Hd (show KP P w3 w10 from HK9.out.trans (hvt.2.mono fun j _ e=>HQP.out j e))
  have HQL10:=Hd (show ∀ k,(Q k∨VFoot vp2 ix3 vx3 k)→k<w10.heap.size from fun k hk=>hk.elim (fun h=>Nat.lt_of_lt_of_le (HQL9.out k h) hvt.2.size) (fun h=>(hft3 k h).2))
  clear hvt hva3 hds3 hft3 hok3 HWR
  rw [show errV ((0:Nat):Int)=.nilIface from rfl]
  have HCR3:=Hd (crash_ds HDS10.out HQL10.out (by omega) ⟨0,[]⟩ none 0 (reads_none _ _) (fun a e=>by cases e) (by show (-9223372036854775808:Int)≤0;omega) (by show (0:Int)≤9223372036854775807;omega) (fun x hx=>absurd hx List.not_mem_nil))
  rw [HRS9.out] at HCR3
  go_wp2_with fail
  refine (show Calls Tryz.prog 18 #[(.pointer (some ⟨dp,0,none⟩)),.agg #[.int .i64 0,.slice none 0 0]] w10 _ from HCR3.out).mono ?_
  rintro e w11 ⟨rfl,hdc,hkc⟩
  have HD11:=Hd hdc
  have HK11:=Hd (show KP P w3 w11 from HK10.out.trans (hkc.mono fun j _ e=>.inl (HQP.out j e)))
  have HQL11:=Hd (show ∀ k,(Q k∨VFoot vp2 ix3 vx3 k)→k<w11.heap.size from fun k hk=>Nat.lt_of_lt_of_le (HQL10.out k hk) hkc.size)
  clear hdc hkc HCR3
  have HOP:=Hd (HCK9.out.open1 HD11.out HQL11.out (by omega) (List.prefix_refl _) HGC.out HOK.out (by omega))
  rw [hmost] at HOP
  go_wp2_with fail
  refine (show Calls Tryz.prog 20 #[(.pointer (some ⟨dp,0,none⟩)),.int .i64 1,.int .i64 1048576] w11 _ from HOP.out).mono ?_
  rintro e w12 ⟨vp4,rfl,hv12,-,hk12⟩
  obtain ⟨ix4,vx4,hva4,-,-,-⟩:=hv12
  have HVA12:=Hd hva4
  have HK12:=Hd (show KP P w3 w12 from HK11.out.trans (hk12.mono fun j _ e=>.inl (HQP.out j e)))
  have KM12:=Hd (KP.blk HK12.out KM.out HMP.out)
  have HR12:=Hd (HRL.out.keepsN (by omega) HK12.out (fun x e=>⟨(HBL.out x e).2.2,fun e2=>e2 (by rw [HPV.out];exact ⟨(HBL.out x e).1,(HBL.out x e).2.2⟩)⟩))
  clear hva4 hk12 HOP
  have hlm:=blk_lt KM12.out
  obtain ⟨m0,m1,m2,m3,m4,m5,m6⟩:=cells7' KM12.out
  go_wp2_with fail
  refine (code0 _).mono ?_
  rintro e wx ⟨rfl,rfl⟩
  go_wp2_with fail
  refine (code0 _).mono ?_
  rintro e wx ⟨rfl,rfl⟩
  go_wp2_with fail
  refine (HSM.out w12 vp4 dp ix4 vx4 HVA12.out HR12.out).mono ?_
  rintro e w13 ⟨rfl,hb13⟩
  have HB13:=Hd (show Below w.heap.size w w13 from HLOW.out w13 (HK12.out.trans (KP.of hb13)))
  clear hb13
  go_wp2_with fail
  go_ret
  exact ⟨rfl,HB13.out⟩
end Go.Proofs.YtfpjfoajonbndaaGreatDoor
