import Derived.Test.YtfpjfoajonbndaaGreatDoorChShipMadeL
import Derived.Test.YtfpjfoajonbndaaGreatDoorCh11
import Derived.Test.YtfpjfoajonbndaaGreatDoorCh10
namespace Go.Proofs.YtfpjfoajonbndaaGreatDoor
set_option maxHeartbeats 8000000
set_option maxRecDepth 100000
open Go.RowKit
set_option maxRecDepth 100000
set_option maxHeartbeats 8000000
open Go.RowKit
def MadeR (w:World) (num:Nat) (l:List ActE) (e:Ending) (w':World):Prop:=
 ∃ vp dp F val d v ns,e=.returned (.tuple #[(.pointer (some ⟨dp,0,none⟩)),(.pointer (some ⟨vp,0,none⟩)),val,.bool true])∧VF w' vp dp F 245 d v∧(∀ k,F k→w.heap.size≤k)∧VD d v ns∧RvIn w' (fun k=>¬ F k) val (Rv.of v ns)∧Rv.of v ns=(rv0 num 1048576).acts (l.map ActE.act)∧v.size≤16+336 * l.length∧ns.length≤l.length∧Below w.heap.size w w'
theorem VD.act_all{d:Dk}{v:Vl}{ns:List Nd}(h:VD d v ns)(a:VAct)(hk:a.n.key<18446744073709551616)(hck:a.n.cookie<4294967296)(hcap:v.size+ndSize a.n.data.length+56≤1048576) :
  ∃ d' v' ns',v.act d a=(((Rv.of v ns).act a).1,d',v')∧VD d' v' ns'∧Rv.of v' ns'=((Rv.of v ns).act a).2∧v'.size≤v.size+ndSize a.n.data.length∧ns'.length≤ns.length+1:=by
 obtain ⟨d',v',ns',h1,h2,h3,h4,h5⟩:=h.vi.act a hk hck hcap
 refine ⟨d',v',ns',h1,h.act a hcap h1 h2 ?_,h3,h4,h5⟩
 have e:=congrArg Rv.num h3
 rw [(Rv.act_keeps _ _).1] at e
 exact e
theorem madeR_any(a:Option Addr)(n c:Nat)(l:List ActE)(w:World)(hn:l.length=n)(hr:Reads w 6 (.slice a n c) n (l.flatMap ActE.cs))(ho:∀ x∈l,ActArg w x)(h60:n≤60)(h300:∀ x∈l,x.x.n.data.length≤300) :
  Calls Tryz.prog 27 #[.slice a n c] w (MadeR w 1 l):=by
 have HN:=Hd (namesAt3 (.inl rfl))
 have HLG:=Hd (long_names (num:=1) (by omega))
 have HLN:=Hd hn
 have HR:=Hd hr
 have HOA:=Hd ho
 have H300:=Hd h300
 obtain ⟨d,hd,hvi⟩:=VD.make (num:=1) (most:=1048576) (epoch:=0) (by omega) (by omega) (by omega) (by omega)
 have HD:=Hd hd
 have HVI:=Hd hvi
 have HMK:=Hd (fun (w1:World) (dp:Nat) (P:Nat→Prop) (h:DS w1 dp P 0 (Dk.new 1048576)) (hP:∀ k,P k→k<w1.heap.size)=>make_ds h hP (by omega) 1 1048576 0 (by omega) ⟨by omega,by omega⟩ (by omega) HN.out HLG.out)
 rw [hd] at HMK
 unfold MadeV at HMK
 have HNW:=Hd (fun w1:World=>new_ds 1048576 (by omega) w1)
 clear hd hvi hn hr ho h300
 go_enter Tryz.func27,Tryz.ntmps27
 go_wp2_with fail
 obtain ⟨w0,hw0⟩:∃ w0:World,w0=w.alloc (.cells #[.int .i64 0,.int .i64 0,.int .i64 0,.int .i64 0,.bool false,.slice none 0 0,.slice none 0 0] 43):=⟨_,rfl⟩
 have HB0:=Hd (show Below w.heap.size w w0 by rw [hw0];exact belo)
 have KR0:=Hd (show w0.heap[w.heap.size]? = some (.cells #[.int .i64 0,.int .i64 0,.int .i64 0,.int .i64 0,.bool false,.slice none 0 0,.slice none 0 0] 43 (0,0)) by rw [hw0];exact heap_new w _)
 rw [←hw0]
 clear hw0
 have hz0:=HB0.out.size
 have hl0:=blk_lt KR0.out
 refine (HNW.out w0).mono ?_
 rintro e w1 ⟨rfl,hds,hb,hlt1⟩
 have HDS:=Hd hds
 have KR1:=Hd (blk_below' KR0.out hb)
 have HB1:=Hd (HB0.out.trans (hb.mono hz0))
 have hz1:=hb.size
 clear hds hb
 obtain ⟨dp,hdp⟩:∃ dp,dp=w0.heap.size+2:=⟨_,rfl⟩
 rw [←hdp] at HDS hlt1 ⊢
 clear hdp
 go_wp2_with fail
 refine (HMK.out w1 dp _ HDS.out (fun k hk=>Nat.lt_of_lt_of_le hk hz1)).mono ?_
 rintro e w2 hmd
 obtain ⟨_,vp,rfl,hvt⟩|⟨h,_⟩:=hmd
 case inr=>exact absurd rfl h
 have HVS:=Hd hvt.1
 have HKP:=Hd hvt.2
 have KR2:=Hd (hvt.2.blk KR1.out hl0)
 have HB2:=Hd (HB1.out.trans (hvt.2.below (B:=w.heap.size) (by omega) (fun k hk=>by omega)))
 have hz2:=hvt.2.size
 clear hvt
 go_wp2_with fail
 refine (ref09_new _ _ _ _).mono ?_
 rintro e w3 ⟨rfl,hb⟩
 have KR3:=Hd (blk_below' KR2.out hb)
 have HB3:=Hd (HB2.out.trans (hb.mono HB2.out.size))
 have HV3:=Hd (HVS.out.below hb)
 have HB23:=Hd hb
 have hz3:=hb.size
 clear hb
 go_upto_region 4 with fail
 obtain ⟨w4,hw4⟩:∃ w4:World,w4=w3.alloc (.cells #[.int .i64 1,.int .i64 1048576,.int .i64 0,.int .i64 16,.bool false,.slice none 0 0,.slice none 0 0] 43):=⟨_,rfl⟩
 have hb4:Below w3.heap.size w3 w4:=by rw [hw4];exact belo
 have KR4:=Hd (blk_below' KR3.out hb4)
 have KM4:=Hd (show w4.heap[w3.heap.size]? = some (.cells #[.int .i64 1,.int .i64 1048576,.int .i64 0,.int .i64 16,.bool false,.slice none 0 0,.slice none 0 0] 43 (0,0)) by rw [hw4];exact heap_new w3 _)
 have HB4:=Hd (HB3.out.trans (hb4.mono HB3.out.size))
 have HV4:=Hd (HV3.out.below hb4)
 have HB24:=Hd (HB23.out.trans (hb4.mono hz3))
 rw [←hw4]
 clear hw4 hb4
 obtain ⟨MB,hMB⟩:∃ MB,MB=w3.heap.size:=⟨_,rfl⟩
 rw [←hMB] at KM4 ⊢
 have hMBlt:=blk_lt KM4.out
 have hMBge:w2.heap.size≤MB:=by rw [hMB];exact hz3
 clear hMB
 have HST:=Hd (show ∃(F:Nat→Prop)(d:Dk)(v:Vl)(ns:List Nd),VF w4 vp dp F 5 d v∧(∀ k,F k→w.heap.size≤k∧k≠w.heap.size∧k≠MB)∧VD d v ns∧RvIn w4 (fun k=>¬ F k∧k≠MB∧k≠w.heap.size) (.agg #[.int .i64 1,.int .i64 1048576,.int .i64 0,.int .i64 16,.bool false,.slice none 0 0,.slice none 0 0]) (Rv.of v ns)∧Rv.of v ns=rv0 1 1048576∧v.size≤16∧ns.length≤0 by
  obtain ⟨F,hF1,hF2⟩:=HVS.out.foot
  have hF3:∀ k,F k→k<w2.heap.size:=hF1.lt
  refine ⟨F,_,_,[],hF1.keeps (R:=fun k=>w2.heap.size≤k) (Keeps.of_below HB24.out fun k _ hk=>by omega) (fun k hk e=>by have:=hF3 k hk;omega),fun k hk=>?_,HVI.out,⟨none,0,none,0,[],rfl,reads_none _ _,(fun a e=>by cases e),⟨rfl,reads_none _ _,(fun a e=>by cases e),fun x hx=>absurd hx List.not_mem_nil⟩,rfl⟩,rfl,Nat.le_refl _,Nat.le_refl _⟩
  have h1:=hF3 k hk
  have h2:=hF2 k hk
  omega)
 go_wp2_with fail
 refine (code0 _).mono ?_
 rintro e wx ⟨rfl,rfl⟩
 go_wp2_with fail
 have hzw4:=HB4.out.size
 have hl4:=blk_lt KR4.out
 go_loopg [11,12] n (fun g s i wr=>∃(k:Nat)(F:Nat→Prop)(d:Dk)(v:Vl)(ns:List Nd)(c0 c1 c2 c3:Int)(c4:Bool)(c5a:Option Addr)(c5n c5c:Nat)(c6a:Option Addr)(c6n c6c:Nat),k≤n∧g=n - k∧i=.int .i64 k∧s=.bool true∧VF wr vp dp F (5+4 * k) d v∧(∀ k,F k→w.heap.size≤k∧k≠w.heap.size∧k≠MB)∧VD d v ns∧RvIn wr (fun k=>¬ F k∧k≠MB∧k≠w.heap.size) (.agg #[.int .i64 c0,.int .i64 c1,.int .i64 c2,.int .i64 c3,.bool c4,.slice c5a c5n c5c,.slice c6a c6n c6c]) (Rv.of v ns)∧Rv.of v ns=(rv0 1 1048576).acts ((l.map ActE.act).take k)∧v.size≤16+336 * k∧ns.length≤k∧wr.heap[MB]? = some (.cells #[.int .i64 c0,.int .i64 c1,.int .i64 c2,.int .i64 c3,.bool c4,.slice c5a c5n c5c,.slice c6a c6n c6c] 43 (0,0))∧wr.heap[w.heap.size]? = some (.cells #[.int .i64 0,.int .i64 0,.int .i64 0,.int .i64 0,.bool false,.slice none 0 0,.slice none 0 0] 43 (0,0))∧Below w.heap.size w wr)
 case atStart=>
  obtain ⟨F,d',v',ns',h1,h2,h3,h4,h5,h6,h7⟩:=HST.out
  exact ⟨0,F,d',v',ns',_,_,_,_,_,_,_,_,_,_,_,Nat.zero_le _,rfl,rfl,rfl,h1,h2,h3,h4,by rw [h5];rfl,h6,h7,KM4.out,KR4.out,HB4.out⟩
 case round=>
  obtain ⟨k,F,d',v',ns',c0,c1,c2,c3,c4,c5a,c5n,c5c,c6a,c6n,c6c,hk,rfl,rfl,rfl,hvf,hfb,hvi,hrv,hacts,hsz,hns,kmr,krr,hbr⟩:=hrel
  have HVF:=Hd hvf
  have HFB:=Hd hfb
  have HVI2:=Hd hvi
  have HRV:=Hd hrv
  have HAC:=Hd hacts
  have KMR:=Hd kmr
  have KRR:=Hd krr
  have HBR:=Hd hbr
  have HSZ:=Hd hsz
  have HNS:=Hd hns
  have hzr:=hbr.size
  have hlm:=blk_lt kmr
  have hlr:=blk_lt krr
  clear hvf hfb hvi hrv hacts kmr krr hbr hsz hns HST
  by_cases hlt:k<n
  ·obtain ⟨x,hx⟩:∃ x,l[k]? = some x:=⟨_,List.getElem?_eq_getElem (by rw [HLN.out];exact hlt)⟩
   obtain ⟨b,o,c',e,hblt,r0,r1,r2,r3,r4,r5⟩:=act9_cells (HR.out.below HBR.out) hx (by omega)
   obtain ⟨rfl,-,rfl⟩:=sl_inj e
   have HX:=Hd hx
   have HXA:=Hd (HOA.out x (List.mem_of_getElem? hx))
   have HX3:=Hd (H300.out x (List.mem_of_getElem? hx))
   have hj0:(0:Int)≤(k:Int):=by omega
   have hj1:(k:Int)<(n:Int):=by omega
   clear hx e
   have HXP:=Hd (show NdP wr (POld (fun k=>¬ F k∧k≠MB∧k≠w.heap.size) wr) x.x by
    refine ⟨HXA.out.nd.below HBR.out,fun ad e hl=>?_⟩
    obtain ⟨b,o,c,e2,hb2,_,_⟩:=reads_at HXA.out.nd.data (by omega) (by omega)
    have e3:=(sl_inj e2).1
    rw [e] at e3
    cases e3
    have h1:=HFB.out b
    exact ⟨⟨⟨fun e=>by have:=h1 e;omega,by show b≠MB;omega,by show b≠_;omega⟩,by show b<_;omega⟩,by show b<_;omega⟩)
   obtain ⟨RV,hRV⟩:∃ RV,RV=(Rv.of v' ns').act x.act:=⟨_,rfl⟩
   have HDO:=Hd (fun (w0:World) (hb:Below wr.heap.size wr w0)=>rdo_any (POld (fun k=>¬ F k∧k≠MB∧k≠w.heap.size) wr) (Rv.of v' ns') (.agg #[.int .i64 c0,.int .i64 c1,.int .i64 c2,.int .i64 c3,.bool c4,.slice c5a c5n c5c,.slice c6a c6n c6c]) x w0 ((HRV.out.wide (Q:=POld (fun k=>¬ F k∧k≠MB∧k≠w.heap.size) wr) (fun _ hk hs=>⟨hk,hs⟩)).kp (KP.of hb)) (HXP.out.below hb) (by have:=HX3.out;omega) HVI2.out.vi.srt (by show v'.size≤_;have:=HSZ.out;omega) (by
     have h9:(Rv.of v' ns').most=((rv0 1 1048576).acts ((l.map ActE.act).take k)).most:=by rw [HAC.out]
     rw [h9,Rv.acts_most]
     show (1048576:Nat)≤_
     omega) (by show v'.idx.length≤_;have:=HVI2.out.vi.len;have:=HNS.out;omega) (by show ns'.length≤_;have:=HNS.out;omega))
   rw [←hRV] at HDO
   have HVA:=Hd (HVI2.out.act_all x.act (show x.act.n.key<_ from HXA.out.nd.key) (show x.act.n.cookie<_ from HXA.out.nd.cookie) (by
    have h8:ndSize x.act.n.data.length≤336:=by
     have:=HX3.out
     show ndSize x.x.n.data.length≤_
     unfold ndSize padN
     omega
    have:=HSZ.out
    omega))
   have h17:RV.1≤17:=by rw [hRV];exact Rv.act_17 _ _
   rw [←hRV] at HVA
   have HRVE:=Hd hRV
   clear hRV
   obtain ⟨RC,RW⟩:=RV
   simp only at h17
   have HXE:=Hd (rfl:x.act=x.act)
   obtain ⟨kd,am,⟨⟨key,cookie,gone,data⟩,xa,xc⟩⟩:=x
   simp only at r0 r1 r2 r3 r4 r5
   go_upto_region 8 with fail
   go_cut [13,14,15,16] (fun x16 x17 x18 x19 wx=>∃(bx:Nat)(u0 u1 u2 u3:Int)(u4:Bool)(u5a:Option Addr)(u5n u5c:Nat)(u6a:Option Addr)(u6n u6c:Nat),x16=.pointer (some ⟨bx,0,none⟩)∧x19=.int .i64 RC∧wr.heap.size≤bx∧Below wr.heap.size wr wx∧wx.heap[bx]? = some (.cells #[.int .i64 u0,.int .i64 u1,.int .i64 u2,.int .i64 u3,.bool u4,.slice u5a u5n u5c,.slice u6a u6n u6c] 43 (0,0))∧RvIn wx (PNew (fun k=>¬ F k∧k≠MB∧k≠w.heap.size) wr) (.agg #[.int .i64 u0,.int .i64 u1,.int .i64 u2,.int .i64 u3,.bool u4,.slice u5a u5n u5c,.slice u6a u6n u6c]) RW)
   case first=>
    focus
     obtain ⟨SS,HSD⟩:∃ SS:World→Prop,Hid (SS=fun w'=>Below wr.heap.size wr w'):=⟨_,Hd rfl⟩
     refine wp_region_three0 SS [0,4] [0,0,0,6,14,31,63,127,127,127,127,0,0,6399,14847,31743,65535] (.op 0 2 (.op 1 0 (.op 2 0 (.op 3 0 (.op 4 2 (.three 5 (.op 6 0 (.op 7 0 (.op 8 0 (.op 9 0 (.op 10 0 (.two 11 (.op 12 1 (.op 13 1 (.op 14 1 (.op 15 0 (.op 16 0 .nil))))) 12 (.op 11 1 (.op 13 1 (.op 14 1 (.op 15 0 (.op 16 0 .nil))))))))))) 11 (.two 5 (.op 6 0 (.op 7 0 (.op 8 0 (.op 9 0 (.op 10 0 (.op 12 1 (.op 13 1 (.op 14 1 (.op 15 0 (.op 16 0 .nil)))))))))) 12 (.op 5 1 (.op 6 0 (.op 7 0 (.op 8 0 (.op 9 0 (.op 10 0 (.op 13 1 (.op 14 1 (.op 15 0 (.op 16 0 .nil))))))))))) 12 (.two 5 (.op 6 0 (.op 7 0 (.op 8 0 (.op 9 0 (.op 10 0 (.op 11 1 (.op 13 1 (.op 14 1 (.op 15 0 (.op 16 0 .nil)))))))))) 11 (.op 5 1 (.op 6 0 (.op 7 0 (.op 8 0 (.op 9 0 (.op 10 0 (.op 13 1 (.op 14 1 (.op 15 0 (.op 16 0 .nil))))))))))))))))) (by kernel_rfl) (by kernel_rfl) rfl (by kernel_rfl) (by kernel_rfl) ?_ ?_
     (focus (rw [HSD.out];exact Below.drew (Below.refl _ _)));refine step32 rfl rfl ?_ (fun w1 hS=>?_) fun K hK=>?_;rotate_left;(focus (rw [HSD.out] at hS;obtain ⟨m0,m1,m2,m3,m4,m5,m6⟩:=cells7' (blk_below' KMR.out hS);have q0:=((bcell hS).1 b (o+k * 6) hblt).trans r0;have q1:=((bcell hS).1 b (o+k * 6+1) hblt).trans r1;have q2:=((bcell hS).1 b (o+k * 6+2) hblt).trans r2;have q3:=((bcell hS).1 b (o+k * 6+3) hblt).trans r3;have q4:=((bcell hS).1 b (o+k * 6+4) hblt).trans r4;have q5:=((bcell hS).1 b (o+k * 6+5) hblt).trans r5;go_simp;rfl));go_simp;refine hK _ ?_;clear hK K;refine step30 rfl rfl fun K hK=>?_;go_simp;refine hK _ ?_;clear hK K;refine step30 rfl rfl fun K hK=>?_;go_simp;refine hK _ ?_;clear hK K;refine step30 rfl rfl fun K hK=>?_;go_simp;refine hK _ ?_;clear hK K;refine step32 rfl rfl ?_ (fun w1 hS=>?_) fun K hK=>?_;rotate_left;(focus (rw [HSD.out] at hS;obtain ⟨m0,m1,m2,m3,m4,m5,m6⟩:=cells7' (blk_below' KMR.out hS);have q0:=((bcell hS).1 b (o+k * 6) hblt).trans r0;have q1:=((bcell hS).1 b (o+k * 6+1) hblt).trans r1;have q2:=((bcell hS).1 b (o+k * 6+2) hblt).trans r2;have q3:=((bcell hS).1 b (o+k * 6+3) hblt).trans r3;have q4:=((bcell hS).1 b (o+k * 6+4) hblt).trans r4;have q5:=((bcell hS).1 b (o+k * 6+5) hblt).trans r5;go_simp;rfl));go_simp;refine hK _ ?_;clear hK K
     refine step3three ?_ ?_ ?_ (by kernel_rfl) (by kernel_rfl) (by kernel_rfl)
     ·
      refine stepM1 rfl rfl (by kernel_rfl) fun K hK=>?_
      (go_wp2_with fail;refine (HDO.out _ belo).mono ?_;rintro e w5 ⟨val,nv,kv,yy,rfl,hin,hb5,hnv,-,-,-⟩;obtain ⟨u0,u1,u2,u3,u4,u5a,u5n,u5c,u6a,u6n,u6c,rfl⟩:=RvIn.agg hin;obtain ⟨y0,y1,y2,ya,yn,yc,hy⟩:=ndOV_agg yy;rw [hy] at hnv;subst hnv;have HIN:=Hd hin;have HBC:=Hd (show Below wr.heap.size wr wr.drew from belo);have HB5:=Hd hb5;have HBW5:=Hd (HBC.out.trans (hb5.mono HBC.out.size));have hz5:=HBW5.out.size;clear hb5 hin hy;go_wp2)
      (iterate 5 refine stepM0 rfl rfl fun K hK=>?_;go_simp;refine hK _ ?_;clear hK K)
      refine stepMtwo ?_ ?_ (by kernel_rfl) (by kernel_rfl)
      ·
       refine stepM1S rfl rfl fun K hK=>?_;go_wp2
       refine ⟨by rw [HSD.out];exact ((by first|exact HBW5.out.alloc hz5 _|exact (HBW5.out.alloc hz5 _).alloc (Nat.le_trans hz5 (by simp)) _|exact belo)),?_⟩
       refine stepM1S rfl rfl fun K hK=>?_;go_wp2
       refine ⟨by rw [HSD.out];exact ((by first|exact HBW5.out.alloc hz5 _|exact (HBW5.out.alloc hz5 _).alloc (Nat.le_trans hz5 (by simp)) _|exact belo)),?_⟩
       refine stepM1 rfl rfl (by kernel_rfl) fun K hK=>?_
       (have hh5:=(show w5.heap.size=w5.heap.size from rfl);(try have hl5:=blk_lt K5.out);(try have hl5':=blk_lt K5'.out);obtain ⟨w6,hw6⟩:∃ w6:World,w6=((w5.alloc (.cells #[.int .i64 0,.int .i64 0,.int .i64 0,.int .i64 0,.bool false,.slice none 0 0,.slice none 0 0] 43)).alloc (.cells #[.int .u64 0,.int .u32 0,.bool false,.slice none 0 0] 49)):=⟨_,rfl⟩;have HB6:=Hd (show Below w5.heap.size w5 w6 by rw [hw6];exact belo);have K16:=Hd (show w6.heap[w5.heap.size]? = some (.cells #[.int .i64 0,.int .i64 0,.int .i64 0,.int .i64 0,.bool false,.slice none 0 0,.slice none 0 0] 43 (0,0)) by rw [hw6];exact blk_alloc (heap_new w5 _) _);have K17:=Hd (show w6.heap[w5.heap.size+1]? = some (.cells #[.int .u64 0,.int .u32 0,.bool false,.slice none 0 0] 49 (0,0)) by rw [hw6];exact blk_new _ (by simp));rw [←hw6];clear hw6;obtain ⟨p0,p1,p2,p3,p4,p5,p6⟩:=cells7' K16.out;obtain ⟨f0,f1,f2,f3,f4,f5,f6⟩:=free7 K16.out;obtain ⟨n0,n1,n2,n3⟩:=ncells K17.out;obtain ⟨o0,o1,o2,o3⟩:=nfree K17.out;have hl16:=blk_lt K16.out;have hl17:=blk_lt K17.out;go_wp2)
       refine stepM1 rfl rfl (by kernel_rfl) fun K hK=>?_;go_wp2;(iterate 2 refine stepM0 rfl rfl fun K hK=>?_;go_simp;refine hK _ ?_;clear hK K)
       try refine stepMnil0 ?_
       clear HSD SS
       go_wp2_with fail
       go_meet
       exact ⟨w5.heap.size,u0,u1,u2,u3,u4,u5a,u5n,u5c,u6a,u6n,u6c,rfl,rfl,hz5,mid_fin (.int .u64 y0) (.int .u32 y1) (.bool y2) (.slice ya yn yc) HBC.out HB5.out HB6.out HIN.out (.inr (by omega)) (.inr (by omega)) (by omega) K16.out⟩
      ·
       refine stepM1S rfl rfl fun K hK=>?_;go_wp2
       refine ⟨by rw [HSD.out];exact ((by first|exact HBW5.out.alloc hz5 _|exact (HBW5.out.alloc hz5 _).alloc (Nat.le_trans hz5 (by simp)) _|exact belo)),?_⟩
       refine stepM1S rfl rfl fun K hK=>?_;go_wp2
       refine ⟨by rw [HSD.out];exact ((by first|exact HBW5.out.alloc hz5 _|exact (HBW5.out.alloc hz5 _).alloc (Nat.le_trans hz5 (by simp)) _|exact belo)),?_⟩
       refine stepM1 rfl rfl (by kernel_rfl) fun K hK=>?_
       (have hh5:=(show w5.heap.size=w5.heap.size from rfl);(try have hl5:=blk_lt K5.out);(try have hl5':=blk_lt K5'.out);obtain ⟨w6,hw6⟩:∃ w6:World,w6=((w5.alloc (.cells #[.int .u64 0,.int .u32 0,.bool false,.slice none 0 0] 49)).alloc (.cells #[.int .i64 0,.int .i64 0,.int .i64 0,.int .i64 0,.bool false,.slice none 0 0,.slice none 0 0] 43)):=⟨_,rfl⟩;have HB6:=Hd (show Below w5.heap.size w5 w6 by rw [hw6];exact belo);have K16:=Hd (show w6.heap[w5.heap.size+1]? = some (.cells #[.int .i64 0,.int .i64 0,.int .i64 0,.int .i64 0,.bool false,.slice none 0 0,.slice none 0 0] 43 (0,0)) by rw [hw6];exact blk_new _ (by simp));have K17:=Hd (show w6.heap[w5.heap.size]? = some (.cells #[.int .u64 0,.int .u32 0,.bool false,.slice none 0 0] 49 (0,0)) by rw [hw6];exact blk_alloc (heap_new w5 _) _);rw [←hw6];clear hw6;obtain ⟨p0,p1,p2,p3,p4,p5,p6⟩:=cells7' K16.out;obtain ⟨f0,f1,f2,f3,f4,f5,f6⟩:=free7 K16.out;obtain ⟨n0,n1,n2,n3⟩:=ncells K17.out;obtain ⟨o0,o1,o2,o3⟩:=nfree K17.out;have hl16:=blk_lt K16.out;have hl17:=blk_lt K17.out;go_wp2)
       refine stepM1 rfl rfl (by kernel_rfl) fun K hK=>?_;go_wp2;(iterate 2 refine stepM0 rfl rfl fun K hK=>?_;go_simp;refine hK _ ?_;clear hK K)
       try refine stepMnil0 ?_
       clear HSD SS
       go_wp2_with fail
       go_meet
       exact ⟨w5.heap.size+1,u0,u1,u2,u3,u4,u5a,u5n,u5c,u6a,u6n,u6c,rfl,rfl,(by omega),mid_fin (.int .u64 y0) (.int .u32 y1) (.bool y2) (.slice ya yn yc) HBC.out HB5.out HB6.out HIN.out (.inr (by omega)) (.inr (by omega)) (by omega) K16.out⟩
     ·
      refine stepM1S rfl rfl fun K hK=>?_;go_wp2
      refine ⟨by rw [HSD.out];exact ((by first|exact HBW5.out.alloc hz5 _|exact (HBW5.out.alloc hz5 _).alloc (Nat.le_trans hz5 (by simp)) _|exact belo)),?_⟩
      refine stepMtwo ?_ ?_ (by kernel_rfl) (by kernel_rfl)
      ·
       refine stepM1 rfl rfl (by kernel_rfl) fun K hK=>?_
       (go_wp2_with fail;refine (HDO.out _ belo).mono ?_;rintro e w5 ⟨val,nv,kv,yy,rfl,hin,hb5,hnv,-,-,-⟩;obtain ⟨u0,u1,u2,u3,u4,u5a,u5n,u5c,u6a,u6n,u6c,rfl⟩:=RvIn.agg hin;obtain ⟨y0,y1,y2,ya,yn,yc,hy⟩:=ndOV_agg yy;rw [hy] at hnv;subst hnv;have HIN:=Hd hin;have HBC:=Hd (show Below wr.heap.size wr (wr.drew.alloc (.cells #[.int .i64 0,.int .i64 0,.int .i64 0,.int .i64 0,.bool false,.slice none 0 0,.slice none 0 0] 43)) from belo);have HB5:=Hd hb5;have HBW5:=Hd (HBC.out.trans (hb5.mono HBC.out.size));have hz5:=HBW5.out.size;have K5:=Hd (show w5.heap[wr.heap.size]? = some (.cells #[.int .i64 0,.int .i64 0,.int .i64 0,.int .i64 0,.bool false,.slice none 0 0,.slice none 0 0] 43 (0,0)) from blk_below' (show (wr.drew.alloc (.cells #[.int .i64 0,.int .i64 0,.int .i64 0,.int .i64 0,.bool false,.slice none 0 0,.slice none 0 0] 43)).heap[wr.heap.size]? = _ from heap_new _ _) hb5);clear hb5 hin hy;go_wp2)
       (iterate 5 refine stepM0 rfl rfl fun K hK=>?_;go_simp;refine hK _ ?_;clear hK K);refine stepM1S rfl rfl fun K hK=>?_;go_wp2
       refine ⟨by rw [HSD.out];exact ((by first|exact HBW5.out.alloc hz5 _|exact (HBW5.out.alloc hz5 _).alloc (Nat.le_trans hz5 (by simp)) _|exact belo)),?_⟩
       refine stepM1 rfl rfl (by kernel_rfl) fun K hK=>?_
       (have hh5:=(show w5.heap.size=w5.heap.size from rfl);(try have hl5:=blk_lt K5.out);(try have hl5':=blk_lt K5'.out);obtain ⟨w6,hw6⟩:∃ w6:World,w6=(w5.alloc (.cells #[.int .u64 0,.int .u32 0,.bool false,.slice none 0 0] 49)):=⟨_,rfl⟩;have HB6:=Hd (show Below w5.heap.size w5 w6 by rw [hw6];exact belo);have K16:=Hd (show w6.heap[wr.heap.size]? = some (.cells #[.int .i64 0,.int .i64 0,.int .i64 0,.int .i64 0,.bool false,.slice none 0 0,.slice none 0 0] 43 (0,0)) by rw [hw6];exact blk_alloc K5.out _);have K17:=Hd (show w6.heap[w5.heap.size]? = some (.cells #[.int .u64 0,.int .u32 0,.bool false,.slice none 0 0] 49 (0,0)) by rw [hw6];exact heap_new w5 _);rw [←hw6];clear hw6;obtain ⟨p0,p1,p2,p3,p4,p5,p6⟩:=cells7' K16.out;obtain ⟨f0,f1,f2,f3,f4,f5,f6⟩:=free7 K16.out;obtain ⟨n0,n1,n2,n3⟩:=ncells K17.out;obtain ⟨o0,o1,o2,o3⟩:=nfree K17.out;have hl16:=blk_lt K16.out;have hl17:=blk_lt K17.out;go_wp2)
       refine stepM1 rfl rfl (by kernel_rfl) fun K hK=>?_;go_wp2;(iterate 2 refine stepM0 rfl rfl fun K hK=>?_;go_simp;refine hK _ ?_;clear hK K)
       try refine stepMnil0 ?_
       clear HSD SS
       go_wp2_with fail
       go_meet
       exact ⟨wr.heap.size,u0,u1,u2,u3,u4,u5a,u5n,u5c,u6a,u6n,u6c,rfl,rfl,(by omega),mid_fin (.int .u64 y0) (.int .u32 y1) (.bool y2) (.slice ya yn yc) HBC.out HB5.out HB6.out HIN.out (.inl ⟨by omega,by simp only [World.size_alloc,World.size_drew];omega⟩) (.inr (by omega)) (by omega) K16.out⟩
      ·
       refine stepM1S rfl rfl fun K hK=>?_;go_wp2
       refine ⟨by rw [HSD.out];exact ((by first|exact HBW5.out.alloc hz5 _|exact (HBW5.out.alloc hz5 _).alloc (Nat.le_trans hz5 (by simp)) _|exact belo)),?_⟩
       refine stepM1 rfl rfl (by kernel_rfl) fun K hK=>?_
       (go_wp2_with fail;refine (HDO.out _ belo).mono ?_;rintro e w5 ⟨val,nv,kv,yy,rfl,hin,hb5,hnv,-,-,-⟩;obtain ⟨u0,u1,u2,u3,u4,u5a,u5n,u5c,u6a,u6n,u6c,rfl⟩:=RvIn.agg hin;obtain ⟨y0,y1,y2,ya,yn,yc,hy⟩:=ndOV_agg yy;rw [hy] at hnv;subst hnv;have HIN:=Hd hin;have HBC:=Hd (show Below wr.heap.size wr ((wr.drew.alloc (.cells #[.int .i64 0,.int .i64 0,.int .i64 0,.int .i64 0,.bool false,.slice none 0 0,.slice none 0 0] 43)).alloc (.cells #[.int .u64 0,.int .u32 0,.bool false,.slice none 0 0] 49)) from belo);have HB5:=Hd hb5;have HBW5:=Hd (HBC.out.trans (hb5.mono HBC.out.size));have hz5:=HBW5.out.size;have K5:=Hd (show w5.heap[wr.heap.size]? = some (.cells #[.int .i64 0,.int .i64 0,.int .i64 0,.int .i64 0,.bool false,.slice none 0 0,.slice none 0 0] 43 (0,0)) from blk_below' (show ((wr.drew.alloc (.cells #[.int .i64 0,.int .i64 0,.int .i64 0,.int .i64 0,.bool false,.slice none 0 0,.slice none 0 0] 43)).alloc (.cells #[.int .u64 0,.int .u32 0,.bool false,.slice none 0 0] 49)).heap[wr.heap.size]? = _ from blk_alloc (heap_new _ _) _) hb5);have K5':=Hd (show w5.heap[wr.heap.size+1]? = some (.cells #[.int .u64 0,.int .u32 0,.bool false,.slice none 0 0] 49 (0,0)) from blk_below' (show ((wr.drew.alloc (.cells #[.int .i64 0,.int .i64 0,.int .i64 0,.int .i64 0,.bool false,.slice none 0 0,.slice none 0 0] 43)).alloc (.cells #[.int .u64 0,.int .u32 0,.bool false,.slice none 0 0] 49)).heap[wr.heap.size+1]? = _ from blk_new _ (by simp)) hb5);clear hb5 hin hy;go_wp2)
       (iterate 5 refine stepM0 rfl rfl fun K hK=>?_;go_simp;refine hK _ ?_;clear hK K);refine stepM1 rfl rfl (by kernel_rfl) fun K hK=>?_
       (have hh5:=(show w5.heap.size=w5.heap.size from rfl);(try have hl5:=blk_lt K5.out);(try have hl5':=blk_lt K5'.out);obtain ⟨w6,hw6⟩:∃ w6:World,w6=w5:=⟨_,rfl⟩;have HB6:=Hd (show Below w5.heap.size w5 w6 by rw [hw6];exact belo);have K16:=Hd (show w6.heap[wr.heap.size]? = some (.cells #[.int .i64 0,.int .i64 0,.int .i64 0,.int .i64 0,.bool false,.slice none 0 0,.slice none 0 0] 43 (0,0)) by rw [hw6];exact K5.out);have K17:=Hd (show w6.heap[wr.heap.size+1]? = some (.cells #[.int .u64 0,.int .u32 0,.bool false,.slice none 0 0] 49 (0,0)) by rw [hw6];exact K5'.out);rw [←hw6];clear hw6;obtain ⟨p0,p1,p2,p3,p4,p5,p6⟩:=cells7' K16.out;obtain ⟨f0,f1,f2,f3,f4,f5,f6⟩:=free7 K16.out;obtain ⟨n0,n1,n2,n3⟩:=ncells K17.out;obtain ⟨o0,o1,o2,o3⟩:=nfree K17.out;have hl16:=blk_lt K16.out;have hl17:=blk_lt K17.out;go_wp2)
       refine stepM1 rfl rfl (by kernel_rfl) fun K hK=>?_;go_wp2;(iterate 2 refine stepM0 rfl rfl fun K hK=>?_;go_simp;refine hK _ ?_;clear hK K)
       try refine stepMnil0 ?_
       clear HSD SS
       go_wp2_with fail
       go_meet
       exact ⟨wr.heap.size,u0,u1,u2,u3,u4,u5a,u5n,u5c,u6a,u6n,u6c,rfl,rfl,(by omega),mid_fin (.int .u64 y0) (.int .u32 y1) (.bool y2) (.slice ya yn yc) HBC.out HB5.out HB6.out HIN.out (.inl ⟨by omega,by simp only [World.size_alloc,World.size_drew];omega⟩) (.inl ⟨by omega,by simp only [World.size_alloc,World.size_drew];omega⟩) (by omega) K16.out⟩
     ·
      refine stepM1S rfl rfl fun K hK=>?_;go_wp2
      refine ⟨by rw [HSD.out];exact ((by first|exact HBW5.out.alloc hz5 _|exact (HBW5.out.alloc hz5 _).alloc (Nat.le_trans hz5 (by simp)) _|exact belo)),?_⟩
      refine stepMtwo ?_ ?_ (by kernel_rfl) (by kernel_rfl)
      ·
       refine stepM1 rfl rfl (by kernel_rfl) fun K hK=>?_
       (go_wp2_with fail;refine (HDO.out _ belo).mono ?_;rintro e w5 ⟨val,nv,kv,yy,rfl,hin,hb5,hnv,-,-,-⟩;obtain ⟨u0,u1,u2,u3,u4,u5a,u5n,u5c,u6a,u6n,u6c,rfl⟩:=RvIn.agg hin;obtain ⟨y0,y1,y2,ya,yn,yc,hy⟩:=ndOV_agg yy;rw [hy] at hnv;subst hnv;have HIN:=Hd hin;have HBC:=Hd (show Below wr.heap.size wr (wr.drew.alloc (.cells #[.int .u64 0,.int .u32 0,.bool false,.slice none 0 0] 49)) from belo);have HB5:=Hd hb5;have HBW5:=Hd (HBC.out.trans (hb5.mono HBC.out.size));have hz5:=HBW5.out.size;have K5':=Hd (show w5.heap[wr.heap.size]? = some (.cells #[.int .u64 0,.int .u32 0,.bool false,.slice none 0 0] 49 (0,0)) from blk_below' (show (wr.drew.alloc (.cells #[.int .u64 0,.int .u32 0,.bool false,.slice none 0 0] 49)).heap[wr.heap.size]? = _ from heap_new _ _) hb5);clear hb5 hin hy;go_wp2)
       (iterate 5 refine stepM0 rfl rfl fun K hK=>?_;go_simp;refine hK _ ?_;clear hK K);refine stepM1S rfl rfl fun K hK=>?_;go_wp2
       refine ⟨by rw [HSD.out];exact ((by first|exact HBW5.out.alloc hz5 _|exact (HBW5.out.alloc hz5 _).alloc (Nat.le_trans hz5 (by simp)) _|exact belo)),?_⟩
       refine stepM1 rfl rfl (by kernel_rfl) fun K hK=>?_
       (have hh5:=(show w5.heap.size=w5.heap.size from rfl);(try have hl5:=blk_lt K5.out);(try have hl5':=blk_lt K5'.out);obtain ⟨w6,hw6⟩:∃ w6:World,w6=(w5.alloc (.cells #[.int .i64 0,.int .i64 0,.int .i64 0,.int .i64 0,.bool false,.slice none 0 0,.slice none 0 0] 43)):=⟨_,rfl⟩;have HB6:=Hd (show Below w5.heap.size w5 w6 by rw [hw6];exact belo);have K16:=Hd (show w6.heap[w5.heap.size]? = some (.cells #[.int .i64 0,.int .i64 0,.int .i64 0,.int .i64 0,.bool false,.slice none 0 0,.slice none 0 0] 43 (0,0)) by rw [hw6];exact heap_new w5 _);have K17:=Hd (show w6.heap[wr.heap.size]? = some (.cells #[.int .u64 0,.int .u32 0,.bool false,.slice none 0 0] 49 (0,0)) by rw [hw6];exact blk_alloc K5'.out _);rw [←hw6];clear hw6;obtain ⟨p0,p1,p2,p3,p4,p5,p6⟩:=cells7' K16.out;obtain ⟨f0,f1,f2,f3,f4,f5,f6⟩:=free7 K16.out;obtain ⟨n0,n1,n2,n3⟩:=ncells K17.out;obtain ⟨o0,o1,o2,o3⟩:=nfree K17.out;have hl16:=blk_lt K16.out;have hl17:=blk_lt K17.out;go_wp2)
       refine stepM1 rfl rfl (by kernel_rfl) fun K hK=>?_;go_wp2;(iterate 2 refine stepM0 rfl rfl fun K hK=>?_;go_simp;refine hK _ ?_;clear hK K)
       try refine stepMnil0 ?_
       clear HSD SS
       go_wp2_with fail
       go_meet
       exact ⟨w5.heap.size,u0,u1,u2,u3,u4,u5a,u5n,u5c,u6a,u6n,u6c,rfl,rfl,hz5,mid_fin (.int .u64 y0) (.int .u32 y1) (.bool y2) (.slice ya yn yc) HBC.out HB5.out HB6.out HIN.out (.inr (by omega)) (.inl ⟨by omega,by simp only [World.size_alloc,World.size_drew];omega⟩) (by omega) K16.out⟩
      ·
       refine stepM1S rfl rfl fun K hK=>?_;go_wp2
       refine ⟨by rw [HSD.out];exact ((by first|exact HBW5.out.alloc hz5 _|exact (HBW5.out.alloc hz5 _).alloc (Nat.le_trans hz5 (by simp)) _|exact belo)),?_⟩
       refine stepM1 rfl rfl (by kernel_rfl) fun K hK=>?_
       (go_wp2_with fail;refine (HDO.out _ belo).mono ?_;rintro e w5 ⟨val,nv,kv,yy,rfl,hin,hb5,hnv,-,-,-⟩;obtain ⟨u0,u1,u2,u3,u4,u5a,u5n,u5c,u6a,u6n,u6c,rfl⟩:=RvIn.agg hin;obtain ⟨y0,y1,y2,ya,yn,yc,hy⟩:=ndOV_agg yy;rw [hy] at hnv;subst hnv;have HIN:=Hd hin;have HBC:=Hd (show Below wr.heap.size wr ((wr.drew.alloc (.cells #[.int .u64 0,.int .u32 0,.bool false,.slice none 0 0] 49)).alloc (.cells #[.int .i64 0,.int .i64 0,.int .i64 0,.int .i64 0,.bool false,.slice none 0 0,.slice none 0 0] 43)) from belo);have HB5:=Hd hb5;have HBW5:=Hd (HBC.out.trans (hb5.mono HBC.out.size));have hz5:=HBW5.out.size;have K5':=Hd (show w5.heap[wr.heap.size]? = some (.cells #[.int .u64 0,.int .u32 0,.bool false,.slice none 0 0] 49 (0,0)) from blk_below' (show ((wr.drew.alloc (.cells #[.int .u64 0,.int .u32 0,.bool false,.slice none 0 0] 49)).alloc (.cells #[.int .i64 0,.int .i64 0,.int .i64 0,.int .i64 0,.bool false,.slice none 0 0,.slice none 0 0] 43)).heap[wr.heap.size]? = _ from blk_alloc (heap_new _ _) _) hb5);have K5:=Hd (show w5.heap[wr.heap.size+1]? = some (.cells #[.int .i64 0,.int .i64 0,.int .i64 0,.int .i64 0,.bool false,.slice none 0 0,.slice none 0 0] 43 (0,0)) from blk_below' (show ((wr.drew.alloc (.cells #[.int .u64 0,.int .u32 0,.bool false,.slice none 0 0] 49)).alloc (.cells #[.int .i64 0,.int .i64 0,.int .i64 0,.int .i64 0,.bool false,.slice none 0 0,.slice none 0 0] 43)).heap[wr.heap.size+1]? = _ from blk_new _ (by simp)) hb5);clear hb5 hin hy;go_wp2)
       (iterate 5 refine stepM0 rfl rfl fun K hK=>?_;go_simp;refine hK _ ?_;clear hK K);refine stepM1 rfl rfl (by kernel_rfl) fun K hK=>?_
       (have hh5:=(show w5.heap.size=w5.heap.size from rfl);(try have hl5:=blk_lt K5.out);(try have hl5':=blk_lt K5'.out);obtain ⟨w6,hw6⟩:∃ w6:World,w6=w5:=⟨_,rfl⟩;have HB6:=Hd (show Below w5.heap.size w5 w6 by rw [hw6];exact belo);have K16:=Hd (show w6.heap[wr.heap.size+1]? = some (.cells #[.int .i64 0,.int .i64 0,.int .i64 0,.int .i64 0,.bool false,.slice none 0 0,.slice none 0 0] 43 (0,0)) by rw [hw6];exact K5.out);have K17:=Hd (show w6.heap[wr.heap.size]? = some (.cells #[.int .u64 0,.int .u32 0,.bool false,.slice none 0 0] 49 (0,0)) by rw [hw6];exact K5'.out);rw [←hw6];clear hw6;obtain ⟨p0,p1,p2,p3,p4,p5,p6⟩:=cells7' K16.out;obtain ⟨f0,f1,f2,f3,f4,f5,f6⟩:=free7 K16.out;obtain ⟨n0,n1,n2,n3⟩:=ncells K17.out;obtain ⟨o0,o1,o2,o3⟩:=nfree K17.out;have hl16:=blk_lt K16.out;have hl17:=blk_lt K17.out;go_wp2)
       refine stepM1 rfl rfl (by kernel_rfl) fun K hK=>?_;go_wp2;(iterate 2 refine stepM0 rfl rfl fun K hK=>?_;go_simp;refine hK _ ?_;clear hK K)
       try refine stepMnil0 ?_
       clear HSD SS
       go_wp2_with fail
       go_meet
       exact ⟨wr.heap.size+1,u0,u1,u2,u3,u4,u5a,u5n,u5c,u6a,u6n,u6c,rfl,rfl,(by omega),mid_fin (.int .u64 y0) (.int .u32 y1) (.bool y2) (.slice ya yn yc) HBC.out HB5.out HB6.out HIN.out (.inl ⟨by omega,by simp only [World.size_alloc,World.size_drew];omega⟩) (.inl ⟨by omega,by simp only [World.size_alloc,World.size_drew];omega⟩) (by omega) K16.out⟩
   case rest=>
    obtain ⟨bx,u0,u1,u2,u3,u4,u5a,u5n,u5c,u6a,u6n,u6c,rfl,rfl,hbx,hbc,kbx,hrv2⟩:=hcut
    have HBC:=Hd hbc
    have KBX:=Hd kbx
    have HRV2:=Hd hrv2
    have hzc:=hbc.size
    have hlbx:=blk_lt kbx
    have KMC:=Hd (blk_below' KMR.out hbc)
    have KRC:=Hd (blk_below' KRR.out hbc)
    have q0:=((bcell hbc).1 b (o+k * 6) hblt).trans r0
    have q1:=((bcell hbc).1 b (o+k * 6+1) hblt).trans r1
    have q2:=((bcell hbc).1 b (o+k * 6+2) hblt).trans r2
    have q3:=((bcell hbc).1 b (o+k * 6+3) hblt).trans r3
    have q4:=((bcell hbc).1 b (o+k * 6+4) hblt).trans r4
    have q5:=((bcell hbc).1 b (o+k * 6+5) hblt).trans r5
    clear hbc kbx hrv2 r0 r1 r2 r3 r4 r5
    have hFlt:=HVF.out.lt
    have HVC:=Hd (show VF wc vp dp F (5+4 * k) d' v' from HVF.out.keeps (R:=fun k=>wr.heap.size≤k) (Keeps.of_below HBC.out fun k _ hk=>by omega) (fun k hf e=>by have:=hFlt k hf;omega))
    obtain ⟨d2,v2,ns2,e1,hvi2,hrve,hs2,hn2⟩:=HVA.out
    have HVI3:=Hd hvi2
    have HRE:=Hd (show Rv.of v2 ns2=RW from hrve)
    have HS2:=Hd (show v2.size≤v'.size+ndSize data.length from hs2)
    have HN2:=Hd hn2
    have HLD:=Hd (show Calls Tryz.prog 21 #[(.pointer (some ⟨vp,0,none⟩)),.agg #[.int .i64 kd,.int .i64 am,.int .u64 key,.int .u32 cookie,.bool gone,.slice xa data.length xc]] wc (LDoTo wc vp dp (fun k=>¬ F k∧k<wc.heap.size) (5+4 * k+4) RC d2 v2 (v'.gotN d' (ActE.act ⟨kd,am,⟨⟨key,cookie,gone,data⟩,xa,xc⟩⟩)) (v'.gotK (ActE.act ⟨kd,am,⟨⟨key,cookie,gone,data⟩,xa,xc⟩⟩))) by
     have h9:=ldo_any (P:=fun k=>¬ F k∧k<wc.heap.size) ⟨kd,am,⟨⟨key,cookie,gone,data⟩,xa,xc⟩⟩ wc (HVC.out.vs fun k hf e=>e.1 hf) (fun k hk=>hk.2) (by omega) ((HXA.out.nd.below HBR.out).below HBC.out) (by have:=HX3.out;simp only at this ⊢;omega) (fun p hp=>by have h1:=HVI2.out.vi.len_le hp;have:=HSZ.out;exact ⟨h1.1,by omega⟩) (HVI2.out.vi.told _ _) (by rw [e1];exact h17)
     rw [e1] at h9
     exact h9)
    obtain ⟨NN,hNN⟩:∃ NN,NN=v'.gotN d' (ActE.act ⟨kd,am,⟨⟨key,cookie,gone,data⟩,xa,xc⟩⟩):=⟨_,rfl⟩
    obtain ⟨KK,hKK⟩:∃ KK,KK=v'.gotK (ActE.act ⟨kd,am,⟨⟨key,cookie,gone,data⟩,xa,xc⟩⟩):=⟨_,rfl⟩
    rw [←hNN,←hKK] at HLD
    clear hNN hKK e1 hvi2 hrve hs2 hn2
    go_wp2_with fail
    refine HLD.out.mono ?_
    rintro e w7 ⟨vd,kv2,rfl,hvt,hrd,hrk⟩
    obtain ⟨da,dc,rfl⟩:=reads_slice hrd
    obtain ⟨ka,kc,rfl⟩:=reads_slice hrk
    obtain ⟨dn,hdn⟩:∃ dn,dn=NN.data.length:=⟨_,rfl⟩
    obtain ⟨kn,hkn⟩:∃ kn,kn=KK.length:=⟨_,rfl⟩
    rw [←hdn,←hkn]
    clear hdn hkn hrd hrk
    have hz7:=hvt.2.size
    have KBX7:=hvt.2.blk KBX.out ⟨fun e=>by have:=hFlt _ e;omega,hlbx⟩
    have KM7:=hvt.2.blk KMC.out ⟨fun e=>(HFB.out _ e).2.2 rfl,by omega⟩
    have KR7:=hvt.2.blk KRC.out ⟨fun e=>(HFB.out _ e).2.1 rfl,by omega⟩
    have HVT:=Hd hvt
    have HRV7:=Hd (show RvIn w7 (fun k=>(¬ F k∧k≠MB∧k≠w.heap.size)∧k<wc.heap.size) (.agg #[.int .i64 u0,.int .i64 u1,.int .i64 u2,.int .i64 u3,.bool u4,.slice u5a u5n u5c,.slice u6a u6n u6c]) RW from (HRV2.out.wide (Q:=fun k=>(¬ F k∧k≠MB∧k≠w.heap.size)∧k<wc.heap.size) (fun j hj hlt=>by
     rcases hj with hj|hj
     ·exact ⟨hj,hlt⟩
     ·exact ⟨⟨fun e=>by have:=hFlt _ e;omega,by omega,by omega⟩,hlt⟩)).kp (KP.mono hvt.2 (fun j _ hj=>⟨hj.1.1,hj.2⟩)))
    clear hvt q0 q1 q2 q3 q4 q5
    obtain ⟨w8,hw8⟩:∃ w8:World,w8=w7.alloc (.cells #[.int .u64 NN.key,.int .u32 NN.cookie,.bool NN.gone,.slice da dn dc] 60):=⟨_,rfl⟩
    have HB8:=Hd (show Below w7.heap.size w7 w8 by rw [hw8];exact belo)
    have KBX8:=Hd (blk_below' KBX7 HB8.out)
    have KM8:=Hd (blk_below' KM7 HB8.out)
    have KR8:=Hd (blk_below' KR7 HB8.out)
    have hz8:=HB8.out.size
    clear KBX7 KM7 KR7
    go_upto_region 10 with fail
    rw [←hw8]
    clear hw8
    obtain ⟨p0,p1,p2,p3,p4,p5,p6⟩:=cells7' KBX8.out
    obtain ⟨m0,m1,m2,m3,m4,m5,m6⟩:=cells7' KM8.out
    obtain ⟨f0,f1,f2,f3,f4,f5,f6⟩:=free7 KM8.out
    have hlm8:=blk_lt KM8.out
    have hlx8:=blk_lt KBX8.out
    have ecc:((RC:Int) == (RC:Int))=true:=by simp
    go_wp2_with fail
    obtain ⟨w9,hw9⟩:∃ w9,w9=set7i w8 MB (.int .i64 u0) (.int .i64 u1) (.int .i64 u2) (.int .i64 u3) (.bool u4) (.slice u5a u5n u5c) (.slice u6a u6n u6c):=⟨_,rfl⟩
    have hk9:=set7i_keeps w8 MB (.int .i64 u0) (.int .i64 u1) (.int .i64 u2) (.int .i64 u3) (.bool u4) (.slice u5a u5n u5c) (.slice u6a u6n u6c)
    have k9:=store7i KM8.out (.int .i64 u0) (.int .i64 u1) (.int .i64 u2) (.int .i64 u3) (.bool u4) (.slice u5a u5n u5c) (.slice u6a u6n u6c)
    rw [←hw9] at hk9 k9
    unfold set7i at hw9
    rw [←hw9]
    clear hw9
    have HK79:=Hd (show Keeps (fun j=>j=MB) w7 w9 from (Keeps.of_below HB8.out fun k hk _=>hk).trans hk9 (fun _ _ e=>e))
    have K9:=Hd k9
    have KR9:=Hd ((hk9.block _ (blk_lt KR8.out) (by omega)).trans KR8.out)
    have hz9:=hk9.size
    clear hk9 k9
    go_roundg (n - (k+1))
    case measure=>omega
    case rel=>
     obtain ⟨F2,hf2,hf2n⟩:=HVT.out.1.foot
     have hf2lt:=hf2.lt
     have hf2b:∀ j,F2 j→w.heap.size≤j∧j≠w.heap.size∧j≠MB:=fun j hj=>by
      by_cases hF:F j
      ·exact HFB.out j hF
      ·have h1:=hf2n j hj
       have h2:¬ j<wc.heap.size:=fun e=>h1 ⟨hF,e⟩
       omega
     refine ⟨k+1,F2,d2,v2,ns2,u0,u1,u2,u3,u4,u5a,u5n,u5c,u6a,u6n,u6c,by omega,rfl,by go_num,rfl,?_,hf2b,HVI3.out,?_,?_,?_,?_,K9.out,KR9.out,?_⟩
     ·exact hf2.keeps HK79.out fun j hj e=>(hf2b j hj).2.2 e
     ·rw [HRE.out]
      refine ((HRV7.out.kp (Keeps.mono HK79.out fun j _ e f=>f.1.2.1 e)).wide (fun j hj _=>⟨fun e=>?_,hj.1.2⟩))
      have:=hf2n j e
      exact this ⟨hj.1.1,hj.2⟩
     ·have h9:(l.map ActE.act)[k]? = some (ActE.act ⟨kd,am,⟨⟨key,cookie,gone,data⟩,xa,xc⟩⟩):=by rw [List.getElem?_map,HX.out];rfl
      rw [Rv.acts_take _ h9,←HAC.out,←HRVE.out]
      exact HRE.out
     ·have h9:ndSize data.length≤336:=by
       have:data.length≤300:=HX3.out
       unfold ndSize padN
       omega
      have:=HS2.out
      have:=HSZ.out
      omega
     ·have:=HN2.out
      have:=HNS.out
      omega
     ·refine (HBR.out.trans (HBC.out.mono hzr)).trans (((HVT.out.2.below (B:=w.heap.size) (by omega) (fun j hj=>⟨fun e=>by have:=(HFB.out j e).1;omega,by omega⟩))).trans (HK79.out.below (by omega) fun j e=>by omega))
  ·have hj1:¬ (k:Int)<(n:Int):=by omega
   have hj2:decide ((k:Int)<(n:Int))=false:=by simp;omega
   have hj3:decide (k<n)=false:=by simp;omega
   obtain ⟨m0,m1,m2,m3,m4,m5,m6⟩:=cells7' KMR.out
   obtain ⟨r0,r1,r2,r3,r4,r5,r6⟩:=cells7' KRR.out
   obtain ⟨f0,f1,f2,f3,f4,f5,f6⟩:=free7 KRR.out
   go_upto_region 12 with fail
   refine wp_region_mask0 (fun w1=>w1=_) [2] [0,0,0,0,1,19,55,127] (.op 0 0 (.op 1 0 (.op 2 2 (.op 3 0 (.op 4 0 (.op 5 0 (.op 6 1 (.op 7 0 .nil)))))))) (by kernel_rfl) (by kernel_rfl) rfl (by kernel_rfl) (by kernel_rfl) rfl ?_
   (iterate 2 refine stepM0 rfl rfl fun K hK=>?_;go_simp;refine hK _ ?_;clear hK K);refine stepM2 rfl rfl ?_ (fun w1 hS=>?_) fun K hK=>?_;rotate_left;(focus (obtain rfl:w1=_:=hS;go_simp;rfl));go_simp;refine hK _ ?_;clear hK K;(iterate 3 refine stepM0 rfl rfl fun K hK=>?_;go_simp;refine hK _ ?_;clear hK K);refine stepM1 rfl rfl (by kernel_rfl) fun K hK=>?_;go_wp2;refine stepM0 rfl rfl fun K hK=>?_;go_simp;refine hK _ ?_;clear hK K
   try refine stepMnil0 ?_
   go_wp2
   obtain ⟨wx,hwx⟩:∃ wx,wx=set7i wr w.heap.size (.int .i64 c0) (.int .i64 c1) (.int .i64 c2) (.int .i64 c3) (.bool c4) (.slice c5a c5n c5c) (.slice c6a c6n c6c):=⟨_,rfl⟩
   have hbx:=set7i_below (w:=wr) (Nat.le_refl w.heap.size) (.int .i64 c0) (.int .i64 c1) (.int .i64 c2) (.int .i64 c3) (.bool c4) (.slice c5a c5n c5c) (.slice c6a c6n c6c)
   have HBX:=Hd (show Below w.heap.size w wx by rw [hwx];exact HBR.out.trans hbx)
   have kbx:=store7i KRR.out (.int .i64 c0) (.int .i64 c1) (.int .i64 c2) (.int .i64 c3) (.bool c4) (.slice c5a c5n c5c) (.slice c6a c6n c6c)
   have hkx:=set7i_keeps wr w.heap.size (.int .i64 c0) (.int .i64 c1) (.int .i64 c2) (.int .i64 c3) (.bool c4) (.slice c5a c5n c5c) (.slice c6a c6n c6c)
   rw [←hwx] at kbx hkx
   unfold set7i at hwx
   rw [←hwx]
   clear hwx hbx
   have HBF:=Hd (show Below w.heap.size w wx.drew from Below.drew HBX.out)
   have kbf:wx.drew.heap[w.heap.size]? = some (.cells #[.int .i64 c0,.int .i64 c1,.int .i64 c2,.int .i64 c3,.bool c4,.slice c5a c5n c5c,.slice c6a c6n c6c] 43 (0,0)):=kbx
   have HKX:=Hd (show Keeps (fun j=>j=w.heap.size) wr wx.drew from hkx.drew)
   obtain ⟨s0,s1,s2,s3,s4,s5,s6⟩:=cells7' kbf
   refine bodyPost_ret (v:=?_) ?_ rfl ?_
   rotate_left;(focus (simp [results,Tryz.results27,go_sem,s0,s1,s2,s3,s4,s5,s6];exact rfl))
   have hkn:k=l.length:=by rw [HLN.out];omega
   refine ⟨vp,dp,F,_,d',v',ns',rfl,?_,fun j hj=>(HFB.out j hj).1,HVI2.out,?_,?_,?_,?_,HBF.out⟩
   ·exact (HVF.out.keeps HKX.out fun j hj e=>(HFB.out j hj).2.1 e).more (by omega)
   ·exact (HRV.out.kp (Keeps.mono HKX.out fun j _ e f=>f.2.2 e)).wide fun j hj _=>hj.1
   ·rw [HAC.out,List.take_of_length_le (by rw [List.length_map,hkn];exact Nat.le_refl _)]
   ·rw [←hkn];exact HSZ.out
   ·rw [←hkn];exact HNS.out
end Go.Proofs.YtfpjfoajonbndaaGreatDoor
