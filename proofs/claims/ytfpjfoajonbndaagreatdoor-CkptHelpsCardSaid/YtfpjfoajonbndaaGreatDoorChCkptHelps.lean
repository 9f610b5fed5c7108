import Derived.Test.YtfpjfoajonbndaaGreatDoorChCkptCr
import Derived.Test.YtfpjfoajonbndaaGreatDoorChCheckGetP
import Derived.Test.YtfpjfoajonbndaaGreatDoorChCkptOpen
import Derived.Test.YtfpjfoajonbndaaGreatDoorCh23
import Derived.Test.YtfpjfoajonbndaaGreatDoorChMadeR10
import Derived.Test.YtfpjfoajonbndaaGreatDoorChCkptK
import Derived.Test.YtfpjfoajonbndaaGreatDoorChShipMadeL
import Derived.Test.YtfpjfoajonbndaaGreatDoorChLaw09s
import Derived.Test.YtfpjfoajonbndaaGreatDoorCh27
namespace Go.Proofs.YtfpjfoajonbndaaGreatDoor
set_option maxHeartbeats 8000000
set_option maxRecDepth 100000
open Go.RowKit
theorem xorAt_split{l:List UInt8}{i:Nat}{x:UInt8}(hi:i<l.length):∃ a c r,l=a ++ c :: r∧a.length=i∧xorAt l i x=a ++ (c ^^^ x) :: r:=by
 refine ⟨l.take i,l[i],l.drop (i+1),?_,by rw [List.length_take];omega,?_⟩
 ·rw [List.getElem_cons_drop,List.take_append_drop]
 ·unfold xorAt
  rw [List.getElem?_eq_getElem hi]
  show l.set i (l[i] ^^^ x)=_
  rw [List.set_eq_take_append_cons_drop,if_pos hi]
theorem spoilt_sum(c:Ck){i:Nat}{x:UInt8}(hi:i<(ckB c).length)(hx:x≠0):numAt (xorAt (ckB c) i x) ((xorAt (ckB c) i x).length - 4) 4≠(sumOf ((xorAt (ckB c) i x).take ((xorAt (ckB c) i x).length - 4))).toNat:=by
 rw [xorAt_len]
 have hbl:=ckB_len c
 have hbody:=ckBody_len c
 have hk:(ckB c).length - 4=(ckBody c).length:=by omega
 rw [hk]
 have hB:ckB c=ckBody c ++ le 4 (sumOf (ckBody c)).toNat:=rfl
 have htl:(le 4 (sumOf (ckBody c)).toNat).length=4:=le_len _ _
 have hlt:(sumOf (ckBody c)).toNat<4294967296:=(sumOf (ckBody c)).toNat_lt
 obtain ⟨a,y,r,e1,e2,e3⟩:=xorAt_split (x:=x) hi
 have hyx:y≠y ^^^ x:=fun e=>hx (by
  have:=congrArg (fun z=>y ^^^ z) e
  simpa [←UInt8.xor_assoc,UInt8.xor_self,UInt8.zero_xor,eq_comm] using this)
 by_cases hb:i<(ckBody c).length
 ·-- in what is summed
  obtain ⟨r1,hr1⟩:∃ r1,ckBody c=a ++ y :: r1∧r=r1 ++ le 4 (sumOf (ckBody c)).toNat:=by
   have h1:(ckB c).take (ckBody c).length=ckBody c:=by rw [hB];exact List.take_left
   have h2:(ckB c).drop (ckBody c).length=le 4 (sumOf (ckBody c)).toNat:=by rw [hB];exact List.drop_left
   rw [e1] at h1 h2
   obtain ⟨k,hk2⟩:∃ k,(ckBody c).length=i+(k+1):=⟨(ckBody c).length - i - 1,by omega⟩
   rw [hk2] at h1 h2
   have q1:(a ++ y :: r).take (i+(k+1))=a ++ y :: r.take k:=by rw [List.take_append,List.take_of_length_le (by omega),e2,show i+(k+1) - i=k+1 by omega,List.take_succ_cons]
   have q2:(a ++ y :: r).drop (i+(k+1))=r.drop k:=by rw [List.drop_append,List.drop_of_length_le (by omega),e2,show i+(k+1) - i=k+1 by omega,List.drop_succ_cons,List.nil_append]
   exact ⟨r.take k,h1.symm.trans q1,by rw [←h2,q2,List.take_append_drop]⟩
  obtain ⟨h1,h2⟩:=hr1
  have hS:xorAt (ckB c) i x=(a ++ (y ^^^ x) :: r1) ++ le 4 (sumOf (ckBody c)).toNat:=by rw [e3,h2];simp
  have hl:(a ++ (y ^^^ x) :: r1).length=(ckBody c).length:=by rw [h1];simp
  rw [hS,←hl,List.take_left]
  have hn:numAt ((a ++ (y ^^^ x) :: r1) ++ le 4 (sumOf (ckBody c)).toNat) (a ++ (y ^^^ x) :: r1).length 4=(sumOf (ckBody c)).toNat:=by
   unfold numAt
   rw [List.drop_left,List.take_of_length_le (by rw [htl];exact Nat.le_refl _)]
   exact le_num (by simpa using hlt)
  rw [hn]
  intro e
  have e5:=UInt32.toNat_inj.1 e
  have e6:sumMore 0 (a ++ y :: r1)=sumMore 0 (a ++ (y ^^^ x) :: r1):=by rw [←h1];exact e5
  exact sum_turned a r1 hyx e6
 ·-- in the sum
  have h1:(xorAt (ckB c) i x).take (ckBody c).length=ckBody c:=by
   rw [e3,List.take_append,show (ckBody c).length - a.length=0 by omega,List.take_zero,List.append_nil]
   have h2:(ckB c).take (ckBody c).length=ckBody c:=by rw [hB];exact List.take_left
   rw [e1,List.take_append,show (ckBody c).length - a.length=0 by omega,List.take_zero,List.append_nil] at h2
   exact h2
  rw [h1]
  intro e
  unfold numAt at e
  have h2:(ckB c).drop (ckBody c).length=le 4 (sumOf (ckBody c)).toNat:=by rw [hB];exact List.drop_left
  have h3:leNat (((ckB c).drop (ckBody c).length).take 4)=(sumOf (ckBody c)).toNat:=by
   rw [h2,List.take_of_length_le (by rw [htl];exact Nat.le_refl _)]
   exact le_num (by simpa using hlt)
  have h4:=leNat_inj (a:=((xorAt (ckB c) i x).drop (ckBody c).length).take 4) (b:=((ckB c).drop (ckBody c).length).take 4) (by simp [xorAt_len]) (by rw [e,h3])
  have h5:∀ l:List UInt8,l.length=(ckB c).length→(l.drop (ckBody c).length).take 4=l.drop (ckBody c).length:=fun l hl=>List.take_of_length_le (by rw [List.length_drop];omega)
  rw [h5 _ (xorAt_len _ _ _),h5 _ rfl] at h4
  have h6:xorAt (ckB c) i x=ckB c:=by
   rw [←List.take_append_drop (ckBody c).length (xorAt (ckB c) i x),h1,h4,h2,hB]
  rw [e3,e1] at h6
  have h7:=List.append_cancel_left h6
  injection h7 with h7
  exact hyx h7.symm
theorem CkF.baseBad'{dp K:Nat}{c:Dk}{v:Vl}{ns:List Nd}{o:Option DFile}{y:DFile}(h:CkF c v ns o (some y))(hl:y.b.length≤1000000)(hno:NoCk y.b):BaseAt dp K c v ns:=by
 obtain ⟨i,hi,hf⟩:=h.ck
 refine ⟨[],16,superB v.num v.gen,ns,fun w0 Q hd=>base_bad (bs:=y.b) hd ?_ ?_ ?_ hl hno _,rfl,superB_len _ _,h.vk.ok,h.vk.ixOf,List.Pairwise.nil⟩
 ·rw [h.num,h.vk.gen];exact namesAt9 (by omega) (by omega)
 ·rw [h.lens.2.1,c11];decide
 ·rw [h.lens.2.1,whole_at (by rw [h.vk.armed];decide) hi,hf]
theorem CkF.openSpoilt{w:World}{dp K:Nat}{P:Nat→Prop}{d:Dk}{v:Vl}{ns:List Nd}{y:DFile}{f l:Nat}{D:List UInt8}(hc:CkF d v ns none (some y))(hy:GoodC ns y.b)(hf:dirGet d.now v.file=some f)(hD:D.length=(ndsB ns).length)(h:DS w dp P K (d.setF f ⟨superB v.num v.gen ++ D,l⟩))(hP:∀ k,P k→k<w.heap.size)(hK:K+64<1099511627776)(hok:VOk v)(hlen:v.idx.length≤4096) :
  Calls Tryz.prog 20 #[(.pointer (some ⟨dp,0,none⟩)),.int .i64 1,.int .i64 v.most] w (OpenTo w dp P (K+64) (d.setF f ⟨superB v.num v.gen ++ D,l⟩) v):=by
 obtain ⟨d2,hd2⟩:∃ d2,d2=d.setF f ⟨superB v.num v.gen ++ D,l⟩:=⟨_,rfl⟩
 rw [←hd2] at h ⊢
 have hn:=hc.num
 have hg:=hc.vk.gen
 have h2n:d2.now=d.now:=by rw [hd2];rfl
 have hlf:=hc.vk.fg_lt (.inl hf)
 have h2f:d2.fileAt f=⟨superB v.num v.gen ++ D,l⟩:=by rw [hd2];exact fileAt_set hlf
 have h2o:∀ i,i≠f→d2.fileAt i=d.fileAt i:=fun i hi=>by rw [hd2,fileAt_ne (Ne.symm hi)]
 have ha:d2.armed = -1:=by rw [hd2];exact hc.vk.armed
 obtain ⟨f',g,hfg,hf',hg',hfb,hgb,hof,hog⟩:=hc.vk.now
 rw [hf] at hf'
 injection hf' with hf'
 subst hf'
 have hm:d2.mendT v []=d2:=if_pos rfl
 have hnn:NamesAt v.num 1:=by rw [hn];exact namesAt9 (by omega) (by omega)
 obtain ⟨e1,e2,e3,e4⟩:=hc.lens
 have q1:(vName 1 1).length≤1000:=by unfold vName numN Go.Lib.decDigits;decide
 have q2:(mName 1).length≤1000:=by unfold mName numN Go.Lib.decDigits;decide
 have hopn:OpensB d2 v D []:=⟨by rw [ha];decide,hc.vk.num,by omega,hc.vk.epoch,by
  obtain ⟨g2,g3,g4⟩:=hc.man
  rw [hg'] at g3
  injection g3 with g3
  subst g3
  exact ⟨g,by rw [h2n];exact hg',by rw [h2o g (Ne.symm hfg)];exact g4⟩,⟨f,by rw [h2n];exact hf,by rw [h2f,List.append_nil]⟩,.inl rfl,by rw [hD];exact hc.vk.size⟩
 obtain ⟨i,hi,hfi⟩:=hc.ck
 have hif:i≠f:=hof _ (get_mem hi) (by show cName 1 1≠_;exact (oth_c v 1).1)
 have hsrt:IxS (ixOf ns):=putAll_srt List.Pairwise.nil
 have hno:∀ s∈namesOf d2.now,isDraft s=false:=fun s hs=>isDraft_no fun e=>by
  rw [h2n] at hs
  obtain ⟨p,hp,e2⟩:=List.mem_map.1 (mem_namesOf.1 hs)
  exact get_none (show dirGet d.now (cName 1 0)=none from hc.dr) p hp (e2.trans e)
 have ht:Dk.tidyL isDraft (namesOf d2.now) false d2=(0,d2):=tidyL_none hno
 have:=open_gen (t:=[]) (D:=D) (ns2:=[]) (pre:=superB v.num v.gen ++ D) (l0:=ixOf ns) (from':=16+(ndsB ns).length) h hP hK hopn hok hnn
  (fun w0 Q hd=>base_ck ⟨1,1,16+(ndsB ns).length,ixOf ns⟩ hd (by rw [hn,hg];exact namesAt9 (by omega) (by omega)) (by rw [e2,c11];decide) (by rw [e2,whole_at (by rw [ha];decide) (by rw [h2n];exact hi),h2o i hif,hfi,hy.eq]) hy.right hy.keys hsrt hn.symm hg.symm (v.size+([]:List UInt8).length) (by show 16≤16+_;omega) (by show 16+(ndsB ns).length≤v.size+0;rw [hc.vk.size];omega))
  (by simp [ndsB]) (by rw [List.length_append,superB_len,hD]) (fun m hm=>absurd hm List.not_mem_nil) (by show putAll (ixOf ns) (posL _ [])=_;rw [←hc.vk.ixOf];rfl) hsrt hlen (fun e=>absurd rfl e) isDraft (fun s hs=>by
   rw [hm] at hs
   rw [hno s hs]
   rw [h2n] at hs
   obtain ⟨p,hp,rfl⟩:=List.mem_map.1 (mem_namesOf.1 hs)
   rcases hc.own p hp with e|e|e|e
   ·exact ⟨ours_own hok.names (.inl ⟨rfl,.inl e⟩),by rw [e,e1];unfold maxLen;omega⟩
   ·exact ⟨ours_own hok.names (.inl ⟨rfl,.inr (.inr e)⟩),by rw [e,e3];unfold maxLen;omega⟩
   ·exact absurd e (get_none (show dirGet d.now (cName 1 0)=none from hc.dr) p hp)
   ·exact ⟨ours_own hok.names (.inl ⟨rfl,.inr (.inl (by rw [e2];exact e))⟩),by rw [e,c11];decide⟩) (by rw [hm,ht])
 rw [hm,ht,hn] at this
 exact this
theorem VK.told{d:Dk}{v:Vl}{ns:List Nd}{X:Nat}(h:VK d v ns X)(key cookie:Nat):(v.get d key cookie).2.1=false:=by
 obtain ⟨f,g,hv,hrd⟩:=h.vi
 rw [←VK.get_two hrd]
 exact hv.told _ _
def MAt (w:World) (F:Nat→Prop) (MB:Nat) (R:Rv):Prop:=∃(c0 c1 c2 c3:Int)(c4:Bool)(c5a:Option Addr)(c5n c5c:Nat)(c6a:Option Addr)(c6n c6c:Nat),w.heap[MB]? = some (.cells #[.int .i64 c0,.int .i64 c1,.int .i64 c2,.int .i64 c3,.bool c4,.slice c5a c5n c5c,.slice c6a c6n c6c] 43 (0,0))∧RvIn w (fun k=>¬ F k∧k≠MB) (.agg #[.int .i64 c0,.int .i64 c1,.int .i64 c2,.int .i64 c3,.bool c4,.slice c5a c5n c5c,.slice c6a c6n c6c]) R
theorem MAt.kp{w w':World}{F:Nat→Prop}{MB:Nat}{R:Rv}(h:MAt w F MB R)(hk:KP (fun k=>¬ F k) w w')(hF:¬ F MB):MAt w' F MB R:=by
 obtain ⟨c0,c1,c2,c3,c4,c5a,c5n,c5c,c6a,c6n,c6c,h1,h2⟩:=h
 exact ⟨c0,c1,c2,c3,c4,c5a,c5n,c5c,c6a,c6n,c6c,(hk.block _ (blk_lt h1) (fun e=>e hF)).trans h1,h2.kp (hk.mono fun j _ e=>e.1)⟩
theorem MAt.later{w w':World}{F F2:Nat→Prop}{MB:Nat}{R:Rv}(h:MAt w F MB R)(hF:¬ F MB)(hk:KP (fun j=>¬ F j∧j<w.heap.size) w w')(h2:∀ j,F2 j→F j∨w.heap.size≤j):MAt w' F2 MB R:=by
 obtain ⟨c0,c1,c2,c3,c4,c5a,c5n,c5c,c6a,c6n,c6c,g1,g2⟩:=h
 have hl:=blk_lt g1
 refine ⟨c0,c1,c2,c3,c4,c5a,c5n,c5c,c6a,c6n,c6c,(hk.block _ hl (fun e=>e ⟨hF,hl⟩)).trans g1,?_⟩
 have g3:=g2.wide (Q:=fun k=>(¬ F k∧k≠MB)∧k<w.heap.size) fun j hj hl=>⟨hj,hl⟩
 exact (g3.kp (hk.mono fun j _ e=>⟨e.1.1,e.2⟩)).wide fun j hj _=>⟨fun e=>(h2 j e).elim hj.1.1 (fun e2=>by omega),hj.1.2⟩
theorem MAt.opened{w:World}{F:Nat→Prop}{MB:Nat}{v:Vl}{ns:List Nd}(h:MAt w F MB (Rv.of v ns))(hf:v.idx.length≤4096):∃(num most epoch size:Int)(shut:Bool)(al:Option Addr)(ln cl:Nat)(ad:Option Addr)(dn cd:Nat),ln=v.idx.length∧w.heap[MB]? = some (.cells #[.int .i64 num,.int .i64 most,.int .i64 epoch,.int .i64 size,.bool shut,.slice al ln cl,.slice ad dn cd] 43 (0,0))∧Reads w 5 (.slice al ln cl) ln (v.idx.flatMap psC)∧(∀ x,al=some x→¬ F x.block∧x.block≠MB∧x.block<w.heap.size)∧∀ (w0:World) (vp dp ix:Nat) (vx:Value),VolAt w0 vp dp ix vx v→Reads w0 5 (.slice al ln cl) ln (v.idx.flatMap psC)→Calls Tryz.prog 25 #[(.pointer (some ⟨vp,0,none⟩)),.agg #[.int .i64 num,.int .i64 most,.int .i64 epoch,.int .i64 size,.bool shut,.slice al ln cl,.slice ad dn cd]] w0 fun e w'=>e=.returned (.bool true)∧Below w0.heap.size w0 w':=by
 obtain ⟨c0,c1,c2,c3,c4,c5a,c5n,c5c,c6a,c6n,c6c,h1,al,cl,ad,cd,xs,hval,hat⟩:=h
 have hrl:Reads w 5 (.slice al v.idx.length cl) v.idx.length (v.idx.flatMap psC):=hat.rl
 have hbl:∀ x,al=some x→(¬ F x.block∧x.block≠MB)∧x.block<w.heap.size:=hat.bl
 have hsm:=fun (w0:World) (vp dp ix:Nat) (vx:Value) (hv:VolAt w0 vp dp ix vx v) (hr:Reads w0 5 (.slice al v.idx.length cl) v.idx.length (v.idx.flatMap psC))=>same09_any (ns:=ns) hv al cl ad cd hr hf
 rw [←hval] at hsm
 unfold rvV at hval
 have hl:(Rv.of v ns).l.length=v.idx.length:=rfl
 rw [hl] at hval
 simp only [Value.agg.injEq,Array.mk.injEq,List.cons.injEq,Value.slice.injEq] at hval
 obtain ⟨-,-,-,-,-,⟨rfl,rfl,rfl⟩,-⟩:=hval
 exact ⟨c0,c1,c2,c3,c4,c5a,v.idx.length,c5c,c6a,c6n,c6c,rfl,h1,hrl,fun x e=>⟨(hbl x e).1.1,(hbl x e).1.2,(hbl x e).2⟩,hsm⟩
theorem v11':vName 1 1=[118,49,46,49]:=by unfold vName numN Go.Lib.decDigits;rfl
theorem MAt.size{w:World}{F:Nat→Prop}{MB:Nat}{R:Rv}(h:MAt w F MB R):w.cell? ⟨MB,3,none⟩=some (.int .i64 R.size):=by
 obtain ⟨c0,c1,c2,c3,c4,c5a,c5n,c5c,c6a,c6n,c6c,h1,al,cl,ad,cd,xs,hval,hat⟩:=h
 unfold rvV at hval
 simp only [Value.agg.injEq,Array.mk.injEq,List.cons.injEq,Value.int.injEq] at hval
 rw [cell_of_row w MB 3 _ _ _ h1,hval.2.2.2.1.2]
 rfl
theorem xorAt_right(a b:List UInt8)(k:Nat)(x:UInt8):xorAt (a ++ b) (a.length+k) x=a ++ xorAt b k x:=by
 unfold xorAt
 rw [List.set_append_right _ _ (by omega),List.getElem?_append_right (by omega)]
 simp
theorem ckptHelps_walk(a:Option Addr)(len cap:Nat)(l:List ActE)(am:Nat)(ham:am≤65535)(bm:Nat)(hbm:bm≤255)(ck:Bool)(w:World)(hl:l.length=len)(hr:Reads w 6 (.slice a len cap) len (l.flatMap ActE.cs))(ho:∀ x∈l,ActArg w x) :
  Calls Tryz.prog 8 #[.slice a len cap,.int .u16 am,.int .u8 bm,.bool ck] w fun e w'=>e=.returned (.bool true)∧Below w.heap.size w w':=by
 have HL:=Hd hl
 have HR:=Hd hr
 have HO:=Hd ho
 have hcv:IntKind.i64.wrap (am:Int)=(am:Int):=by rw [IntKind.wrap_i64];omega
 have ham0:(0:Int)≤(am:Int):=by omega
 clear hl hr ho
 go_enter Tryz.func8,Tryz.ntmps8
 go_wp2_with fail
 refine (alive10 w).mono ?_
 rintro e w1 ⟨rfl,hb⟩
 have HB1:=Hd hb
 have hz1:=hb.size
 clear hb
 go_wp2_with fail
 refine (far9_any a len cap l w1 HL.out (HR.out.below HB1.out)).mono ?_
 rintro e wx ⟨rfl,rfl⟩
 cases hfa:far9 l
 case true=>
  go_wp2_with fail
  go_ret
  exact ⟨rfl,HB1.out⟩
 have HFA:=Hd (far9_no hfa)
 clear hfa
 have h60:len≤60:=by have:=HFA.out.1;have:=HL.out;omega
 by_cases hb0:bm=0
 ·have h1:((bm:Int) == 0)=true:=by simp;omega
  have h2:(bm == 0)=true:=by simp;omega
  subst hb0
  go_wp2_with fail
  go_ret
  exact ⟨rfl,HB1.out⟩
 have h101:((bm:Int) == 0)=false:=by simp;omega
 have h102:(bm == 0)=false:=by simp;omega
 obtain ⟨x,hx⟩:∃ x:UInt8,x.toNat=bm:=⟨UInt8.ofNat bm,by simp;omega⟩
 have hx0:x≠0:=fun e=>by rw [e] at hx;exact hb0 hx.symm
 have HMA:=Hd (show Calls Tryz.prog 27 #[.slice a len cap] w1 (MadeR w1 1 l) from madeR_any a len cap l w1 HL.out (HR.out.below HB1.out) (fun x hx=>(HO.out x hx).below HB1.out) h60 HFA.out.2)
 unfold MadeR at HMA
 go_wp2_with fail
 refine HMA.out.mono ?_
 rintro e w2 ⟨vp,dp,F,val,d,v,ns,rfl,hvf,hfb,hvd,hrv,hac,hsz,hns,hb⟩
 have hnum:v.num=1:=by
  have h3:=congrArg Rv.num hac
  rw [Rv.acts_num] at h3
  exact h3
 have hmost:v.most=1048576:=by
  have h3:=congrArg Rv.most hac
  rw [Rv.acts_most] at h3
  exact h3
 have hvs:v.size≤20176:=by rw [HL.out] at hsz;omega
 have hvn:ns.length≤60:=by rw [HL.out] at hns;omega
 have hck:=hvd.ckF hnum
 have hvl:v.idx.length≤60:=Nat.le_trans hck.vk.len hvn
 have hcr:=hck.vk.ckRight (by omega) (by omega)
 have hbl:=ckB_len (ckSnap v)
 have hil:(ckSnap v).l.length=v.idx.length:=rfl
 rw [hil] at hbl
 obtain ⟨d1,e1,hck1,hrs1⟩:=hck.all hvd.restK.syn (c:=ckSnap v) hnum hvd.vi.gen hcr (by show v.size+48+24 * v.idx.length+0≤_;omega)
 have HE1:=Hd e1
 have HCK1:=Hd hck1
 have HRS1:=Hd hrs1
 have HCG:=Hd (hck.vk.ckGood hnum (by omega))
 have HGC:=Hd (hck.vk.goodC hnum (by omega) (by omega))
 have HSZ:=Hd hvd.vi.size
 have hgen:=hvd.vi.gen
 have HVF:=Hd hvf
 have HFB:=Hd hfb
 have HRV:=Hd hrv
 have HB2:=Hd (HB1.out.trans (hb.mono hz1))
 have hz2:=hb.size
 obtain ⟨c0,c1,c2,c3,c4,c5a,c5n,c5c,c6a,c6n,c6c,rfl⟩:=RvIn.agg hrv
 clear hvf hfb hvd hrv hac hsz hns hb hck hcr hil e1 hck1 hrs1
 go_upto_region 6 with fail
 obtain ⟨w3,hw3⟩:∃ w3:World,w3=w2.alloc (.cells #[.int .i64 c0,.int .i64 c1,.int .i64 c2,.int .i64 c3,.bool c4,.slice c5a c5n c5c,.slice c6a c6n c6c] 43):=⟨_,rfl⟩
 have HB23:=Hd (show Below w2.heap.size w2 w3 by rw [hw3];exact belo)
 have KM3:=Hd (show w3.heap[w2.heap.size]? = some (.cells #[.int .i64 c0,.int .i64 c1,.int .i64 c2,.int .i64 c3,.bool c4,.slice c5a c5n c5c,.slice c6a c6n c6c] 43 (0,0)) by rw [hw3];exact heap_new w2 _)
 rw [←hw3]
 clear hw3
 have hz23:=HB23.out.size
 obtain ⟨MB,hMB⟩:∃ MB,MB=w2.heap.size:=⟨_,rfl⟩
 have hMF:¬ F MB:=fun e=>by have:=HVF.out.lt MB e;omega
 have HVF3:=Hd (HVF.out.kp (KP.of HB23.out) (fun k hk=>HVF.out.lt k hk))
 have HMA3:=Hd (show MAt w3 F MB (Rv.of v ns) from ⟨c0,c1,c2,c3,c4,c5a,c5n,c5c,c6a,c6n,c6c,by rw [hMB];exact KM3.out,(HRV.out.wide (Q:=fun k=>¬ F k∧k≠MB) (fun j hj hl=>⟨hj,by omega⟩)).kp (KP.of HB23.out)⟩)
 have HB3:=Hd (HB2.out.trans (HB23.out.mono HB2.out.size))
 have hMBl:MB<w3.heap.size:=by rw [hMB];exact blk_lt KM3.out
 rw [←hMB]
 clear KM3 hMB HVF HRV HMA
 have hms:=HMA3.out.size
 obtain ⟨num,most,epoch,size,shut,al,ln,cl,ad,ddn,cd,hln,km,hrl,hbl2,hsame⟩:=HMA3.out.opened (by omega)
 have hsz9:size=(v.size:Int):=by
  have q:=cell_of_row w3 MB 3 _ _ _ km
  rw [hms] at q
  simp at q
  exact q.symm
 subst hsz9
 have KM:=Hd km
 have HRL:=Hd hrl
 have HBL:=Hd hbl2
 have HSM:=Hd hsame
 obtain ⟨P,hP⟩:∃ P:Nat→Prop,P=fun k=>¬ F k∧k<w3.heap.size:=⟨_,rfl⟩
 have HPV:=Hd hP
 have HMP:=Hd (show P MB by rw [hP];exact ⟨hMF,hMBl⟩)
 have HV3:=Hd (show VS w3 vp dp P 245 d v from HVF3.out.vs fun k hf e=>by rw [hP] at e;exact e.1 hf)
 have HPL3:=Hd (show ∀ k,P k→k<w3.heap.size from fun k hk=>by rw [hP] at hk;exact hk.2)
 have HLOW:=Hd (show ∀ (wr:World),KP P w3 wr→Below w.heap.size w wr from fun wr hk=>HB3.out.trans (KP.below hk HB3.out.size (fun j hj=>by rw [hP];exact ⟨fun e=>by have:=HFB.out j e;omega,by have:=HB3.out.size;omega⟩)))
 clear hP km hrl hbl2 hsame hln hms HVF3 HMA3
 have KM:=Hd (show w3.heap[MB]? = some (.cells #[.int .i64 num,.int .i64 most,.int .i64 epoch,.int .i64 (v.size:Int),.bool shut,.slice al ln cl,.slice ad ddn cd] 43 (0,0)) from KM.out)
 obtain ⟨ixo,vxo,-,-,-,hok⟩:=HV3.out
 have HOK:=Hd hok
 clear hok
 have HWR:=Hd (ckwrite_vs HV3.out HPL3.out (by omega) HCG.out)
 rw [HE1.out] at HWR
 go_wp2_with fail
 refine HWR.out.mono ?_
 rintro e w4 ⟨rfl,hvt⟩
 have HV4:=Hd hvt.1
 have HK4:=Hd hvt.2
 have HPL4:=Hd (show ∀ k,P k→k<w4.heap.size from fun k hk=>Nat.lt_of_lt_of_le (HPL3.out k hk) hvt.2.size)
 clear hvt HWR HE1
 rw [show errV ((0:Nat):Int)=.nilIface from rfl]
 go_wp2_with fail
 refine (code0 _).mono ?_
 rintro e wx ⟨rfl,rfl⟩
 obtain ⟨R4,r1,r2,r3,r4⟩:=HV4.out.disk HPL4.out
 have HD4:=Hd r1
 have HR4L:=Hd r3
 have HR4:=Hd r4
 clear r1 r2 r3 r4
 have KM4:=Hd (KP.blk HK4.out KM.out HMP.out)
 have hlm4:=blk_lt KM4.out
 obtain ⟨BY,hBY⟩:∃ BY,BY=ckB (ckSnap v):=⟨_,rfl⟩
 rw [←hBY] at HCK1 hbl
 have HBY:=Hd hBY
 obtain ⟨NB,hNB⟩:∃ NB,NB=BY.length:=⟨_,rfl⟩
 have hNB1:24≤NB∧NB≤1464:=by omega
 cases ck
 focus
  have hz16:16≤v.size:=by have:=HSZ.out;omega
  obtain ⟨m0,m1,m2,m3,m4,m5,m6⟩:=cells7' KM4.out
  by_cases h16:16<v.size
  focus
   have hs1:decide ((16:Int)<(v.size:Int))=true:=by simp;omega
   have hs2:decide (16<v.size)=true:=by simp;omega
   obtain ⟨S16,hS16⟩:∃ S16,S16=v.size - 16:=⟨_,rfl⟩
   have hsub0:(v.size:Int) - 16=(S16:Int):=by omega
   have HS16:=Hd hS16
   have hsub:IntKind.i64.wrap ((v.size:Int) - 16)=(S16:Int):=by rw [IntKind.wrap_i64];omega
   obtain ⟨AT,hAT⟩:∃ AT,AT=am % S16:=⟨_,rfl⟩
   have hATl:AT<S16:=by rw [hAT];exact Nat.mod_lt _ (by omega)
   have htm:(am:Int).tmod (S16:Int)=(AT:Int):=by rw [hAT,Int.tmod_eq_emod_of_nonneg ham0];rfl
   have hne0:((S16:Int) == 0)=false:=by simp;omega
   have hne1:(S16 == 0)=false:=by simp;omega
   have hne2:(S16:Int)≠0:=by omega
   have hadd:IntKind.i64.wrap (16+(AT:Int))=16+(AT:Int):=by rw [IntKind.wrap_i64];omega
   obtain ⟨f,g,hfg,hf,hg',hfb,hgb,hof,hog⟩:=HCK1.out.vk.now
   have hfl:(d1.fileAt f).b.length=v.size:=by rw [hfb,List.length_append,superB_len];exact HCK1.out.vk.size.symm
   have HVN:=Hd HCK1.out.lens.1
   have hxr:xorAt (superB v.num 1 ++ ndsB ns) (16+AT) x=superB v.num v.gen ++ xorAt (ndsB ns) AT x:=by
    have:=xorAt_right (superB v.num 1) (ndsB ns) AT x
    rw [superB_len] at this
    rw [this,HCK1.out.vk.gen]
   have HSP:=Hd (show d1.spoil v.file (16+(AT:Int)) x=(0,d1.setF f ⟨superB v.num v.gen ++ xorAt (ndsB ns) AT x,(d1.fileAt f).lasts⟩) by
    have:d1.fnd v.file=(0,f):=HCK1.out.vk.fnd_o hf
    unfold Dk.spoil
    rw [this,if_neg (by simp),if_neg (by simp only [hfl];omega),←hxr,←hfb]
    rw [show (16+(AT:Int)).toNat=16+AT by omega])
   have hlf:=HCK1.out.vk.fg_lt (.inl hf)
   have hla:(d1.fileAt f).lasts=(d1.fileAt f).b.length:=(HRS1.out.2.2 _ (get_mem hf)).elim False.elim id
   obtain ⟨d2,hd2⟩:∃ d2,d2=d1.setF f ⟨superB v.num v.gen ++ xorAt (ndsB ns) AT x,(d1.fileAt f).lasts⟩:=⟨_,rfl⟩
   have hrk:RestK d2:=by
    rw [hd2]
    refine ⟨HRS1.out.1,HRS1.out.2.1,fun p hp=>.inr ?_⟩
    by_cases e:p.2=f
    ·rw [e,fileAt_set hlf]
     show (d1.fileAt f).lasts=(superB v.num v.gen ++ xorAt (ndsB ns) AT x).length
     rw [hla,hfl,List.length_append,superB_len,xorAt_len]
     exact HCK1.out.vk.size
    ·rw [fileAt_ne (Ne.symm e)]
     exact (HRS1.out.2.2 p hp).elim False.elim id
   have HOPN:=Hd (show ∀ (w0:World) (Q:Nat→Prop),DS w0 dp Q 255 d2→(∀ k,Q k→k<w0.heap.size)→∃ c',Calls Tryz.prog 20 #[(.pointer (some ⟨dp,0,none⟩)),.int .i64 1,.int .i64 v.most] w0 (OpenTo w0 dp Q (255+64) c' v) from fun w0 Q hd hq=>by
    rw [hd2] at hd
    exact ⟨_,HCK1.out.openSpoilt (by rw [HBY.out];exact HGC.out) hf (xorAt_len _ _ _) hd hq (by omega) HOK.out (by omega)⟩)
   have HCRS:=Hd (hrk.crash (by rw [hd2];exact HCK1.out.vk.armed) ⟨0,[]⟩)
   have HSL:=Hd (spoil_ds HD4.out HR4L.out v.file (16+(AT:Int)) x (by rw [HVN.out,v11'];decide))
   rw [HSP.out,HVN.out,v11',hx,←hd2] at HSL
   clear hrk hf hg' hfb hgb hof hog hfl hxr HSP hlf hla hd2 hAT hS16 hfg hNB hBY hbl
   go_wp2_with fail
   refine (show Calls Tryz.prog 39 #[(.pointer (some ⟨dp,0,none⟩)),.string ⟨#[118,49,46,49]⟩,.int .i64 (16+(AT:Int)),.int .u8 bm] w4 _ from HSL.out).mono ?_
   rintro e w5 ⟨rfl,ht⟩
   obtain ⟨hv5,hk5⟩:=HR4.out _ _ _ ht
   have HV5:=Hd hv5
   have HK5:=Hd (HK4.out.trans hk5)
   clear ht hv5 hk5 HSL m0 m1 m2 m3 m4 m5 m6
   go_upto_region 15 with fail
  rotate_left
  focus
   have hs1:decide ((16:Int)<(v.size:Int))=false:=by simp;omega
   have hs2:decide (16<v.size)=false:=by simp;omega
   have HOPN:=Hd (show ∀ (w0:World) (Q:Nat→Prop),DS w0 dp Q 255 d1→(∀ k,Q k→k<w0.heap.size)→∃ c',Calls Tryz.prog 20 #[(.pointer (some ⟨dp,0,none⟩)),.int .i64 1,.int .i64 v.most] w0 (OpenTo w0 dp Q (255+64) c' v) from fun w0 Q hd hq=>⟨_,HCK1.out.open1 hd hq (by omega) (List.prefix_refl _) (by rw [HBY.out];exact HGC.out) HOK.out (by omega)⟩)
   have HCRS:=Hd (HRS1.out.crash HCK1.out.vk.armed ⟨0,[]⟩)
   obtain ⟨d2,rfl⟩:∃ d2:Dk,d2=d1:=⟨_,rfl⟩
   have HV5:=Hd HV4.out
   have HK5:=Hd HK4.out
   clear hNB hBY hbl
   go_upto_region 15 with fail
   obtain ⟨w5,rfl⟩:∃ w5:World,w5=w4:=⟨_,rfl⟩
   clear m0 m1 m2 m3 m4 m5 m6
 rotate_left 2
 focus
  obtain ⟨AT,hAT⟩:∃ AT,AT=am % NB:=⟨_,rfl⟩
  have hATl:AT<NB:=by rw [hAT];exact Nat.mod_lt _ (by omega)
  have htm:(am:Int).tmod (NB:Int)=(AT:Int):=by rw [hAT,Int.tmod_eq_emod_of_nonneg ham0];rfl
  have hne0:((NB:Int) == 0)=false:=by simp;omega
  have hne1:(NB == 0)=false:=by simp;omega
  have hne2:(NB:Int)≠0:=by omega
  obtain ⟨i,hi,hfi⟩:=HCK1.out.ck
  have HSE:=Hd (show d1.size (cName 1 1)=(0,NB) by
   have:d1.fnd (cName 1 1)=(0,i):=HCK1.out.vk.fnd_o hi
   unfold Dk.size
   rw [this,hfi,if_neg (by simp),hNB])
  have HSP:=Hd (show d1.spoil (cName 1 1) (AT:Int) x=(0,d1.setF i ⟨xorAt BY AT x,BY.length⟩) by
   have:d1.fnd (cName 1 1)=(0,i):=HCK1.out.vk.fnd_o hi
   unfold Dk.spoil
   rw [this,hfi,if_neg (by simp),if_neg (by simp;omega)]
   simp)
  have hcn:=HCK1.out.setN hi hfi ⟨xorAt BY AT x,BY.length⟩
  have hrk:RestK (d1.setF i ⟨xorAt BY AT x,BY.length⟩):=⟨HRS1.out.1,HRS1.out.2.1,fun p hp=>.inr (by
   by_cases e:p.2=i
   ·rw [e,fileAt_set (HCK1.out.vk.ins _ (get_mem hi))]
    exact (xorAt_len _ _ _).symm
   ·rw [fileAt_ne (Ne.symm e)]
    exact (HRS1.out.2.2 p hp).elim False.elim id)⟩
  have hno:NoCk (xorAt BY AT x):=.inr fun _ _=>by
   rw [HBY.out]
   exact spoilt_sum (ckSnap v) (by rw [←HBY.out];omega) hx0
  have HOPN:=Hd (show ∀ (w0:World) (Q:Nat→Prop),DS w0 dp Q 255 (d1.setF i ⟨xorAt BY AT x,BY.length⟩)→(∀ k,Q k→k<w0.heap.size)→∃ c',Calls Tryz.prog 20 #[(.pointer (some ⟨dp,0,none⟩)),.int .i64 1,.int .i64 v.most] w0 (OpenTo w0 dp Q (255+64) c' v) from fun w0 Q hd hq=>by
   obtain ⟨c',-,-,h⟩:=hcn.opened hd hq (by omega) hrk (hcn.baseBad' (by show (xorAt BY AT x).length≤_;rw [xorAt_len];omega) hno) HOK.out (by omega)
   exact ⟨c',h⟩)
  have HCRS:=Hd (hrk.crash hcn.vk.armed ⟨0,[]⟩)
  have HSI:=Hd (size_ds HD4.out (cName 1 1) (by rw [c11];decide))
  rw [HSE.out,c11] at HSI
  have HSL:=Hd (spoil_ds HD4.out HR4L.out (cName 1 1) (AT:Int) x (by rw [c11];decide))
  rw [HSP.out,c11,hx] at HSL
  obtain ⟨d2,hd2⟩:∃ d2,d2=d1.setF i ⟨xorAt BY AT x,BY.length⟩:=⟨_,rfl⟩
  rw [←hd2] at HOPN HCRS HSL
  clear hcn hrk hno hi hfi HSE HSP hAT hd2 hNB hBY hbl
  go_wp2_with fail
  refine (show Calls Tryz.prog 29 #[(.pointer (some ⟨dp,0,none⟩)),.string ⟨#[99,49,46,49]⟩] w4 _ from HSI.out).mono ?_
  rintro e wx ⟨rfl,rfl⟩
  rw [show errV ((0:Nat):Int)=.nilIface from rfl]
  go_wp2_with fail
  refine (show Calls Tryz.prog 39 #[(.pointer (some ⟨dp,0,none⟩)),.string ⟨#[99,49,46,49]⟩,.int .i64 AT,.int .u8 bm] w4 _ from HSL.out).mono ?_
  rintro e w5 ⟨rfl,ht⟩
  obtain ⟨hv5,hk5⟩:=HR4.out _ _ _ ht
  have HV5:=Hd hv5
  have HK5:=Hd (HK4.out.trans hk5)
  clear ht hv5 hk5 HSL HSI
  go_upto_region 15 with fail
 all_goals
  obtain ⟨ix,vx,hva,hds,hft,-⟩:=HV5.out
  have HDS:=Hd hds
  have HQL:=Hd (show ∀ j,(P j∨VFoot vp ix vx j)→j<w5.heap.size from fun j hj=>hj.elim (fun h=>Nat.lt_of_lt_of_le (HPL3.out j h) HK5.out.size) (fun h=>(hft j h).2))
  clear hva hds hft
  have HCR3:=Hd (crash_ds HDS.out HQL.out (by omega) ⟨0,[]⟩ none 0 (reads_none _ _) (fun a e=>by cases e) (by show (-9223372036854775808:Int)≤0;omega) (by show (0:Int)≤9223372036854775807;omega) (fun x hx=>absurd hx List.not_mem_nil))
  rw [HCRS.out] at HCR3
  go_wp2_with fail
  refine (show Calls Tryz.prog 18 #[(.pointer (some ⟨dp,0,none⟩)),.agg #[.int .i64 0,.slice none 0 0]] w5 _ from HCR3.out).mono ?_
  rintro e w11 ⟨rfl,hdc,hkc⟩
  have HK11:=Hd (show KP P w3 w11 from HK5.out.trans (hkc.mono fun j _ e=>.inl e))
  obtain ⟨c',hop⟩:=HOPN.out w11 _ hdc (fun j hj=>Nat.lt_of_lt_of_le (HQL.out j hj) hkc.size)
  rw [hmost] at hop
  have HOP:=Hd hop
  clear hop hdc hkc HCR3
  go_wp2_with fail
  refine (show Calls Tryz.prog 20 #[(.pointer (some ⟨dp,0,none⟩)),.int .i64 1,.int .i64 1048576] w11 _ from HOP.out).mono ?_
  rintro e w12 ⟨vp4,rfl,hv12,-,hk12⟩
  obtain ⟨ix4,vx4,hva4,-,-,-⟩:=hv12
  have HVA12:=Hd hva4
  have HK12:=Hd (show KP P w3 w12 from HK11.out.trans (hk12.mono fun j _ e=>.inl e))
  have KM12:=Hd (KP.blk HK12.out KM.out HMP.out)
  have HR12:=Hd (HRL.out.keepsN (by omega) HK12.out (fun x e=>⟨(HBL.out x e).2.2,fun e2=>e2 (by rw [HPV.out];exact ⟨(HBL.out x e).1,(HBL.out x e).2.2⟩)⟩))
  clear hva4 hk12 HOP
  have hlm:=blk_lt KM12.out
  obtain ⟨m0,m1,m2,m3,m4,m5,m6⟩:=cells7' KM12.out
  go_wp2_with fail
  refine (code0 _).mono ?_
  rintro e wx ⟨rfl,rfl⟩
  go_wp2_with fail
  refine (HSM.out w12 vp4 dp ix4 vx4 HVA12.out HR12.out).mono ?_
  rintro e w13 ⟨rfl,hb13⟩
  have HB13:=Hd (show Below w.heap.size w w13 from HLOW.out w13 (HK12.out.trans (KP.of hb13)))
  clear hb13
  go_wp2_with fail
  go_ret
  exact ⟨rfl,HB13.out⟩
end Go.Proofs.YtfpjfoajonbndaaGreatDoor
