import Derived.Test.YtfpjfoajonbndaaGreatDoorCh22
import Derived.Test.YtfpjfoajonbndaaGreatDoorChCheckGetP
import Derived.Test.YtfpjfoajonbndaaGreatDoorChHeadsR
import Derived.Test.YtfpjfoajonbndaaGreatDoorCh17
import Derived.Test.YtfpjfoajonbndaaGreatDoorCh10
namespace Go.Proofs.YtfpjfoajonbndaaGreatDoor
set_option maxHeartbeats 8000000
set_option maxRecDepth 100000
open Go.RowKit
set_option maxRecDepth 100000
set_option maxHeartbeats 8000000
open Go.RowKit
structure GB (w0:World) (bb ab bk o n c:Nat) (w:World) (at':Nat):Prop where
 b:w.heap[bb]? = some (.cells #[.slice (some ⟨bk,o,none⟩) n c] 47 (0,0))
 a:w.heap[ab]? = some (.cells #[.int .i64 at'] 3 (0,0))
 below:Below w0.heap.size w0 w
theorem GB.keeps{w0:World}{bb ab bk o n c:Nat}{w:World}{at':Nat}(h:GB w0 bb ab bk o n c w at'){w':World}(hb:Below w.heap.size w w'):GB w0 bb ab bk o n c w' at':=
 ⟨blk_below' h.b hb,blk_below' h.a hb,h.below.trans (hb.mono h.below.size)⟩
theorem ckget1{w0:World}{bb ab bk o n c:Nat}{w:World}{at':Nat}(h:GB w0 bb ab bk o n c w at')(hlo:w0.heap.size≤ab)(hne:bb≠ab)(bs:List UInt8)(h0:Reads w0 1 (.slice (some ⟨bk,o,none⟩) n c) n (bs.map bv))(hb:bs.length=n)(hc:n≤c)(k:Nat)(hk:k=4∨k=8)(hin:at'+k≤n)(hn:n≤1000000) :
  Calls Tryz.prog 183 #[.int .i64 k,(.pointer (some ⟨bb,0,none⟩)),(.pointer (some ⟨ab,0,none⟩))] w fun e w'=>e=.returned (.int .u64 (numAt bs at' k))∧GB w0 bb ab bk o n c w' (at'+k)∧Keeps (fun j=>j=ab) w w':=by
 have HH:=Hd h
 have HLO:=Hd hlo
 have HNE:=Hd hne
 have HG:=Hd (get_any (some ⟨bk,o,none⟩) n c at' k bs w (h0.below h.below) hb hc hk hin (by omega))
 obtain ⟨X,hX⟩:∃ X,X=numAt bs at' k:=⟨_,rfl⟩
 rw [←hX] at HG ⊢
 have b0:=bx_cell h.b
 have a0:=bx_cell h.a
 have hlb:=blk_lt h.b
 have hla:=blk_lt h.a
 have hk8:k≤8:=by omega
 clear h0 hb hc hk hX h
 go_enter Tryz.func183,Tryz.ntmps183
 go_wp2_with fail
 refine HG.out.mono ?_
 rintro e w2 ⟨rfl,hb2⟩
 have HB2:=Hd hb2
 have KA2:=Hd (blk_below' HH.out.a hb2)
 have KB2:=Hd (blk_below' HH.out.b hb2)
 have a1:=bx_cell KA2.out
 have f1:w2.frozen? ⟨ab,0,none⟩=false:=frozen_of_row w2 ab 0 _ _ KA2.out
 have hl2:=blk_lt KA2.out
 clear hb2
 go_wp2_with fail
 go_ret
 have g3:=heap_setCell_same w2 ab 0 _ _ (.int .i64 ((at':Int)+(k:Int))) KA2.out
 have hk3:Keeps (fun j=>j=ab) w2 (w2.setCell ⟨ab,0,none⟩ (.int .i64 ((at':Int)+(k:Int)))):=(Keeps.refl (fun j=>j=ab) w2).setCell ⟨ab,0,none⟩ _ (fun _=>rfl)
 refine ⟨rfl,⟨(hk3.block _ (blk_lt KB2.out) HNE.out).trans KB2.out,?_,?_⟩,(keeps_below (fun j=>j=ab) HB2.out).trans hk3 (fun _ _ e=>e)⟩
 ·simpa using g3
 ·exact (HH.out.below.trans (HB2.out.mono HH.out.below.size)).setCell HLO.out _
theorem posInfo:(Tryz.prog.info? 152).map (fun i=>(i.zero,i.size,i.bytes))=some (some (.agg #[.int .u64 0,.int .i64 0,.int .i64 0,.int .u32 0,.bool false]),5,32):=by kernel_rfl
def CkGetTo (w:World) (c:Ck) (e:Ending) (w':World):Prop:=
 ∃ a cap,e=.returned (.tuple #[ckV c a cap,.nilIface])∧w'.ownsRow w.heap.size 152 5 (.slice a c.l.length cap) c.l.length (c.l.flatMap psC)∧Below w.heap.size w w'
theorem ckget_good(bk o n cp:Nat)(c:Ck)(w:World)(h:Reads w 1 (.slice (some ⟨bk,o,none⟩) n cp) n ((ckB c).map bv))(hlen:(ckB c).length=n)(hcp:n≤cp)(hr:ckRight c=0)(hck:∀ p∈c.l,p.key<18446744073709551616∧p.cookie<4294967296) :
  Calls Tryz.prog 149 #[.slice (some ⟨bk,o,none⟩) n cp] w (CkGetTo w c):=by
 obtain ⟨i0,hi,hzz0,hzz1,hzz2⟩:=info_parts posInfo
 have HI:=Hd hi
 have HZ0:=Hd hzz0
 have HZ1:=Hd hzz1
 have HZ2:=Hd hzz2
 obtain ⟨hl4,hnums,hps⟩:=ckRight_parts hr
 have HPS:=Hd hps
 have HCK:=Hd hck
 have HHD:=Hd (ck_head c (c.l.flatMap posB ++ le 4 (sumOf (ckBody c)).toNat) (by omega) (by omega) (by omega) (by omega))
 have hbe:ckHead c ++ (c.l.flatMap posB ++ le 4 (sumOf (ckBody c)).toNat)=ckB c:=by simp [ckB,ckBody]
 rw [hbe] at HHD
 have HIT:=Hd (show ∀ (j:Nat) (p:Ps),c.l[j]? = some p→numAt (ckB c) (20+24 * j) 8=p.key∧numAt (ckB c) (20+24 * j+8) 4=p.off∧numAt (ckB c) (20+24 * j+12) 4=p.len∧numAt (ckB c) (20+24 * j+16) 4=p.cookie∧numAt (ckB c) (20+24 * j+20) 4=(if p.gone then 1 else 0) from fun j p hp=>by
  obtain ⟨r,e1,e2⟩:=ck_item c hp
  have hm:=List.mem_of_getElem? hp
  have:=pos_num _ r p e2 (hck p hm).1 (by have:=hps p hm;omega) (by have:=hps p hm;omega) (hck p hm).2
  rw [←e1] at this
  exact this)
 have hn:n=24+24 * c.l.length:=by rw [←hlen,ckB_len]
 have HSO:=Hd (show ∀ w0:World,Below w.heap.size w w0→Calls Tryz.prog 147 #[.slice (some ⟨bk,o,none⟩) n cp] w0 fun e w'=>∃ v',e=.returned (.tuple #[v',.nilIface])∧Below w0.heap.size w0 w' from fun w0 hb0=>sopen_good bk o n cp (ckBody c) w0 (h.below hb0) (by rw [ckBody_len];omega) hcp (by omega))
 have HRI:=Hd (fun (w0:World) (a:Option Addr) (cap:Nat) (hx:Reads w0 5 (.slice a c.l.length cap) c.l.length (c.l.flatMap psC))=>ckright_any c a cap w0 hx (by omega))
 have HGT:=Hd (fun (w0:World) (bb ab at' k:Nat) (hg:GB w bb ab bk o n cp w0 at') (hlo:w.heap.size≤ab) (hne:bb≠ab) (hk:k=4∨k=8) (hin:at'+k≤n)=>ckget1 hg hlo hne (ckB c) h hlen hcp k hk hin (by omega))
 have HR:=Hd h
 rw [hr] at HRI
 unfold CkGetTo
 unfold ckV at HRI ⊢
 obtain ⟨bs,hbs⟩:∃ bs,bs=ckB c:=⟨_,rfl⟩
 rw [←hbs] at HHD HIT HGT
 obtain ⟨vol,gen,upto,l⟩:=c
 simp only at HPS HCK HHD HIT HRI hl4 hnums hn ⊢
 obtain ⟨ln,hln⟩:∃ ln,ln=l.length:=⟨_,rfl⟩
 have HLN:=Hd hln
 rw [←hln] at HHD HRI hl4 hn ⊢
 clear h hlen hr hck hps hbe hi hzz0 hzz1 hzz2 hbs hln
 have hd0:decide ((n:Int)<24)=false:=by simp;omega
 have hd1:decide (n<24)=false:=by simp;omega
 have HN:=Hd hn
 have hn24:24≤n:=by omega
 have hn1:n≤98328:=by omega
 clear hn
 obtain ⟨hv1,hv2,hv3,hv4,hv5⟩:=hnums
 have hcv1:IntKind.i64.wrap (vol:Int)=(vol:Int):=by rw [IntKind.wrap_i64];omega
 have hcv2:IntKind.i64.wrap (gen:Int)=(gen:Int):=by rw [IntKind.wrap_i64];omega
 have hcv3:IntKind.i64.wrap (upto:Int)=(upto:Int):=by rw [IntKind.wrap_i64];omega
 have hcv4:IntKind.i64.wrap (ln:Int)=(ln:Int):=by rw [IntKind.wrap_i64];omega
 go_enter Tryz.func149,Tryz.ntmps149
 go_upto_region 5 with fail
 obtain ⟨w1,hw1⟩:∃ w1:World,w1=((w.alloc (.cells #[.slice (some ⟨bk,o,none⟩) n cp] 47)).alloc (.cells #[.int .i64 0,.int .i64 0,.int .i64 0,.slice none 0 0] 159)).alloc (.cells #[.int .i64 0] 3):=⟨_,rfl⟩
 have HB1:=Hd (show Below w.heap.size w w1 by rw [hw1];exact belo)
 have KB1:=Hd (show w1.heap[w.heap.size]? = some (.cells #[.slice (some ⟨bk,o,none⟩) n cp] 47 (0,0)) by rw [hw1];exact blk_alloc (blk_alloc (heap_new w _) _) _)
 have KR1:=Hd (show w1.heap[w.heap.size+1]? = some (.cells #[.int .i64 0,.int .i64 0,.int .i64 0,.slice none 0 0] 159 (0,0)) by rw [hw1];exact blk_alloc (blk_new _ (by simp)) _)
 have KA1:=Hd (show w1.heap[w.heap.size+1+1]? = some (.cells #[.int .i64 (0:Nat)] 3 (0,0)) by rw [hw1];exact blk_new _ (by simp))
 rw [←hw1]
 clear hw1
 obtain ⟨BB,hBB⟩:∃ BB,BB=w.heap.size:=⟨_,rfl⟩
 obtain ⟨RB,hRB⟩:∃ RB,RB=w.heap.size+1:=⟨_,rfl⟩
 obtain ⟨AB,hAB⟩:∃ AB,AB=w.heap.size+1+1:=⟨_,rfl⟩
 rw [←hAB] at KA1 ⊢
 rw [←hRB] at KR1 ⊢
 rw [←hBB] at KB1 ⊢
 have hA1:w.heap.size≤AB:=by omega
 have hR1:w.heap.size≤RB:=by omega
 have hne1:BB≠AB:=by omega
 have hne2:RB≠AB:=by omega
 clear hBB hRB hAB
 have HG1:=Hd (show GB w BB AB bk o n cp w1 0 from ⟨KB1.out,KA1.out,HB1.out⟩)
 go_wp2_with fail
 refine (HGT.out w1 BB AB 0 4 HG1.out hA1 hne1 (.inl rfl) (by omega)).mono ?_
 rintro e w2 ⟨rfl,hg2,hk2⟩
 have HG2:=Hd hg2
 have KR2:=Hd ((hk2.block _ (blk_lt KR1.out) hne2).trans KR1.out)
 rw [HHD.out.1]
 clear hg2 hk2
 go_wp2_with fail
 refine (HGT.out w2 BB AB (0+4) 4 HG2.out hA1 hne1 (.inl rfl) (by omega)).mono ?_
 rintro e w3 ⟨rfl,hg3,hk3⟩
 have HG3:=Hd hg3
 have KR3:=Hd ((hk3.block _ (blk_lt KR2.out) hne2).trans KR2.out)
 rw [HHD.out.2.1]
 clear hg3 hk3
 go_wp2_with fail
 refine (HGT.out w3 BB AB (0+4+4) 4 HG3.out hA1 hne1 (.inl rfl) (by omega)).mono ?_
 rintro e w4 ⟨rfl,hg4,hk4⟩
 have HG4:=Hd hg4
 have KR4:=Hd ((hk4.block _ (blk_lt KR3.out) hne2).trans KR3.out)
 rw [HHD.out.2.2.1]
 clear hg4 hk4
 go_wp2_with fail
 refine (HGT.out w4 BB AB (0+4+4+4) 4 HG4.out hA1 hne1 (.inl rfl) (by omega)).mono ?_
 rintro e w5 ⟨rfl,hg5,hk5⟩
 have HG5:=Hd hg5
 have KR5:=Hd ((hk5.block _ (blk_lt KR4.out) hne2).trans KR4.out)
 rw [HHD.out.2.2.2.1]
 clear hg5 hk5
 go_upto_region 8 with fail
 obtain ⟨w6,hw6⟩:∃ w6:World,w6=w5.alloc (.cells #[.int .i64 vol,.int .i64 gen,.int .i64 upto,.slice none 0 0] 159):=⟨_,rfl⟩
 have hb6:Below w5.heap.size w5 w6:=by rw [hw6];exact belo
 have KC6:=Hd (show w6.heap[w5.heap.size]? = some (.cells #[.int .i64 vol,.int .i64 gen,.int .i64 upto,.slice none 0 0] 159 (0,0)) by rw [hw6];exact heap_new w5 _)
 have HG6:=Hd (HG5.out.keeps hb6)
 have KR6:=Hd (blk_below' KR5.out hb6)
 rw [←hw6]
 have hcn:w5.heap.size≠AB∧w5.heap.size≠RB∧w.heap.size≤w5.heap.size∧w5.heap.size≠BB:=by
  have h0:=blk_lt HG5.out.b
  have h1:=blk_lt HG5.out.a
  have h2:=blk_lt KR5.out
  have h3:=HG5.out.below.size
  omega
 clear hw6 hb6
 obtain ⟨CB,hCB⟩:∃ CB,CB=w5.heap.size:=⟨_,rfl⟩
 rw [←hCB] at KC6 hcn ⊢
 clear hCB
 obtain ⟨hc1,hc2,hc3,hc4⟩:=hcn
 go_wp2_with fail
 refine (HGT.out w6 BB AB (0+4+4+4+4) 4 HG6.out hA1 hne1 (.inl rfl) (by omega)).mono ?_
 rintro e w7 ⟨rfl,hg7,hk7⟩
 have HG7:=Hd hg7
 have KR7:=Hd ((hk7.block _ (blk_lt KR6.out) hne2).trans KR6.out)
 have KC7:=Hd ((hk7.block _ (blk_lt KC6.out) hc1).trans KC6.out)
 rw [HHD.out.2.2.2.2]
 clear hg7 hk7
 have b0:=bx_cell HG7.out.b
 have hlb:=blk_lt HG7.out.b
 have hn1':(n:Int)=24+24 * (ln:Int):=by have:=HN.out;omega
 have e1:decide ((4096:Int)<(ln:Int))=false:=by simp;omega
 have e2:decide ((n:Int)<20+(ln:Int) * 24+4)=false:=by simp;omega
 have e3:decide (20+(ln:Int) * 24+4<(n:Int))=false:=by simp;omega
 have e4:decide (4096<ln)=false:=by simp;omega
 clear hn1'
 go_wp2_with fail
 refine (HSO.out w7 HG7.out.below).mono ?_
 rintro e w8 ⟨v8,rfl,hb8⟩
 have HG8:=Hd (HG7.out.keeps hb8)
 have KR8:=Hd (blk_below' KR7.out hb8)
 have KC8:=Hd (blk_below' KC7.out hb8)
 clear hb8 b0 hlb
 go_wp2_with fail
 have hz8:=HG8.out.below.size
 have hAl:=blk_lt HG8.out.a
 have hBl:=blk_lt HG8.out.b
 have hRl:=blk_lt KR8.out
 have hCl:=blk_lt KC8.out
 go_loopw [11,71] (fun s i wr=>∃(k:Nat)(aL:Option Addr)(cL:Nat),k≤ln∧s=.bool false∧i=.int .i64 k∧wr.heap[CB]? = some (.cells #[.int .i64 vol,.int .i64 gen,.int .i64 upto,.slice aL k cL] 159 (0,0))∧wr.ownsRow w8.heap.size 152 5 (.slice aL k cL) k ((l.take k).flatMap psC)∧GB w BB AB bk o n cp wr (20+24 * k)∧wr.heap[RB]? = some (.cells #[.int .i64 0,.int .i64 0,.int .i64 0,.slice none 0 0] 159 (0,0))∧w8.heap.size≤wr.heap.size) (fun _ i _=>ln - (intOf i).toNat)
 case atStart=>exact ⟨0,none,0,Nat.zero_le _,rfl,rfl,KC8.out,World.ownsRow_nil _ _ _ _,HG8.out,KR8.out,Nat.le_refl _⟩
 case round=>
  obtain ⟨k,aL,cL,hk,rfl,rfl,hkc,hrw,hgr,hkr,hzr⟩:=hrel
  have KCR:=Hd hkc
  have HRW:=Hd hrw
  have HGR:=Hd hgr
  have KRR:=Hd hkr
  clear hkc hrw hgr hkr
  by_cases hlt:k<ln
  ·obtain ⟨p,hp⟩:∃ p,l[k]? = some p:=⟨_,List.getElem?_eq_getElem (by rw [←HLN.out];exact hlt)⟩
   have HP:=Hd hp
   have HNU:=Hd (HIT.out k p hp)
   have hm:=List.mem_of_getElem? hp
   obtain ⟨p1,p2⟩:=HPS.out p hm
   obtain ⟨p3,p4⟩:=HCK.out p hm
   obtain ⟨pk,po,pl,pc,pg⟩:=p
   simp only at HNU p1 p2 p3 p4
   have hcp1:IntKind.i64.wrap (po:Int)=(po:Int):=by rw [IntKind.wrap_i64];omega
   have hcp2:IntKind.i64.wrap (pl:Int)=(pl:Int):=by rw [IntKind.wrap_i64];omega
   have hcp3:IntKind.u32.wrap (pc:Int)=(pc:Int):=by rw [IntKind.wrap_u32];omega
   have hj1:(k:Int)<(ln:Int):=by omega
   clear hp hm
   go_wp2_with fail
   refine (HGT.out wr BB AB (20+24 * k) 8 HGR.out hA1 hne1 (.inr rfl) (by have:=HN.out;omega)).mono ?_
   rintro e x1 ⟨rfl,hg,hkp⟩
   rw [HNU.out.1]
   have HG1':=Hd hg
   have HK1':=Hd hkp
   clear hg hkp
   go_wp2_with fail
   refine (HGT.out x1 BB AB (20+24 * k+8) 4 HG1'.out hA1 hne1 (.inl rfl) (by have:=HN.out;omega)).mono ?_
   rintro e x2 ⟨rfl,hg,hkp⟩
   rw [HNU.out.2.1]
   have HG2':=Hd hg
   have HK2':=Hd (HK1'.out.trans hkp (fun _ _ e=>e))
   clear hg hkp
   go_wp2_with fail
   refine (HGT.out x2 BB AB (20+24 * k+8+4) 4 HG2'.out hA1 hne1 (.inl rfl) (by have:=HN.out;omega)).mono ?_
   rintro e x3 ⟨rfl,hg,hkp⟩
   rw [HNU.out.2.2.1]
   have HG3':=Hd hg
   have HK3':=Hd (HK2'.out.trans hkp (fun _ _ e=>e))
   clear hg hkp
   go_wp2_with fail
   refine (HGT.out x3 BB AB (20+24 * k+8+4+4) 4 HG3'.out hA1 hne1 (.inl rfl) (by have:=HN.out;omega)).mono ?_
   rintro e x4 ⟨rfl,hg,hkp⟩
   rw [HNU.out.2.2.2.1]
   have HG4':=Hd hg
   have HK4':=Hd (HK3'.out.trans hkp (fun _ _ e=>e))
   clear hg hkp
   go_upto_region 23 with fail
   obtain ⟨x5,hx5⟩:∃ x5:World,x5=x4.alloc (.cells #[.int .u64 pk,.int .i64 po,.int .i64 pl,.int .u32 pc,.bool false] 152):=⟨_,rfl⟩
   have hb5':Below x4.heap.size x4 x5:=by rw [hx5];exact belo
   have KP5:=Hd (show x5.heap[x4.heap.size]? = some (.cells #[.int .u64 pk,.int .i64 po,.int .i64 pl,.int .u32 pc,.bool false] 152 (0,0)) by rw [hx5];exact heap_new x4 _)
   have HG5':=Hd (HG4'.out.keeps hb5')
   have HK5':=Hd (HK4'.out.trans (keeps_below (fun j=>j=AB) hb5') (fun _ _ e=>e))
   rw [←hx5]
   have hzx4:wr.heap.size≤x4.heap.size:=HK4'.out.size
   have hpn:x4.heap.size≠AB∧x4.heap.size≠RB∧x4.heap.size≠CB∧x4.heap.size≠BB:=by omega
   clear hx5 hb5'
   obtain ⟨PB,hPB⟩:∃ PB,PB=x4.heap.size:=⟨_,rfl⟩
   rw [←hPB] at KP5 hpn ⊢
   have hPw:w8.heap.size≤PB:=by omega
   have hPr:wr.heap.size≤PB:=by omega
   clear hPB
   obtain ⟨hpn1,hpn2,hpn3,hpn4⟩:=hpn
   go_wp2_with fail
   refine (HGT.out x5 BB AB (20+24 * k+8+4+4+4) 4 HG5'.out hA1 hne1 (.inl rfl) (by have:=HN.out;omega)).mono ?_
   rintro e x6 ⟨rfl,hg,hkp⟩
   rw [HNU.out.2.2.2.2]
   have HG6':=Hd hg
   have HK6':=Hd (HK5'.out.trans hkp (fun _ _ e=>e))
   have KP6:=Hd ((hkp.block _ (blk_lt KP5.out) hpn1).trans KP5.out)
   clear hg hkp
   obtain ⟨G,hG⟩:∃ G,G=(if pg then 1 else 0):=⟨_,rfl⟩
   rw [←hG]
   have hg1:((G:Int) == 1)=pg:=by rw [hG];cases pg <;> rfl
   have hg2:decide ((1:Int)<(G:Int))=false:=by rw [hG];cases pg <;> rfl
   have hg3:decide (1<G)=false:=by rw [hG];cases pg <;> rfl
   have hG1:G≤1:=by rw [hG];cases pg <;> decide
   clear hG
   obtain ⟨q0,q1,q2,q3,q4⟩:=pcells KP6.out
   obtain ⟨s0,s1,s2,s3,s4⟩:=pfree KP6.out
   have hlp:=blk_lt KP6.out
   go_upto_region 25 with fail
   obtain ⟨x7,hx7⟩:∃ x7:World,x7=x6.setCell ⟨PB,4,none⟩ (.bool pg):=⟨_,rfl⟩
   have hk7:Keeps (fun j=>j=PB) x6 x7:=by rw [hx7];exact (Keeps.refl (fun j=>j=PB) x6).setCell ⟨PB,4,none⟩ _ (fun _=>rfl)
   have KP7:=Hd (show x7.heap[PB]? = some (.cells #[.int .u64 pk,.int .i64 po,.int .i64 pl,.int .u32 pc,.bool pg] 152 (0,0)) by
    rw [hx7]
    simpa using heap_setCell_same x6 PB 4 _ _ (.bool pg) KP6.out)
   have KC7':=Hd ((hk7.block _ (Nat.lt_of_lt_of_le (blk_lt KCR.out) HK6'.out.size) (Ne.symm hpn3)).trans ((HK6'.out.block _ (blk_lt KCR.out) hc1).trans KCR.out))
   have KR7':=Hd ((hk7.block _ (Nat.lt_of_lt_of_le (blk_lt KRR.out) HK6'.out.size) (Ne.symm hpn2)).trans ((HK6'.out.block _ (blk_lt KRR.out) hne2).trans KRR.out))
   have HG7':=Hd (show GB w BB AB bk o n cp x7 (20+24 * k+8+4+4+4+4) from ⟨(hk7.block _ (blk_lt HG6'.out.b) (Ne.symm hpn4)).trans HG6'.out.b,(hk7.block _ (blk_lt HG6'.out.a) (Ne.symm hpn1)).trans HG6'.out.a,by rw [hx7];exact HG6'.out.below.setCell (Nat.le_trans hz8 hPw) _⟩)
   have HRW7:=Hd (show x7.ownsRow w8.heap.size 152 5 (.slice aL k cL) k ((l.take k).flatMap psC) from ownsRow_keeps (F:=fun j=>j=PB) (ownsRow_keeps (F:=fun j=>j=AB) HRW.out HK6'.out (fun g e hf=>by have:=(HRW.out.lt g e).1;omega)) hk7 (fun g e hf=>by have:=(HRW.out.lt g e).2;omega))
   have hz67:=hk7.size
   rw [←hx7]
   clear hx7 hk7 q0 q1 q2 q3 q4 s0 s1 s2 s3 s4 hlp
   obtain ⟨q0,q1,q2,q3,q4⟩:=pcells KP7.out
   obtain ⟨y0,y1,y2,y3⟩:=ncells KC7'.out
   have hlp:=blk_lt KP7.out
   have hlc:=blk_lt KC7'.out
   have hz87:w8.heap.size≤x7.heap.size:=by omega
   go_upto_region 25 with fail
   go_wp2_with (at_builtin;refine wpList_append_lies _ rfl _ _ 61 rfl w8.heap.size 152 i0 (.agg #[.int .u64 0,.int .i64 0,.int .i64 0,.int .u32 0,.bool false]) 5 32 Tryz.underlying61 HI.out HZ0.out HZ1.out HZ2.out rfl (by decide) (.slice aL k cL) k ((l.take k).flatMap psC) rfl (ownsRow_below HRW7.out belo) ⟨x7.heap.size,0,none⟩ 1 1 [.int .u64 pk,.int .i64 po,.int .i64 pl,.int .u32 pc,.bool pg] rfl rfl (World.news_of_block (cs:=#[.int .u64 pk,.int .i64 po,.int .i64 pl,.int .u32 pc,.bool pg]) (t:=152) (fr:=(0,0)) (heap_new x7 _)) (by simp [Value.oneCell']) (by omega) (by unfold maxLen;omega) (by omega) (by simp;omega) _ rfl ?_;intro g' cap' x8 hown hgrow hat hlt8;have HG8':=Hd hgrow;have HO8:=Hd hown;have hz8':=hgrow.size;simp only [World.size_alloc] at hz8';clear hgrow hown hat;have HBX:=Hd (show Below w8.heap.size x7 x8 from Below.grown ((Below.refl w8.heap.size x7).alloc hz87 _) HG8'.out (by simp;omega) (fun g e=>(HRW7.out.lt g e).1));have KC8':=Hd ((HBX.out.block CB hCl).trans KC7'.out);obtain ⟨f0,f1,f2,f3⟩:=nfree KC8'.out;obtain ⟨z0,z1,z2,z3⟩:=ncells KC8'.out;have hlc8:=blk_lt KC8'.out)
   go_roundw
   case rel=>
    have hks:∀ u,Keeps (fun j=>j=CB) x8 (x8.setCell ⟨CB,3,none⟩ u):=fun u=>(Keeps.refl (fun j=>j=CB) x8).setCell ⟨CB,3,none⟩ _ (fun _=>rfl)
    refine ⟨k+1,some ⟨g',0,none⟩,cap',by omega,rfl,by go_num,?_,?_,⟨?_,?_,?_⟩,?_,?_⟩
    ·simpa using heap_setCell_same x8 CB 3 _ _ (.slice (some ⟨g',0,none⟩) (k+1) cap') KC8'.out
    ·refine ownsRow_cast (ownsRow_keeps (F:=fun j=>j=CB) HO8.out (hks _) (fun g e hf=>by have:=(HO8.out.lt g e).1;omega)) rfl ?_
     rw [List.take_add_one,HP.out,List.flatMap_append]
     simp [psC]
    ·exact ((hks _).block _ (by omega) (Ne.symm hc4)).trans ((HBX.out.block BB hBl).trans HG7'.out.b)
    ·exact ((hks _).block _ (by omega) (Ne.symm hc1)).trans ((HBX.out.block AB hAl).trans HG7'.out.a)
    ·exact (HG7'.out.below.trans (HBX.out.mono hz8)).setCell hc3 _
    ·exact ((hks _).block _ (by omega) (Ne.symm hc2)).trans ((HBX.out.block RB hRl).trans KR7'.out)
    ·have:=(hks (.slice (some ⟨g',0,none⟩) (k+1) cap')).size
     omega
   case measure=>simp [intOf];omega
  ·have hkl:ln=k:=by omega
   subst hkl
   have HRW2:=Hd (show wr.ownsRow w8.heap.size 152 5 (.slice aL ln cL) ln (l.flatMap psC) from ownsRow_cast HRW.out rfl (by rw [List.take_of_length_le (by rw [←HLN.out];exact Nat.le_refl _)]))
   obtain ⟨y0,y1,y2,y3⟩:=ncells KCR.out
   have hlc:=blk_lt KCR.out
   have hj1:¬ (ln:Int)<(ln:Int):=by omega
   clear hlt hk
   go_wp2_with fail
   refine (HRI.out wr aL cL (reads_of_owns HRW2.out)).mono ?_
   rintro e x1 ⟨rfl,hb1⟩
   rw [show errV ((0:Nat):Int)=.nilIface from rfl]
   have HX1:=Hd hb1
   have KCX:=Hd (blk_below' KCR.out hb1)
   have KRX:=Hd (blk_below' KRR.out hb1)
   clear hb1 y0 y1 y2 y3 hlc
   obtain ⟨y0,y1,y2,y3⟩:=ncells KCX.out
   obtain ⟨z0,z1,z2,z3⟩:=ncells KRX.out
   obtain ⟨f0,f1,f2,f3⟩:=nfree KRX.out
   have hlc:=blk_lt KCX.out
   have hlr:=blk_lt KRX.out
   go_wp2_with fail
   obtain ⟨wf,hwf⟩:∃ wf,wf=set4 x1 RB (.int .i64 vol) (.int .i64 gen) (.int .i64 upto) (.slice aL ln cL):=⟨_,rfl⟩
   have hkf:Keeps (fun j=>j=RB) x1 wf:=by
    rw [hwf];unfold set4
    exact ((((Keeps.refl (fun j=>j=RB) x1).setCell ⟨RB,0,none⟩ _ (fun _=>rfl)).setCell ⟨RB,1,none⟩ _ (fun _=>rfl)).setCell ⟨RB,2,none⟩ _ (fun _=>rfl)).setCell ⟨RB,3,none⟩ _ (fun _=>rfl)
   have hbf:Below w.heap.size x1 wf:=by rw [hwf];unfold set4;exact ((((Below.refl _ x1).setCell hR1 _).setCell hR1 _).setCell hR1 _).setCell hR1 _
   have kbf:=store4 KRX.out (.int .i64 vol) (.int .i64 gen) (.int .i64 upto) (.slice aL ln cL)
   rw [←hwf] at kbf
   unfold set4 at hwf
   rw [←hwf]
   clear hwf y0 y1 y2 y3 z0 z1 z2 z3 f0 f1 f2 f3
   obtain ⟨s0,s1,s2,s3⟩:=ncells kbf
   refine bodyPost_ret (v:=?_) ?_ rfl ?_
   rotate_left;(focus (simp [results,Tryz.results149,go_sem,s0,s1,s2,s3];exact rfl))
   refine ⟨aL,cL,rfl,?_,(HGR.out.below.trans (HX1.out.mono HGR.out.below.size)).trans hbf⟩
   exact ownsRow_mono (ownsRow_keeps (F:=fun j=>j=RB) (ownsRow_below HRW2.out HX1.out) hkf (fun g e hf=>by have:=(HRW2.out.lt g e).1;omega)) hz8
theorem ixPut_snoc:∀ {l:List Ps} {p:Ps},(∀ q∈l,q.key<p.key)→ixPut l p=l ++ [p]
 | [],_,_=>rfl
 | a :: r,p,h=>by
  unfold ixPut
  rw [if_pos (h a List.mem_cons_self),ixPut_snoc (fun q hq=>h q (List.mem_cons_of_mem _ hq))]
  rfl
theorem ixPut_take{l:List Ps}{k:Nat}{p:Ps}(hs:IxS l)(hp:l[k]? = some p):ixPut (l.take k) p=l.take (k+1):=by
 obtain ⟨h1,h2⟩:=List.getElem?_eq_some_iff.1 hp
 rw [ixPut_snoc,List.take_add_one,hp]
 ·rfl
 ·intro q hq
  obtain ⟨i,hi,rfl⟩:=List.mem_iff_getElem.1 hq
  rw [List.length_take] at hi
  rw [List.getElem_take,←h2]
  exact List.pairwise_iff_getElem.1 hs i k (by omega) h1 (by omega)
theorem inew_any(a:Option Addr)(n cap:Nat)(l:List Ps)(w:World)(h:Reads w 5 (.slice a n cap) n (l.flatMap psC))(hn:l.length=n)(hs:IxS l)(hf:n≤4096) :
  Calls Tryz.prog 48 #[.slice a n cap] w fun e w'=>∃ ix vx,e=.returned (.pointer (some ⟨ix,0,none⟩))∧IxAt w' w.heap.size ix vx l∧Below w.heap.size w w':=by
 have HR:=Hd h
 have HN:=Hd hn
 have HS:=Hd hs
 have HIP:=Hd (fun (ix:Nat) (v:Value) (q:List Ps) (p:Ps) (w0:World) (hx:IxAt w0 w.heap.size ix v q) (hq:q.length<4096)=>iput_any w.heap.size ix v q p w0 hx (.inr hq))
 clear h hn hs
 go_enter Tryz.func48,Tryz.ntmps48
 go_upto_region 2 with fail
 obtain ⟨w1,hw1⟩:∃ w1:World,w1=w.alloc (.cells #[.slice none 0 0] 186):=⟨_,rfl⟩
 have HX1:=Hd (show IxAt w1 w.heap.size w.heap.size (.slice none 0 0) [] by rw [hw1];exact IxAt.made w w.heap.size (Nat.le_refl _))
 have HB1:=Hd (show Below w.heap.size w w1 by rw [hw1];exact belo)
 rw [←hw1]
 clear hw1
 have hw1l:w.heap.size≤w1.heap.size:=HB1.out.size
 go_wp2_with fail
 go_loopw [10] (fun i wr=>∃(k:Nat)(vk:Value),k≤n∧i=.int .i64 k∧IxAt wr w.heap.size w.heap.size vk (l.take k)∧Below w.heap.size w wr) (fun i _=>n - (intOf i).toNat)
 case atStart=>exact ⟨0,_,Nat.zero_le _,rfl,HX1.out,HB1.out⟩
 case round=>
  obtain ⟨k,vk,hk,rfl,hix,hbr⟩:=hrel
  have HIXR:=Hd hix
  have HBR:=Hd hbr
  have hzr:=hbr.size
  clear hix hbr
  have hk0:(0:Int)≤(k:Int):=by omega
  by_cases hlt:k<n
  ·obtain ⟨x,hx⟩:∃ x,l[k]? = some x:=⟨_,List.getElem?_eq_getElem (by rw [HN.out];exact hlt)⟩
   have HX:=Hd hx
   obtain ⟨b,o,c',e,hb,r0,r1,r2,r3,r4⟩:=ps_cells (HR.out.below HBR.out) hx (by omega)
   obtain ⟨rfl,-,rfl⟩:=sl_inj e
   have HPX:=Hd (fun (w0:World) (hb:Below wr.heap.size wr w0)=>HIP.out w.heap.size vk (l.take k) x w0 (HIXR.out.below hb) (by rw [List.length_take];omega))
   rw [ixPut_take HS.out hx] at HPX
   have hj1:(k:Int)<(n:Int):=by omega
   obtain ⟨xk,xo,xl,xc,xg⟩:=x
   unfold psV at HPX
   simp only at HPX r0 r1 r2 r3 r4
   clear hx e
   go_wp2_with fail
   refine (HPX.out _ belo).mono ?_
   rintro e w6 ⟨rfl,vk',hix',how',hkp⟩
   have HIX6:=Hd hix'
   have HB6:=Hd (show Below w.heap.size w w6 from (HBR.out.alloc hzr _).trans (Keeps.below hkp (by simp;omega) fun j hj=>by
    rcases hj with h1|h1
    ·rw [h1];exact Nat.le_refl _
    ·exact (HIXR.out.row.lt j h1).1))
   clear hix' how' hkp
   go_wp2_with fail
   go_roundw
   case rel=>exact ⟨k+1,vk',by omega,by go_num,HIX6.out,HB6.out⟩
   case measure=>simp [intOf];omega
  ·have hkn:k=n:=by omega
   have hj1:¬ (k:Int)<(n:Int):=by omega
   have HE:=Hd (show IxAt wr w.heap.size w.heap.size vk l by
    have h1:=HIXR.out
    rwa [hkn,List.take_of_length_le (by rw [HN.out];exact Nat.le_refl _)] at h1)
   go_wp2_with fail
   refine bodyPost_ret (v:=?_) ?_ rfl ?_
   rotate_left;(focus (simp [results,Tryz.results48,go_sem];exact rfl))
   exact ⟨_,rfl,⟨vk,HE.out⟩,HBR.out⟩
theorem base_ck{w:World}{dp K:Nat}{P:Nat→Prop}{d:Dk}{v:Vl}(c:Ck)(h:DS w dp P K d)(hn:NamesAt v.num v.gen)(hl:(cName v.num v.gen).length≤maxLen)(hw:d.whole (cName v.num v.gen)=(0,ckB c))(hr:ckRight c=0)(hck:∀ p∈c.l,p.key<18446744073709551616∧p.cookie<4294967296)(hs:IxS c.l)(h1:c.vol=v.num)(h2:c.gen=v.gen)(sz:Nat)(hu:16≤c.upto)(hz:c.upto≤sz) :
  Calls Tryz.prog 109 #[(.pointer (some ⟨dp,0,none⟩)),.agg #[.int .i64 v.num,.int .i64 v.gen,.int .i64 v.epoch,.bool v.shut],.int .i64 sz] w (BaseTo w c.l c.upto):=by
 have HN:=Hd hn
 have HNV:=Hd (show namesV v.num v.gen=.tuple #[.string ⟨v.file.toArray⟩,.string ⟨(cName v.num v.gen).toArray⟩,.string ⟨(mName v.num).toArray⟩,.string ⟨(sName v.num).toArray⟩] from rfl)
 have hwh:=fun (w0:World) (hb:Below w.heap.size w w0)=>whole_ds (h.below hb) (cName v.num v.gen) hl
 rw [hw] at hwh
 have HWH:=Hd hwh
 obtain ⟨hl4,hnums,-⟩:=ckRight_parts hr
 have hlen:=ckB_len c
 have HGK:=Hd (fun (bk o n cp:Nat) (w0:World) (hx:Reads w0 1 (.slice (some ⟨bk,o,none⟩) n cp) n ((ckB c).map bv)) (hl:(ckB c).length=n) (hcp:n≤cp)=>ckget_good bk o n cp c w0 hx hl hcp hr hck)
 have HNW:=Hd (fun (a:Option Addr) (cap:Nat) (w0:World) (hx:Reads w0 5 (.slice a c.l.length cap) c.l.length (c.l.flatMap psC))=>inew_any a c.l.length cap c.l w0 hx rfl hs hl4)
 unfold CkGetTo at HGK
 unfold ckV at HGK
 obtain ⟨bs,hbs⟩:∃ bs,bs=ckB c:=⟨_,rfl⟩
 rw [←hbs] at HWH HGK hlen
 rw [h1,h2] at HGK
 have HLB:=Hd hlen
 obtain ⟨U,hU⟩:∃ U,U=c.upto:=⟨_,rfl⟩
 rw [←hU] at HGK hu hz ⊢
 have hub:U≤16777216:=by rw [hU];exact hnums.2.2.2.2
 obtain ⟨L,hL⟩:∃ L,L=c.l:=⟨_,rfl⟩
 rw [←hL] at HGK HNW HLB hl4 ⊢
 have hne1:((v.num:Int) != (v.num:Int))=false:=by simp
 have hne2:((v.gen:Int) != (v.gen:Int))=false:=by simp
 have hu1:decide ((U:Int)<16)=false:=by simp;omega
 have hu2:decide ((sz:Int)<(U:Int))=false:=by simp;omega
 have hu3:decide (U<16)=false:=by simp;omega
 have hu4:decide (sz<U)=false:=by simp;omega
 clear h hn hl hw hwh hr hck hs h1 h2 hnums hlen hbs hU hL hu hz
 go_enter Tryz.func109,Tryz.ntmps109
 go_upto_region 1 with fail
 obtain ⟨w1,hw1⟩:∃ w1:World,w1=w.alloc (.cells #[.int .i64 v.num,.int .i64 v.gen,.int .i64 v.epoch,.bool v.shut] 113):=⟨_,rfl⟩
 have HB1:=Hd (show Below w.heap.size w w1 by rw [hw1];exact belo)
 have KM1:=Hd (show w1.heap[w.heap.size]? = some (.cells #[.int .i64 v.num,.int .i64 v.gen,.int .i64 v.epoch,.bool v.shut] 113 (0,0)) by rw [hw1];exact heap_new w _)
 rw [←hw1]
 clear hw1
 obtain ⟨MB,hMB⟩:∃ MB,MB=w.heap.size:=⟨_,rfl⟩
 rw [←hMB] at KM1 ⊢
 have hMl:w.heap.size≤MB:=by omega
 clear hMB
 obtain ⟨c0,c1,c2,c3⟩:=ncells KM1.out
 have hlm:=blk_lt KM1.out
 go_wp2_with fail
 refine Calls.mono (HN.out _) ?_
 rintro e wx ⟨rfl,rfl⟩
 rw [HNV.out]
 go_wp2_with fail
 refine (HWH.out w1 HB1.out).mono ?_
 rintro e w2 ⟨v2,rfl,ho,hb⟩
 have HB2:=Hd (HB1.out.trans (hb.mono HB1.out.size))
 have KM2:=Hd (blk_below' KM1.out hb)
 obtain ⟨a2,cp2,rfl,hc2⟩:=slice_of ho
 have HRD:=Hd (reads_of_owns ho)
 obtain ⟨bk,oo,cp3,e,hbk,-,-⟩:=reads_at HRD.out (by have:=HLB.out;omega) (by have:=HLB.out;omega)
 obtain ⟨rfl,-,rfl⟩:=sl_inj e
 rw [show errV ((0:Nat):Int)=.nilIface from rfl]
 clear ho hb c0 c1 c2 c3 hlm
 go_wp2_with fail
 refine (HGK.out bk oo bs.length cp2 w2 HRD.out rfl hc2).mono ?_
 rintro e w3 ⟨a3,cp3,rfl,hrow,hb3⟩
 have HB3:=Hd (HB2.out.trans (hb3.mono HB2.out.size))
 have KM3:=Hd (blk_below' KM2.out hb3)
 have HRW:=Hd (reads_of_owns hrow)
 clear hrow hb3 hc2
 go_upto_region 6 with fail
 obtain ⟨w4,hw4⟩:∃ w4:World,w4=w3.alloc (.cells #[.int .i64 v.num,.int .i64 v.gen,.int .i64 U,.slice a3 L.length cp3] 159):=⟨_,rfl⟩
 have hb4:Below w3.heap.size w3 w4:=by rw [hw4];exact belo
 have HB4:=Hd (HB3.out.trans (hb4.mono HB3.out.size))
 have KM4:=Hd (blk_below' KM3.out hb4)
 have KC4:=Hd (show w4.heap[w3.heap.size]? = some (.cells #[.int .i64 v.num,.int .i64 v.gen,.int .i64 U,.slice a3 L.length cp3] 159 (0,0)) by rw [hw4];exact heap_new w3 _)
 have HRW4:=Hd (HRW.out.below hb4)
 rw [←hw4]
 clear hw4 hb4
 obtain ⟨CB,hCB⟩:∃ CB,CB=w3.heap.size:=⟨_,rfl⟩
 rw [←hCB] at KC4 ⊢
 clear hCB
 obtain ⟨c0,c1,c2,c3⟩:=ncells KM4.out
 obtain ⟨y0,y1,y2,y3⟩:=ncells KC4.out
 have hlm:=blk_lt KM4.out
 have hlc:=blk_lt KC4.out
 go_upto_region 8 with fail
 obtain ⟨SS,HSD⟩:∃ SS:World→Prop,Hid (SS=fun w'=>w'.cell? ⟨CB,2,none⟩=some (.int .i64 U)∧w'.cell? ⟨CB,3,none⟩=some (.slice a3 L.length cp3)):=⟨_,Hd rfl⟩
 refine wp_region_mask0 SS [1,4] [0,1,3,0,8,7,63] (.op 0 0 (.op 1 2 (.op 3 0 (.op 4 2 (.op 2 1 (.op 5 0 (.op 6 0 .nil))))))) (by kernel_rfl) (by kernel_rfl) rfl (by kernel_rfl) (by kernel_rfl) ?_ ?_
 (focus (rw [HSD.out];exact ⟨y2,y3⟩));refine stepM0 rfl rfl fun K hK=>?_;go_simp;refine hK _ ?_;clear hK K;refine stepM2 rfl rfl ?_ (fun w1 hS=>?_) fun K hK=>?_;rotate_left;(focus (rw [HSD.out] at hS;obtain ⟨s1,s2⟩:=hS;go_simp;rfl));go_simp;refine hK _ ?_;clear hK K;refine stepM0 rfl rfl fun K hK=>?_;go_simp;refine hK _ ?_;clear hK K;refine stepM2 rfl rfl ?_ (fun w1 hS=>?_) fun K hK=>?_;rotate_left;(focus (rw [HSD.out] at hS;obtain ⟨s1,s2⟩:=hS;go_simp;rfl));go_simp;refine hK _ ?_;clear hK K;refine stepM1S rfl rfl fun K hK=>?_
 (go_wp2_with fail;refine (HNW.out a3 cp3 _ (HRW4.out.below belo)).mono ?_;rintro e w5 ⟨ix,vx,rfl,hix,hb5⟩;have HIX5:=Hd hix;have HB5:=Hd (show Below w4.heap.size w4 w5 from Below.trans belo (hb5.mono (by first|exact Nat.le_refl _|(simp;done))));have x2:=(HB5.out.cell (p:=⟨CB,2,none⟩) hlc).trans y2;have x3:=(HB5.out.cell (p:=⟨CB,3,none⟩) hlc).trans y3;clear hix hb5;go_wp2)
 refine ⟨by rw [HSD.out];exact (⟨x2,x3⟩),?_⟩
 (iterate 2 refine stepM0 rfl rfl fun K hK=>?_;go_simp;refine hK _ ?_;clear hK K)
 try refine stepMnil0 ?_
 clear HSD SS
 go_wp2_with fail
 go_ret2
 have h1:=HIX5.out
 have hz4:=HB4.out.size
 exact ⟨ix,vx,rfl,⟨h1.blk,ownsRow_mono h1.row hz4,Nat.le_trans hz4 h1.low,h1.ne,h1.few,h1.srt⟩,Nat.le_trans hz4 h1.low,HB4.out.trans (HB5.out.mono hz4)⟩
theorem sopen_bad(bk o n c K:Nat)(bs:List UInt8)(w:World)(h:Reads w 1 (.slice (some ⟨bk,o,none⟩) n c) n (bs.map bv))(hb:bs.length=n)(hnk:n=K+4)(hc:n≤c)(hn:n≤70368744177664)(hbad:numAt bs K 4≠(sumOf (bs.take K)).toNat) :
  Calls Tryz.prog 147 #[.slice (some ⟨bk,o,none⟩) n c] w fun e w'=>∃ v',e=.returned (.tuple #[v',errV 5])∧Below w.heap.size w w':=by
 subst hnk
 have HR:=Hd h
 obtain ⟨hr1,hrd1⟩:=btake h hb hc K (by omega)
 have HRD:=Hd hrd1
 have HG:=Hd (show ∀ w0:World,Below w.heap.size w w0→Calls Tryz.prog 125 #[.slice (some ⟨bk,o,none⟩) (K+4) c,.int .i64 K,.int .i64 4] w0 fun e w'=>e=.returned (.tuple #[.int .u64 (numAt bs K 4),.nilIface])∧Below w0.heap.size w0 w' from fun w0 hb0=>
  get_any (some ⟨bk,o,none⟩) (K+4) c K 4 bs w0 (HR.out.below hb0) hb hc (.inl rfl) (by omega) hn)
 have HO:=Hd (show ∀ w0:World,Below w.heap.size w w0→Calls Tryz.prog 127 #[.slice (some ⟨bk,o,none⟩) K c] w0 fun e w'=>e=.returned (.int .u32 (sumOf (bs.take K)).toNat)∧Below w0.heap.size w0 w' from fun w0 hb0=>of_any _ (bs.take K) w0 (by
  have e:(bs.take K).length=K:=by rw [List.length_take];omega
  rw [e]
  exact HRD.out.below hb0))
 obtain ⟨S,hS⟩:∃ S,S=(sumOf (bs.take K)).toNat:=⟨_,rfl⟩
 obtain ⟨T,hT⟩:∃ T,T=numAt bs K 4:=⟨_,rfl⟩
 have hSl:S<4294967296:=by rw [hS];exact (sumOf (bs.take K)).toNat_lt
 rw [←hS] at HO hbad
 rw [←hT] at HG hbad
 have hw:IntKind.u64.wrap (S:Int)=(S:Int):=by rw [IntKind.wrap_u64];omega
 have hne:((T:Int) != (S:Int))=true:=by simp;omega
 have hk0:decide ((K:Int)<0)=false:=by simp
 have hk1:(((K+4:Nat):Int) - 4)=(K:Int):=by omega
 clear h hb hrd1 hS hT hc hbad
 go_enter Tryz.func147,Tryz.ntmps147
 go_wp2_with fail
 refine (HG.out _ belo).mono ?_
 rintro e w1 ⟨rfl,hb1⟩
 have HB1:=Hd hb1
 clear hb1
 go_wp2_with fail
 refine (HO.out _ HB1.out).mono ?_
 rintro e w2 ⟨rfl,hb2⟩
 have HB2:=Hd (HB1.out.trans (hb2.mono HB1.out.size))
 clear hb2
 go_wp2_with fail
 go_ret2
 exact ⟨_,rfl,HB2.out⟩
def CkBadTo (w:World) (e:Ending) (w':World):Prop:=∃ k:Nat,k≠0∧e=.returned (.tuple #[.agg #[.int .i64 0,.int .i64 0,.int .i64 0,.slice none 0 0],errV k])∧Below w.heap.size w w'
theorem ckget_short(a:Option Addr)(n cp:Nat)(w:World)(hn:n<24):Calls Tryz.prog 149 #[.slice a n cp] w (CkBadTo w):=by
 unfold CkBadTo
 have hd0:decide ((n:Int)<24)=true:=by simp;omega
 have hd1:decide (n<24)=true:=by simp;omega
 go_enter Tryz.func149,Tryz.ntmps149
 go_wp2_with fail
 refine bodyPost_ret (v:=?_) ?_ rfl ?_
 rotate_left;(focus (simp [results,Tryz.results149,go_sem];exact rfl))
 exact ⟨3,by decide,rfl,belo⟩
-- WALK
theorem ckget_bad(bk o n cp:Nat)(bs:List UInt8)(w:World)(h:Reads w 1 (.slice (some ⟨bk,o,none⟩) n cp) n (bs.map bv))(hlen:bs.length=n)(hcp:n≤cp)(hn:n≤1000000)(h24:24≤n)(hbad:numAt bs 0 4=1128811344→n=24+24 * numAt bs 16 4→numAt bs (n - 4) 4≠(sumOf (bs.take (n - 4))).toNat) :
  Calls Tryz.prog 149 #[.slice (some ⟨bk,o,none⟩) n cp] w (CkBadTo w):=by
 have HGT:=Hd (fun (w0:World) (bb ab at' k:Nat) (hg:GB w bb ab bk o n cp w0 at') (hlo:w.heap.size≤ab) (hne:bb≠ab) (hk:k=4∨k=8) (hin:at'+k≤n)=>ckget1 hg hlo hne bs h hlen hcp k hk hin hn)
 have HSO:=Hd (show numAt bs (n - 4) 4≠(sumOf (bs.take (n - 4))).toNat→∀ w0:World,Below w.heap.size w w0→Calls Tryz.prog 147 #[.slice (some ⟨bk,o,none⟩) n cp] w0 fun e w'=>∃ v',e=.returned (.tuple #[v',errV 5])∧Below w0.heap.size w0 w' from fun hb w0 hb0=>sopen_bad bk o n cp (n - 4) bs w0 (h.below hb0) hlen (by omega) hcp (by omega) hb)
 obtain ⟨M,hM⟩:∃ M,M=numAt bs 0 4:=⟨_,rfl⟩
 obtain ⟨vol,hV⟩:∃ V,V=numAt bs (0+4) 4:=⟨_,rfl⟩
 obtain ⟨gen,hG⟩:∃ V,V=numAt bs (0+4+4) 4:=⟨_,rfl⟩
 obtain ⟨upto,hU⟩:∃ V,V=numAt bs (0+4+4+4) 4:=⟨_,rfl⟩
 obtain ⟨ln,hN⟩:∃ V,V=numAt bs (0+4+4+4+4) 4:=⟨_,rfl⟩
 have hv1:M<4294967296:=by rw [hM];exact numAt_lt4 _ _
 have hv2:vol<4294967296:=by rw [hV];exact numAt_lt4 _ _
 have hv3:gen<4294967296:=by rw [hG];exact numAt_lt4 _ _
 have hv4:upto<4294967296:=by rw [hU];exact numAt_lt4 _ _
 have hv5:ln<4294967296:=by rw [hN];exact numAt_lt4 _ _
 have hN':numAt bs 16 4=ln:=hN.symm
 rw [←hM,hN'] at hbad
 have HBAD:=Hd hbad
 have HM:=Hd hM.symm
 have HV:=Hd hV.symm
 have HGE:=Hd hG.symm
 have HU:=Hd hU.symm
 have HNN:=Hd hN.symm
 unfold CkBadTo
 clear h hlen hM hV hG hU hN hN' hbad
 have hd0:decide ((n:Int)<24)=false:=by simp;omega
 have hd1:decide (n<24)=false:=by simp;omega
 have hcv1:IntKind.i64.wrap (vol:Int)=(vol:Int):=by rw [IntKind.wrap_i64];omega
 have hcv2:IntKind.i64.wrap (gen:Int)=(gen:Int):=by rw [IntKind.wrap_i64];omega
 have hcv3:IntKind.i64.wrap (upto:Int)=(upto:Int):=by rw [IntKind.wrap_i64];omega
 have hcv4:IntKind.i64.wrap (ln:Int)=(ln:Int):=by rw [IntKind.wrap_i64];omega
 have hcv5:IntKind.i64.wrap ((ln:Int) * 24)=(ln:Int) * 24:=by rw [IntKind.wrap_i64];omega
 have hcv6:IntKind.i64.wrap (20+(ln:Int) * 24)=20+(ln:Int) * 24:=by rw [IntKind.wrap_i64];omega
 have hcv7:IntKind.i64.wrap (20+(ln:Int) * 24+4)=20+(ln:Int) * 24+4:=by rw [IntKind.wrap_i64];omega
 go_enter Tryz.func149,Tryz.ntmps149
 go_upto_region 5 with fail
 obtain ⟨w1,hw1⟩:∃ w1:World,w1=((w.alloc (.cells #[.slice (some ⟨bk,o,none⟩) n cp] 47)).alloc (.cells #[.int .i64 0,.int .i64 0,.int .i64 0,.slice none 0 0] 159)).alloc (.cells #[.int .i64 0] 3):=⟨_,rfl⟩
 have HB1:=Hd (show Below w.heap.size w w1 by rw [hw1];exact belo)
 have KB1:=Hd (show w1.heap[w.heap.size]? = some (.cells #[.slice (some ⟨bk,o,none⟩) n cp] 47 (0,0)) by rw [hw1];exact blk_alloc (blk_alloc (heap_new w _) _) _)
 have KR1:=Hd (show w1.heap[w.heap.size+1]? = some (.cells #[.int .i64 0,.int .i64 0,.int .i64 0,.slice none 0 0] 159 (0,0)) by rw [hw1];exact blk_alloc (blk_new _ (by simp)) _)
 have KA1:=Hd (show w1.heap[w.heap.size+1+1]? = some (.cells #[.int .i64 (0:Nat)] 3 (0,0)) by rw [hw1];exact blk_new _ (by simp))
 rw [←hw1]
 clear hw1
 obtain ⟨BB,hBB⟩:∃ BB,BB=w.heap.size:=⟨_,rfl⟩
 obtain ⟨RB,hRB⟩:∃ RB,RB=w.heap.size+1:=⟨_,rfl⟩
 obtain ⟨AB,hAB⟩:∃ AB,AB=w.heap.size+1+1:=⟨_,rfl⟩
 rw [←hAB] at KA1 ⊢
 rw [←hRB] at KR1 ⊢
 rw [←hBB] at KB1 ⊢
 have hA1:w.heap.size≤AB:=by omega
 have hR1:w.heap.size≤RB:=by omega
 have hne1:BB≠AB:=by omega
 have hne2:RB≠AB:=by omega
 clear hBB hRB hAB
 have HG1:=Hd (show GB w BB AB bk o n cp w1 0 from ⟨KB1.out,KA1.out,HB1.out⟩)
 go_wp2_with fail
 refine (HGT.out w1 BB AB (0) 4 HG1.out hA1 hne1 (.inl rfl) (by omega)).mono ?_
 rintro e w2 ⟨rfl,hg,hk⟩
 have HG2:=Hd hg
 have KR2:=Hd ((hk.block _ (blk_lt KR1.out) hne2).trans KR1.out)
 rw [HM.out]
 clear hg hk
 by_cases hm:M=1128811344
 case neg=>
  have q1:((M:Int) != 1128811344)=true:=by simp;omega
  obtain ⟨z0,z1,z2,z3⟩:=ncells KR2.out
  obtain ⟨f0,f1,f2,f3⟩:=nfree KR2.out
  have hlr:=blk_lt KR2.out
  go_wp2_with fail
  obtain ⟨wf,hwf⟩:∃ wf,wf=set4 w2 RB (.int .i64 0) (.int .i64 0) (.int .i64 0) (.slice none 0 0):=⟨_,rfl⟩
  have hbf:Below w.heap.size w2 wf:=by rw [hwf];unfold set4;exact ((((Below.refl _ w2).setCell hR1 _).setCell hR1 _).setCell hR1 _).setCell hR1 _
  have kbf:=store4 KR2.out (.int .i64 0) (.int .i64 0) (.int .i64 0) (.slice none 0 0)
  rw [←hwf] at kbf
  unfold set4 at hwf
  rw [←hwf]
  clear hwf z0 z1 z2 z3 f0 f1 f2 f3
  obtain ⟨s0,s1,s2,s3⟩:=ncells kbf
  refine bodyPost_ret (v:=?_) ?_ rfl ?_
  rotate_left;(focus (simp [results,Tryz.results149,go_sem,s0,s1,s2,s3];exact rfl))
  exact ⟨4,by decide,rfl,HG2.out.below.trans hbf⟩
 have HMM:=Hd hm
 have q1:((M:Int) != 1128811344)=false:=by simp;omega
 clear hm
 go_wp2_with fail
 refine (HGT.out w2 BB AB (0+4) 4 HG2.out hA1 hne1 (.inl rfl) (by omega)).mono ?_
 rintro e w3 ⟨rfl,hg,hk⟩
 have HG3:=Hd hg
 have KR3:=Hd ((hk.block _ (blk_lt KR2.out) hne2).trans KR2.out)
 rw [HV.out]
 clear hg hk
 go_wp2_with fail
 refine (HGT.out w3 BB AB (0+4+4) 4 HG3.out hA1 hne1 (.inl rfl) (by omega)).mono ?_
 rintro e w4 ⟨rfl,hg,hk⟩
 have HG4:=Hd hg
 have KR4:=Hd ((hk.block _ (blk_lt KR3.out) hne2).trans KR3.out)
 rw [HGE.out]
 clear hg hk
 go_wp2_with fail
 refine (HGT.out w4 BB AB (0+4+4+4) 4 HG4.out hA1 hne1 (.inl rfl) (by omega)).mono ?_
 rintro e w5 ⟨rfl,hg,hk⟩
 have HG5:=Hd hg
 have KR5:=Hd ((hk.block _ (blk_lt KR4.out) hne2).trans KR4.out)
 rw [HU.out]
 clear hg hk
 go_upto_region 8 with fail
 obtain ⟨w6,hw6⟩:∃ w6:World,w6=w5.alloc (.cells #[.int .i64 vol,.int .i64 gen,.int .i64 upto,.slice none 0 0] 159):=⟨_,rfl⟩
 have hb6:Below w5.heap.size w5 w6:=by rw [hw6];exact belo
 have HG6:=Hd (HG5.out.keeps hb6)
 have KR6:=Hd (blk_below' KR5.out hb6)
 rw [←hw6]
 clear hw6 hb6
 go_wp2_with fail
 refine (HGT.out w6 BB AB (0+4+4+4+4) 4 HG6.out hA1 hne1 (.inl rfl) (by omega)).mono ?_
 rintro e w7 ⟨rfl,hg,hk⟩
 have HG7:=Hd hg
 have KR7:=Hd ((hk.block _ (blk_lt KR6.out) hne2).trans KR6.out)
 rw [HNN.out]
 clear hg hk
 have b0:=bx_cell HG7.out.b
 have hlb:=blk_lt HG7.out.b
 by_cases h4:4096<ln
 ·have e1:decide ((4096:Int)<(ln:Int))=true:=by simp;omega
  have e4:decide (4096<ln)=true:=by simp;omega
  obtain ⟨z0,z1,z2,z3⟩:=ncells KR7.out
  obtain ⟨f0,f1,f2,f3⟩:=nfree KR7.out
  have hlr:=blk_lt KR7.out
  go_wp2_with fail
  obtain ⟨wf,hwf⟩:∃ wf,wf=set4 w7 RB (.int .i64 0) (.int .i64 0) (.int .i64 0) (.slice none 0 0):=⟨_,rfl⟩
  have hbf:Below w.heap.size w7 wf:=by rw [hwf];unfold set4;exact ((((Below.refl _ w7).setCell hR1 _).setCell hR1 _).setCell hR1 _).setCell hR1 _
  have kbf:=store4 KR7.out (.int .i64 0) (.int .i64 0) (.int .i64 0) (.slice none 0 0)
  rw [←hwf] at kbf
  unfold set4 at hwf
  rw [←hwf]
  clear hwf z0 z1 z2 z3 f0 f1 f2 f3
  obtain ⟨s0,s1,s2,s3⟩:=ncells kbf
  refine bodyPost_ret (v:=?_) ?_ rfl ?_
  rotate_left;(focus (simp [results,Tryz.results149,go_sem,s0,s1,s2,s3];exact rfl))
  exact ⟨4,by decide,rfl,HG7.out.below.trans hbf⟩
 have e1:decide ((4096:Int)<(ln:Int))=false:=by simp;omega
 have e4:decide (4096<ln)=false:=by simp;omega
 by_cases h5:n<24+24 * ln
 ·have e2:decide ((n:Int)<20+(ln:Int) * 24+4)=true:=by simp;omega
  obtain ⟨z0,z1,z2,z3⟩:=ncells KR7.out
  obtain ⟨f0,f1,f2,f3⟩:=nfree KR7.out
  have hlr:=blk_lt KR7.out
  go_wp2_with fail
  obtain ⟨wf,hwf⟩:∃ wf,wf=set4 w7 RB (.int .i64 0) (.int .i64 0) (.int .i64 0) (.slice none 0 0):=⟨_,rfl⟩
  have hbf:Below w.heap.size w7 wf:=by rw [hwf];unfold set4;exact ((((Below.refl _ w7).setCell hR1 _).setCell hR1 _).setCell hR1 _).setCell hR1 _
  have kbf:=store4 KR7.out (.int .i64 0) (.int .i64 0) (.int .i64 0) (.slice none 0 0)
  rw [←hwf] at kbf
  unfold set4 at hwf
  rw [←hwf]
  clear hwf z0 z1 z2 z3 f0 f1 f2 f3
  obtain ⟨s0,s1,s2,s3⟩:=ncells kbf
  refine bodyPost_ret (v:=?_) ?_ rfl ?_
  rotate_left;(focus (simp [results,Tryz.results149,go_sem,s0,s1,s2,s3];exact rfl))
  exact ⟨3,by decide,rfl,HG7.out.below.trans hbf⟩
 have e2:decide ((n:Int)<20+(ln:Int) * 24+4)=false:=by simp;omega
 by_cases h6:24+24 * ln<n
 ·have e3:decide (20+(ln:Int) * 24+4<(n:Int))=true:=by simp;omega
  obtain ⟨z0,z1,z2,z3⟩:=ncells KR7.out
  obtain ⟨f0,f1,f2,f3⟩:=nfree KR7.out
  have hlr:=blk_lt KR7.out
  go_wp2_with fail
  obtain ⟨wf,hwf⟩:∃ wf,wf=set4 w7 RB (.int .i64 0) (.int .i64 0) (.int .i64 0) (.slice none 0 0):=⟨_,rfl⟩
  have hbf:Below w.heap.size w7 wf:=by rw [hwf];unfold set4;exact ((((Below.refl _ w7).setCell hR1 _).setCell hR1 _).setCell hR1 _).setCell hR1 _
  have kbf:=store4 KR7.out (.int .i64 0) (.int .i64 0) (.int .i64 0) (.slice none 0 0)
  rw [←hwf] at kbf
  unfold set4 at hwf
  rw [←hwf]
  clear hwf z0 z1 z2 z3 f0 f1 f2 f3
  obtain ⟨s0,s1,s2,s3⟩:=ncells kbf
  refine bodyPost_ret (v:=?_) ?_ rfl ?_
  rotate_left;(focus (simp [results,Tryz.results149,go_sem,s0,s1,s2,s3];exact rfl))
  exact ⟨4,by decide,rfl,HG7.out.below.trans hbf⟩
 have e3:decide (20+(ln:Int) * 24+4<(n:Int))=false:=by simp;omega
 have HSB:=Hd (HSO.out (HBAD.out HMM.out (by omega)))
 go_wp2_with fail
 refine (HSB.out w7 HG7.out.below).mono ?_
 rintro e w8 ⟨v8,rfl,hb8⟩
 have HG8:=Hd (HG7.out.keeps hb8)
 have KR8:=Hd (blk_below' KR7.out hb8)
 rw [errV_ne (show (5:Int)≠0 by decide)]
 clear hb8 b0 hlb
 obtain ⟨z0,z1,z2,z3⟩:=ncells KR8.out
 obtain ⟨f0,f1,f2,f3⟩:=nfree KR8.out
 have hlr:=blk_lt KR8.out
 go_wp2_with fail
 obtain ⟨wf,hwf⟩:∃ wf,wf=set4 w8 RB (.int .i64 0) (.int .i64 0) (.int .i64 0) (.slice none 0 0):=⟨_,rfl⟩
 have hbf:Below w.heap.size w8 wf:=by rw [hwf];unfold set4;exact ((((Below.refl _ w8).setCell hR1 _).setCell hR1 _).setCell hR1 _).setCell hR1 _
 have kbf:=store4 KR8.out (.int .i64 0) (.int .i64 0) (.int .i64 0) (.slice none 0 0)
 rw [←hwf] at kbf
 unfold set4 at hwf
 rw [←hwf]
 clear hwf z0 z1 z2 z3 f0 f1 f2 f3
 obtain ⟨s0,s1,s2,s3⟩:=ncells kbf
 refine bodyPost_ret (v:=?_) ?_ rfl ?_
 rotate_left;(focus (simp [results,Tryz.results149,go_sem,s0,s1,s2,s3];exact rfl))
 exact ⟨5,by decide,rfl,HG8.out.below.trans hbf⟩
def NoCk (bs:List UInt8):Prop:=bs.length<24∨(numAt bs 0 4=1128811344→bs.length=24+24 * numAt bs 16 4→numAt bs (bs.length - 4) 4≠(sumOf (bs.take (bs.length - 4))).toNat)
theorem ckget_no(a:Option Addr)(n cp:Nat)(bs:List UInt8)(w:World)(h:Reads w 1 (.slice a n cp) n (bs.map bv))(hlen:bs.length=n)(hcp:n≤cp)(hn:n≤1000000)(hno:NoCk bs):Calls Tryz.prog 149 #[.slice a n cp] w (CkBadTo w):=by
 by_cases h24:n<24
 ·exact ckget_short a n cp w h24
 ·obtain ⟨bk,oo,cp3,e,hbk,-,-⟩:=reads_at h (by omega) (by omega)
  obtain ⟨rfl,-,rfl⟩:=sl_inj e
  rcases hno with h1|h1
  ·omega
  ·rw [hlen] at h1
   exact ckget_bad bk oo n cp bs w h hlen hcp hn (by omega) h1
theorem base_bad{w:World}{dp K:Nat}{P:Nat→Prop}{d:Dk}{v:Vl}{bs:List UInt8}(h:DS w dp P K d)(hn:NamesAt v.num v.gen)(hl:(cName v.num v.gen).length≤maxLen)(hw:d.whole (cName v.num v.gen)=(0,bs))(hlen:bs.length≤1000000)(hno:NoCk bs)(sz:Nat) :
  Calls Tryz.prog 109 #[(.pointer (some ⟨dp,0,none⟩)),.agg #[.int .i64 v.num,.int .i64 v.gen,.int .i64 v.epoch,.bool v.shut],.int .i64 sz] w (BaseTo w [] 16):=by
 have HN:=Hd hn
 have HNV:=Hd (show namesV v.num v.gen=.tuple #[.string ⟨v.file.toArray⟩,.string ⟨(cName v.num v.gen).toArray⟩,.string ⟨(mName v.num).toArray⟩,.string ⟨(sName v.num).toArray⟩] from rfl)
 have hwh:=fun (w0:World) (hb:Below w.heap.size w w0)=>whole_ds (h.below hb) (cName v.num v.gen) hl
 rw [hw] at hwh
 have HWH:=Hd hwh
 obtain ⟨nb,hnb⟩:∃ nb,nb=bs.length:=⟨_,rfl⟩
 have HNB:=Hd hnb
 have HGK:=Hd (fun (a:Option Addr) (cp:Nat) (w0:World) (hx:Reads w0 1 (.slice a nb cp) nb (bs.map bv)) (hcp:nb≤cp)=>ckget_no a nb cp bs w0 hx hnb.symm hcp (by omega) hno)
 unfold CkBadTo at HGK
 simp only [←hnb] at HWH
 clear h hn hl hw hwh hlen hno hnb
 go_enter Tryz.func109,Tryz.ntmps109
 go_wp2_with fail
 refine Calls.mono (HN.out _) ?_
 rintro e wx ⟨rfl,rfl⟩
 rw [HNV.out]
 go_wp2_with fail
 refine (HWH.out _ belo).mono ?_
 rintro e w2 ⟨v2,rfl,ho,hb⟩
 simp only [←HNB.out] at ho
 have HB2:=Hd (show Below w.heap.size w w2 from Below.trans belo (hb.mono (by first|exact Nat.le_refl _|(simp;done)|(simp;omega))))
 obtain ⟨a2,cp2,rfl,hc2⟩:=slice_of ho
 have HRD:=Hd (reads_of_owns ho)
 rw [show errV ((0:Nat):Int)=.nilIface from rfl]
 clear ho hb
 have hz2:=HB2.out.size
 go_wp2_with fail
 refine (HGK.out a2 cp2 w2 HRD.out hc2).mono ?_
 rintro e w3 ⟨kk,hkk,rfl,hb3⟩
 have HB3:=Hd (HB2.out.trans (hb3.mono hz2))
 rw [errV_ne (show ((kk:Nat):Int)≠0 by omega)]
 clear hb3
 go_upto_region 6 with fail
 obtain ⟨w4,hw4⟩:∃ w4:World,w4=w3.alloc (.cells #[.int .i64 0,.int .i64 0,.int .i64 0,.slice none 0 0] 159):=⟨_,rfl⟩
 have hb4:Below w3.heap.size w3 w4:=by rw [hw4];exact belo
 have HB4:=Hd (HB3.out.trans (hb4.mono HB3.out.size))
 rw [←hw4]
 clear hw4 hb4
 have hz4:=HB4.out.size
 go_wp2_with fail
 refine (inew_nil _).mono ?_
 rintro e w5 ⟨rfl,rfl⟩
 go_wp2_with fail
 go_ret2
 exact ⟨w4.heap.size,.slice none 0 0,rfl,IxAt.made w4 w.heap.size hz4,hz4,HB4.out.alloc hz4 _⟩
end Go.Proofs.YtfpjfoajonbndaaGreatDoor
