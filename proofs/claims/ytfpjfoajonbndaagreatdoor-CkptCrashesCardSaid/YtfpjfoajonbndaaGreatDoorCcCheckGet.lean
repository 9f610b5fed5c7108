import Derived.Test.YtfpjfoajonbndaaGreatDoorCcCheckPlain
import Derived.Test.YtfpjfoajonbndaaGreatDoorCc10
import Derived.Test.YtfpjfoajonbndaaGreatDoorCc22
import Derived.Test.YtfpjfoajonbndaaGreatDoorCcHeadsR
namespace Go.Proofs.YtfpjfoajonbndaaGreatDoor
set_option maxHeartbeats 8000000
set_option maxRecDepth 100000
open Go.RowKit
theorem le_num{k n:Nat}(h:n<256 ^ k):leNat (le k n)=n:=by rw [leNat_le];exact Nat.mod_eq_of_lt h
theorem ck_head(c:Ck)(r:List UInt8)(h1:c.vol<4294967296)(h2:c.gen<4294967296)(h3:c.upto<4294967296)(h4:c.l.length<4294967296) :
  numAt (ckHead c ++ r) 0 4=1128811344∧numAt (ckHead c ++ r) 4 4=c.vol∧numAt (ckHead c ++ r) 8 4=c.gen∧numAt (ckHead c ++ r) 12 4=c.upto∧numAt (ckHead c ++ r) 16 4=c.l.length:=by
 have e:(256:Nat) ^ 4=4294967296:=by decide
 have e1:ckHead c ++ r=[] ++ le 4 1128811344 ++ (le 4 c.vol ++ le 4 c.gen ++ le 4 c.upto ++ le 4 c.l.length ++ r):=by simp [ckHead]
 have e2:ckHead c ++ r=le 4 1128811344 ++ le 4 c.vol ++ (le 4 c.gen ++ le 4 c.upto ++ le 4 c.l.length ++ r):=by simp [ckHead]
 have e3:ckHead c ++ r=(le 4 1128811344 ++ le 4 c.vol) ++ le 4 c.gen ++ (le 4 c.upto ++ le 4 c.l.length ++ r):=by simp [ckHead]
 have e4:ckHead c ++ r=(le 4 1128811344 ++ le 4 c.vol ++ le 4 c.gen) ++ le 4 c.upto ++ (le 4 c.l.length ++ r):=by simp [ckHead]
 have e5:ckHead c ++ r=(le 4 1128811344 ++ le 4 c.vol ++ le 4 c.gen ++ le 4 c.upto) ++ le 4 c.l.length ++ r:=by simp [ckHead]
 refine ⟨?_,?_,?_,?_,?_⟩
 ·rw [e1,numAt_mid (by simp) (le_len _ _)];exact le_num (by rw [e];omega)
 ·rw [e2,numAt_mid (le_len _ _) (le_len _ _)];exact le_num (by rw [e];exact h1)
 ·rw [e3,numAt_mid (by simp [le_len]) (le_len _ _)];exact le_num (by rw [e];exact h2)
 ·rw [e4,numAt_mid (by simp [le_len]) (le_len _ _)];exact le_num (by rw [e];exact h3)
 ·rw [e5,numAt_mid (by simp [le_len]) (le_len _ _)];exact le_num (by rw [e];exact h4)
theorem pos_num(A r:List UInt8)(p:Ps){at':Nat}(hA:A.length=at')(h1:p.key<18446744073709551616)(h2:p.off<4294967296)(h3:p.len<4294967296)(h4:p.cookie<4294967296) :
  numAt (A ++ (posB p ++ r)) at' 8=p.key∧numAt (A ++ (posB p ++ r)) (at'+8) 4=p.off∧numAt (A ++ (posB p ++ r)) (at'+12) 4=p.len∧numAt (A ++ (posB p ++ r)) (at'+16) 4=p.cookie∧numAt (A ++ (posB p ++ r)) (at'+20) 4=(if p.gone then 1 else 0):=by
 have e:(256:Nat) ^ 4=4294967296:=by decide
 have e':(256:Nat) ^ 8=18446744073709551616:=by decide
 have e1:A ++ (posB p ++ r)=A ++ le 8 p.key ++ (le 4 p.off ++ le 4 p.len ++ le 4 p.cookie ++ le 4 (if p.gone then 1 else 0) ++ r):=by simp [posB]
 have e2:A ++ (posB p ++ r)=(A ++ le 8 p.key) ++ le 4 p.off ++ (le 4 p.len ++ le 4 p.cookie ++ le 4 (if p.gone then 1 else 0) ++ r):=by simp [posB]
 have e3:A ++ (posB p ++ r)=(A ++ le 8 p.key ++ le 4 p.off) ++ le 4 p.len ++ (le 4 p.cookie ++ le 4 (if p.gone then 1 else 0) ++ r):=by simp [posB]
 have e4:A ++ (posB p ++ r)=(A ++ le 8 p.key ++ le 4 p.off ++ le 4 p.len) ++ le 4 p.cookie ++ (le 4 (if p.gone then 1 else 0) ++ r):=by simp [posB]
 have e5:A ++ (posB p ++ r)=(A ++ le 8 p.key ++ le 4 p.off ++ le 4 p.len ++ le 4 p.cookie) ++ le 4 (if p.gone then 1 else 0) ++ r:=by simp [posB]
 refine ⟨?_,?_,?_,?_,?_⟩
 ·rw [e1,numAt_mid hA (le_len _ _)];exact le_num (by rw [e'];exact h1)
 ·rw [e2,numAt_mid (by simp [le_len,hA]) (le_len _ _)];exact le_num (by rw [e];exact h2)
 ·rw [e3,numAt_mid (by simp [le_len,hA]) (le_len _ _)];exact le_num (by rw [e];exact h3)
 ·rw [e4,numAt_mid (by simp [le_len,hA]) (le_len _ _)];exact le_num (by rw [e];exact h4)
 ·rw [e5,numAt_mid (by simp [le_len,hA]) (le_len _ _)];exact le_num (by rw [e];split <;> omega)
theorem ck_item(c:Ck){j:Nat}{p:Ps}(hj:c.l[j]? = some p):∃ r,ckB c=(ckHead c ++ (c.l.take j).flatMap posB) ++ (posB p ++ r)∧(ckHead c ++ (c.l.take j).flatMap posB).length=20+24 * j:=by
 obtain ⟨h1,h2⟩:=List.getElem?_eq_some_iff.1 hj
 refine ⟨(c.l.drop (j+1)).flatMap posB ++ le 4 (sumOf (ckBody c)).toNat,?_,?_⟩
 ·have e:c.l.flatMap posB=(c.l.take j).flatMap posB ++ (posB p ++ (c.l.drop (j+1)).flatMap posB):=by
   have e2:c.l=c.l.take j ++ (p :: c.l.drop (j+1)):=by
    rw [←h2,List.getElem_cons_drop,List.take_append_drop]
   have:=congrArg (List.flatMap posB) e2
   rw [List.flatMap_append,List.flatMap_cons] at this
   exact this
  unfold ckB
  rw [show ckBody c=ckHead c ++ c.l.flatMap posB from rfl,e]
  simp
 ·rw [List.length_append,ckHead_len,posBs_len,List.length_take]
  omega
theorem ckPos_le{p:Ps}(h:ckPos p=true):p.off≤16777216∧p.len≤4096:=by
 unfold ckPos at h
 simp only [Bool.and_eq_true,decide_eq_true_eq] at h
 exact ⟨h.1,h.2.1⟩
theorem ckRow_mem:∀ {l:List Ps} {k:Option Nat},ckRow k l=true→∀ p∈l,ckPos p=true
 | [],_,_,p,hp=>absurd hp List.not_mem_nil
 | q :: r,k,h,p,hp=>by
  unfold ckRow at h
  simp only [Bool.and_eq_true] at h
  rcases List.mem_cons.1 hp with rfl|hp
  ·exact h.1.1
  ·exact ckRow_mem h.2 p hp
theorem ckRight_parts{c:Ck}(h:ckRight c=0):c.l.length≤4096∧(1≤c.vol∧c.vol≤65535∧1≤c.gen∧c.gen≤2147483647∧c.upto≤16777216)∧∀ p∈c.l,p.off≤16777216∧p.len≤4096:=by
 unfold ckRight at h
 split at h
 ·cases h
 split at h
 ·rename_i h1 h2
  simp only [Bool.and_eq_true] at h2
  exact ⟨by omega,by simpa [ckNums] using h2.1,fun p hp=>ckPos_le (ckRow_mem h2.2 p hp)⟩
 ·cases h
structure GB (w0:World) (bb ab bk o n c:Nat) (w:World) (at':Nat):Prop where
 b:w.heap[bb]? = some (.cells #[.slice (some ⟨bk,o,none⟩) n c] 47 (0,0))
 a:w.heap[ab]? = some (.cells #[.int .i64 at'] 3 (0,0))
 below:Below w0.heap.size w0 w
theorem GB.keeps{w0:World}{bb ab bk o n c:Nat}{w:World}{at':Nat}(h:GB w0 bb ab bk o n c w at'){w':World}(hb:Below w.heap.size w w'):GB w0 bb ab bk o n c w' at':=
 ⟨blk_below' h.b hb,blk_below' h.a hb,h.below.trans (hb.mono h.below.size)⟩
theorem ckget1{w0:World}{bb ab bk o n c:Nat}{w:World}{at':Nat}(h:GB w0 bb ab bk o n c w at')(hlo:w0.heap.size≤ab)(hne:bb≠ab)(bs:List UInt8)(h0:Reads w0 1 (.slice (some ⟨bk,o,none⟩) n c) n (bs.map bv))(hb:bs.length=n)(hc:n≤c)(k:Nat)(hk:k=4∨k=8)(hin:at'+k≤n)(hn:n≤1000000) :
  Calls Tryz.prog 183 #[.int .i64 k,(.pointer (some ⟨bb,0,none⟩)),(.pointer (some ⟨ab,0,none⟩))] w fun e w'=>e=.returned (.int .u64 (numAt bs at' k))∧GB w0 bb ab bk o n c w' (at'+k)∧Keeps (fun j=>j=ab) w w':=by
 have HH:=Hd h
 have HLO:=Hd hlo
 have HNE:=Hd hne
 have HG:=Hd (get_any (some ⟨bk,o,none⟩) n c at' k bs w (h0.below h.below) hb hc hk hin (by omega))
 obtain ⟨X,hX⟩:∃ X,X=numAt bs at' k:=⟨_,rfl⟩
 rw [←hX] at HG ⊢
 have b0:=bx_cell h.b
 have a0:=bx_cell h.a
 have hlb:=blk_lt h.b
 have hla:=blk_lt h.a
 have hk8:k≤8:=by omega
 clear h0 hb hc hk hX h
 go_enter Tryz.func183,Tryz.ntmps183
 go_wp2_with fail
 refine HG.out.mono ?_
 rintro e w2 ⟨rfl,hb2⟩
 have HB2:=Hd hb2
 have KA2:=Hd (blk_below' HH.out.a hb2)
 have KB2:=Hd (blk_below' HH.out.b hb2)
 have a1:=bx_cell KA2.out
 have f1:w2.frozen? ⟨ab,0,none⟩=false:=frozen_of_row w2 ab 0 _ _ KA2.out
 have hl2:=blk_lt KA2.out
 clear hb2
 go_wp2_with fail
 go_ret
 have g3:=heap_setCell_same w2 ab 0 _ _ (.int .i64 ((at':Int)+(k:Int))) KA2.out
 have hk3:Keeps (fun j=>j=ab) w2 (w2.setCell ⟨ab,0,none⟩ (.int .i64 ((at':Int)+(k:Int)))):=(Keeps.refl (fun j=>j=ab) w2).setCell ⟨ab,0,none⟩ _ (fun _=>rfl)
 refine ⟨rfl,⟨(hk3.block _ (blk_lt KB2.out) HNE.out).trans KB2.out,?_,?_⟩,(keeps_below (fun j=>j=ab) HB2.out).trans hk3 (fun _ _ e=>e)⟩
 ·simpa using g3
 ·exact (HH.out.below.trans (HB2.out.mono HH.out.below.size)).setCell HLO.out _
theorem posInfo:(Tryz.prog.info? 152).map (fun i=>(i.zero,i.size,i.bytes))=some (some (.agg #[.int .u64 0,.int .i64 0,.int .i64 0,.int .u32 0,.bool false]),5,32):=by kernel_rfl
def CkGetTo (w:World) (c:Ck) (e:Ending) (w':World):Prop:=
 ∃ a cap,e=.returned (.tuple #[ckV c a cap,.nilIface])∧w'.ownsRow w.heap.size 152 5 (.slice a c.l.length cap) c.l.length (c.l.flatMap psC)∧Below w.heap.size w w'
theorem ckget_good(bk o n cp:Nat)(c:Ck)(w:World)(h:Reads w 1 (.slice (some ⟨bk,o,none⟩) n cp) n ((ckB c).map bv))(hlen:(ckB c).length=n)(hcp:n≤cp)(hr:ckRight c=0)(hck:∀ p∈c.l,p.key<18446744073709551616∧p.cookie<4294967296) :
  Calls Tryz.prog 149 #[.slice (some ⟨bk,o,none⟩) n cp] w (CkGetTo w c):=by
 obtain ⟨i0,hi,hzz0,hzz1,hzz2⟩:=info_parts posInfo
 have HI:=Hd hi
 have HZ0:=Hd hzz0
 have HZ1:=Hd hzz1
 have HZ2:=Hd hzz2
 obtain ⟨hl4,hnums,hps⟩:=ckRight_parts hr
 have HPS:=Hd hps
 have HCK:=Hd hck
 have HHD:=Hd (ck_head c (c.l.flatMap posB ++ le 4 (sumOf (ckBody c)).toNat) (by omega) (by omega) (by omega) (by omega))
 have hbe:ckHead c ++ (c.l.flatMap posB ++ le 4 (sumOf (ckBody c)).toNat)=ckB c:=by simp [ckB,ckBody]
 rw [hbe] at HHD
 have HIT:=Hd (show ∀ (j:Nat) (p:Ps),c.l[j]? = some p→numAt (ckB c) (20+24 * j) 8=p.key∧numAt (ckB c) (20+24 * j+8) 4=p.off∧numAt (ckB c) (20+24 * j+12) 4=p.len∧numAt (ckB c) (20+24 * j+16) 4=p.cookie∧numAt (ckB c) (20+24 * j+20) 4=(if p.gone then 1 else 0) from fun j p hp=>by
  obtain ⟨r,e1,e2⟩:=ck_item c hp
  have hm:=List.mem_of_getElem? hp
  have:=pos_num _ r p e2 (hck p hm).1 (by have:=hps p hm;omega) (by have:=hps p hm;omega) (hck p hm).2
  rw [←e1] at this
  exact this)
 have hn:n=24+24 * c.l.length:=by rw [←hlen,ckB_len]
 have HSO:=Hd (show ∀ w0:World,Below w.heap.size w w0→Calls Tryz.prog 147 #[.slice (some ⟨bk,o,none⟩) n cp] w0 fun e w'=>∃ v',e=.returned (.tuple #[v',.nilIface])∧Below w0.heap.size w0 w' from fun w0 hb0=>sopen_good bk o n cp (ckBody c) w0 (h.below hb0) (by rw [ckBody_len];omega) hcp (by omega))
 have HRI:=Hd (fun (w0:World) (a:Option Addr) (cap:Nat) (hx:Reads w0 5 (.slice a c.l.length cap) c.l.length (c.l.flatMap psC))=>ckright_any c a cap w0 hx (by omega))
 have HGT:=Hd (fun (w0:World) (bb ab at' k:Nat) (hg:GB w bb ab bk o n cp w0 at') (hlo:w.heap.size≤ab) (hne:bb≠ab) (hk:k=4∨k=8) (hin:at'+k≤n)=>ckget1 hg hlo hne (ckB c) h hlen hcp k hk hin (by omega))
 have HR:=Hd h
 rw [hr] at HRI
 unfold CkGetTo
 unfold ckV at HRI ⊢
 obtain ⟨bs,hbs⟩:∃ bs,bs=ckB c:=⟨_,rfl⟩
 rw [←hbs] at HHD HIT HGT
 obtain ⟨vol,gen,upto,l⟩:=c
 simp only at HPS HCK HHD HIT HRI hl4 hnums hn ⊢
 obtain ⟨ln,hln⟩:∃ ln,ln=l.length:=⟨_,rfl⟩
 have HLN:=Hd hln
 rw [←hln] at HHD HRI hl4 hn ⊢
 clear h hlen hr hck hps hbe hi hzz0 hzz1 hzz2 hbs hln
 have hd0:decide ((n:Int)<24)=false:=by simp;omega
 have hd1:decide (n<24)=false:=by simp;omega
 have HN:=Hd hn
 have hn24:24≤n:=by omega
 have hn1:n≤98328:=by omega
 clear hn
 obtain ⟨hv1,hv2,hv3,hv4,hv5⟩:=hnums
 have hcv1:IntKind.i64.wrap (vol:Int)=(vol:Int):=by rw [IntKind.wrap_i64];omega
 have hcv2:IntKind.i64.wrap (gen:Int)=(gen:Int):=by rw [IntKind.wrap_i64];omega
 have hcv3:IntKind.i64.wrap (upto:Int)=(upto:Int):=by rw [IntKind.wrap_i64];omega
 have hcv4:IntKind.i64.wrap (ln:Int)=(ln:Int):=by rw [IntKind.wrap_i64];omega
 go_enter Tryz.func149,Tryz.ntmps149
 go_upto_region 5 with fail
 obtain ⟨w1,hw1⟩:∃ w1:World,w1=((w.alloc (.cells #[.slice (some ⟨bk,o,none⟩) n cp] 47)).alloc (.cells #[.int .i64 0,.int .i64 0,.int .i64 0,.slice none 0 0] 159)).alloc (.cells #[.int .i64 0] 3):=⟨_,rfl⟩
 have HB1:=Hd (show Below w.heap.size w w1 by rw [hw1];exact belo)
 have KB1:=Hd (show w1.heap[w.heap.size]? = some (.cells #[.slice (some ⟨bk,o,none⟩) n cp] 47 (0,0)) by rw [hw1];exact blk_alloc (blk_alloc (heap_new w _) _) _)
 have KR1:=Hd (show w1.heap[w.heap.size+1]? = some (.cells #[.int .i64 0,.int .i64 0,.int .i64 0,.slice none 0 0] 159 (0,0)) by rw [hw1];exact blk_alloc (blk_new _ (by simp)) _)
 have KA1:=Hd (show w1.heap[w.heap.size+1+1]? = some (.cells #[.int .i64 (0:Nat)] 3 (0,0)) by rw [hw1];exact blk_new _ (by simp))
 rw [←hw1]
 clear hw1
 obtain ⟨BB,hBB⟩:∃ BB,BB=w.heap.size:=⟨_,rfl⟩
 obtain ⟨RB,hRB⟩:∃ RB,RB=w.heap.size+1:=⟨_,rfl⟩
 obtain ⟨AB,hAB⟩:∃ AB,AB=w.heap.size+1+1:=⟨_,rfl⟩
 rw [←hAB] at KA1 ⊢
 rw [←hRB] at KR1 ⊢
 rw [←hBB] at KB1 ⊢
 have hA1:w.heap.size≤AB:=by omega
 have hR1:w.heap.size≤RB:=by omega
 have hne1:BB≠AB:=by omega
 have hne2:RB≠AB:=by omega
 clear hBB hRB hAB
 have HG1:=Hd (show GB w BB AB bk o n cp w1 0 from ⟨KB1.out,KA1.out,HB1.out⟩)
 go_wp2_with fail
 refine (HGT.out w1 BB AB 0 4 HG1.out hA1 hne1 (.inl rfl) (by omega)).mono ?_
 rintro e w2 ⟨rfl,hg2,hk2⟩
 have HG2:=Hd hg2
 have KR2:=Hd ((hk2.block _ (blk_lt KR1.out) hne2).trans KR1.out)
 rw [HHD.out.1]
 clear hg2 hk2
 go_wp2_with fail
 refine (HGT.out w2 BB AB (0+4) 4 HG2.out hA1 hne1 (.inl rfl) (by omega)).mono ?_
 rintro e w3 ⟨rfl,hg3,hk3⟩
 have HG3:=Hd hg3
 have KR3:=Hd ((hk3.block _ (blk_lt KR2.out) hne2).trans KR2.out)
 rw [HHD.out.2.1]
 clear hg3 hk3
 go_wp2_with fail
 refine (HGT.out w3 BB AB (0+4+4) 4 HG3.out hA1 hne1 (.inl rfl) (by omega)).mono ?_
 rintro e w4 ⟨rfl,hg4,hk4⟩
 have HG4:=Hd hg4
 have KR4:=Hd ((hk4.block _ (blk_lt KR3.out) hne2).trans KR3.out)
 rw [HHD.out.2.2.1]
 clear hg4 hk4
 go_wp2_with fail
 refine (HGT.out w4 BB AB (0+4+4+4) 4 HG4.out hA1 hne1 (.inl rfl) (by omega)).mono ?_
 rintro e w5 ⟨rfl,hg5,hk5⟩
 have HG5:=Hd hg5
 have KR5:=Hd ((hk5.block _ (blk_lt KR4.out) hne2).trans KR4.out)
 rw [HHD.out.2.2.2.1]
 clear hg5 hk5
 go_upto_region 8 with fail
 obtain ⟨w6,hw6⟩:∃ w6:World,w6=w5.alloc (.cells #[.int .i64 vol,.int .i64 gen,.int .i64 upto,.slice none 0 0] 159):=⟨_,rfl⟩
 have hb6:Below w5.heap.size w5 w6:=by rw [hw6];exact belo
 have KC6:=Hd (show w6.heap[w5.heap.size]? = some (.cells #[.int .i64 vol,.int .i64 gen,.int .i64 upto,.slice none 0 0] 159 (0,0)) by rw [hw6];exact heap_new w5 _)
 have HG6:=Hd (HG5.out.keeps hb6)
 have KR6:=Hd (blk_below' KR5.out hb6)
 rw [←hw6]
 have hcn:w5.heap.size≠AB∧w5.heap.size≠RB∧w.heap.size≤w5.heap.size∧w5.heap.size≠BB:=by
  have h0:=blk_lt HG5.out.b
  have h1:=blk_lt HG5.out.a
  have h2:=blk_lt KR5.out
  have h3:=HG5.out.below.size
  omega
 clear hw6 hb6
 obtain ⟨CB,hCB⟩:∃ CB,CB=w5.heap.size:=⟨_,rfl⟩
 rw [←hCB] at KC6 hcn ⊢
 clear hCB
 obtain ⟨hc1,hc2,hc3,hc4⟩:=hcn
 go_wp2_with fail
 refine (HGT.out w6 BB AB (0+4+4+4+4) 4 HG6.out hA1 hne1 (.inl rfl) (by omega)).mono ?_
 rintro e w7 ⟨rfl,hg7,hk7⟩
 have HG7:=Hd hg7
 have KR7:=Hd ((hk7.block _ (blk_lt KR6.out) hne2).trans KR6.out)
 have KC7:=Hd ((hk7.block _ (blk_lt KC6.out) hc1).trans KC6.out)
 rw [HHD.out.2.2.2.2]
 clear hg7 hk7
 have b0:=bx_cell HG7.out.b
 have hlb:=blk_lt HG7.out.b
 have hn1':(n:Int)=24+24 * (ln:Int):=by have:=HN.out;omega
 have e1:decide ((4096:Int)<(ln:Int))=false:=by simp;omega
 have e2:decide ((n:Int)<20+(ln:Int) * 24+4)=false:=by simp;omega
 have e3:decide (20+(ln:Int) * 24+4<(n:Int))=false:=by simp;omega
 have e4:decide (4096<ln)=false:=by simp;omega
 clear hn1'
 go_wp2_with fail
 refine (HSO.out w7 HG7.out.below).mono ?_
 rintro e w8 ⟨v8,rfl,hb8⟩
 have HG8:=Hd (HG7.out.keeps hb8)
 have KR8:=Hd (blk_below' KR7.out hb8)
 have KC8:=Hd (blk_below' KC7.out hb8)
 clear hb8 b0 hlb
 go_wp2_with fail
 have hz8:=HG8.out.below.size
 have hAl:=blk_lt HG8.out.a
 have hBl:=blk_lt HG8.out.b
 have hRl:=blk_lt KR8.out
 have hCl:=blk_lt KC8.out
 go_loopw [11,71] (fun s i wr=>∃(k:Nat)(aL:Option Addr)(cL:Nat),k≤ln∧s=.bool false∧i=.int .i64 k∧wr.heap[CB]? = some (.cells #[.int .i64 vol,.int .i64 gen,.int .i64 upto,.slice aL k cL] 159 (0,0))∧wr.ownsRow w8.heap.size 152 5 (.slice aL k cL) k ((l.take k).flatMap psC)∧GB w BB AB bk o n cp wr (20+24 * k)∧wr.heap[RB]? = some (.cells #[.int .i64 0,.int .i64 0,.int .i64 0,.slice none 0 0] 159 (0,0))∧w8.heap.size≤wr.heap.size) (fun _ i _=>ln - (intOf i).toNat)
 case atStart=>exact ⟨0,none,0,Nat.zero_le _,rfl,rfl,KC8.out,World.ownsRow_nil _ _ _ _,HG8.out,KR8.out,Nat.le_refl _⟩
 case round=>
  obtain ⟨k,aL,cL,hk,rfl,rfl,hkc,hrw,hgr,hkr,hzr⟩:=hrel
  have KCR:=Hd hkc
  have HRW:=Hd hrw
  have HGR:=Hd hgr
  have KRR:=Hd hkr
  clear hkc hrw hgr hkr
  by_cases hlt:k<ln
  ·obtain ⟨p,hp⟩:∃ p,l[k]? = some p:=⟨_,List.getElem?_eq_getElem (by rw [←HLN.out];exact hlt)⟩
   have HP:=Hd hp
   have HNU:=Hd (HIT.out k p hp)
   have hm:=List.mem_of_getElem? hp
   obtain ⟨p1,p2⟩:=HPS.out p hm
   obtain ⟨p3,p4⟩:=HCK.out p hm
   obtain ⟨pk,po,pl,pc,pg⟩:=p
   simp only at HNU p1 p2 p3 p4
   have hcp1:IntKind.i64.wrap (po:Int)=(po:Int):=by rw [IntKind.wrap_i64];omega
   have hcp2:IntKind.i64.wrap (pl:Int)=(pl:Int):=by rw [IntKind.wrap_i64];omega
   have hcp3:IntKind.u32.wrap (pc:Int)=(pc:Int):=by rw [IntKind.wrap_u32];omega
   have hj1:(k:Int)<(ln:Int):=by omega
   clear hp hm
   go_wp2_with fail
   refine (HGT.out wr BB AB (20+24 * k) 8 HGR.out hA1 hne1 (.inr rfl) (by have:=HN.out;omega)).mono ?_
   rintro e x1 ⟨rfl,hg,hkp⟩
   rw [HNU.out.1]
   have HG1':=Hd hg
   have HK1':=Hd hkp
   clear hg hkp
   go_wp2_with fail
   refine (HGT.out x1 BB AB (20+24 * k+8) 4 HG1'.out hA1 hne1 (.inl rfl) (by have:=HN.out;omega)).mono ?_
   rintro e x2 ⟨rfl,hg,hkp⟩
   rw [HNU.out.2.1]
   have HG2':=Hd hg
   have HK2':=Hd (HK1'.out.trans hkp (fun _ _ e=>e))
   clear hg hkp
   go_wp2_with fail
   refine (HGT.out x2 BB AB (20+24 * k+8+4) 4 HG2'.out hA1 hne1 (.inl rfl) (by have:=HN.out;omega)).mono ?_
   rintro e x3 ⟨rfl,hg,hkp⟩
   rw [HNU.out.2.2.1]
   have HG3':=Hd hg
   have HK3':=Hd (HK2'.out.trans hkp (fun _ _ e=>e))
   clear hg hkp
   go_wp2_with fail
   refine (HGT.out x3 BB AB (20+24 * k+8+4+4) 4 HG3'.out hA1 hne1 (.inl rfl) (by have:=HN.out;omega)).mono ?_
   rintro e x4 ⟨rfl,hg,hkp⟩
   rw [HNU.out.2.2.2.1]
   have HG4':=Hd hg
   have HK4':=Hd (HK3'.out.trans hkp (fun _ _ e=>e))
   clear hg hkp
   go_upto_region 23 with fail
   obtain ⟨x5,hx5⟩:∃ x5:World,x5=x4.alloc (.cells #[.int .u64 pk,.int .i64 po,.int .i64 pl,.int .u32 pc,.bool false] 152):=⟨_,rfl⟩
   have hb5':Below x4.heap.size x4 x5:=by rw [hx5];exact belo
   have KP5:=Hd (show x5.heap[x4.heap.size]? = some (.cells #[.int .u64 pk,.int .i64 po,.int .i64 pl,.int .u32 pc,.bool false] 152 (0,0)) by rw [hx5];exact heap_new x4 _)
   have HG5':=Hd (HG4'.out.keeps hb5')
   have HK5':=Hd (HK4'.out.trans (keeps_below (fun j=>j=AB) hb5') (fun _ _ e=>e))
   rw [←hx5]
   have hzx4:wr.heap.size≤x4.heap.size:=HK4'.out.size
   have hpn:x4.heap.size≠AB∧x4.heap.size≠RB∧x4.heap.size≠CB∧x4.heap.size≠BB:=by omega
   clear hx5 hb5'
   obtain ⟨PB,hPB⟩:∃ PB,PB=x4.heap.size:=⟨_,rfl⟩
   rw [←hPB] at KP5 hpn ⊢
   have hPw:w8.heap.size≤PB:=by omega
   have hPr:wr.heap.size≤PB:=by omega
   clear hPB
   obtain ⟨hpn1,hpn2,hpn3,hpn4⟩:=hpn
   go_wp2_with fail
   refine (HGT.out x5 BB AB (20+24 * k+8+4+4+4) 4 HG5'.out hA1 hne1 (.inl rfl) (by have:=HN.out;omega)).mono ?_
   rintro e x6 ⟨rfl,hg,hkp⟩
   rw [HNU.out.2.2.2.2]
   have HG6':=Hd hg
   have HK6':=Hd (HK5'.out.trans hkp (fun _ _ e=>e))
   have KP6:=Hd ((hkp.block _ (blk_lt KP5.out) hpn1).trans KP5.out)
   clear hg hkp
   obtain ⟨G,hG⟩:∃ G,G=(if pg then 1 else 0):=⟨_,rfl⟩
   rw [←hG]
   have hg1:((G:Int) == 1)=pg:=by rw [hG];cases pg <;> rfl
   have hg2:decide ((1:Int)<(G:Int))=false:=by rw [hG];cases pg <;> rfl
   have hg3:decide (1<G)=false:=by rw [hG];cases pg <;> rfl
   have hG1:G≤1:=by rw [hG];cases pg <;> decide
   clear hG
   obtain ⟨q0,q1,q2,q3,q4⟩:=pcells KP6.out
   obtain ⟨s0,s1,s2,s3,s4⟩:=pfree KP6.out
   have hlp:=blk_lt KP6.out
   go_upto_region 25 with fail
   obtain ⟨x7,hx7⟩:∃ x7:World,x7=x6.setCell ⟨PB,4,none⟩ (.bool pg):=⟨_,rfl⟩
   have hk7:Keeps (fun j=>j=PB) x6 x7:=by rw [hx7];exact (Keeps.refl (fun j=>j=PB) x6).setCell ⟨PB,4,none⟩ _ (fun _=>rfl)
   have KP7:=Hd (show x7.heap[PB]? = some (.cells #[.int .u64 pk,.int .i64 po,.int .i64 pl,.int .u32 pc,.bool pg] 152 (0,0)) by
    rw [hx7]
    simpa using heap_setCell_same x6 PB 4 _ _ (.bool pg) KP6.out)
   have KC7':=Hd ((hk7.block _ (Nat.lt_of_lt_of_le (blk_lt KCR.out) HK6'.out.size) (Ne.symm hpn3)).trans ((HK6'.out.block _ (blk_lt KCR.out) hc1).trans KCR.out))
   have KR7':=Hd ((hk7.block _ (Nat.lt_of_lt_of_le (blk_lt KRR.out) HK6'.out.size) (Ne.symm hpn2)).trans ((HK6'.out.block _ (blk_lt KRR.out) hne2).trans KRR.out))
   have HG7':=Hd (show GB w BB AB bk o n cp x7 (20+24 * k+8+4+4+4+4) from ⟨(hk7.block _ (blk_lt HG6'.out.b) (Ne.symm hpn4)).trans HG6'.out.b,(hk7.block _ (blk_lt HG6'.out.a) (Ne.symm hpn1)).trans HG6'.out.a,by rw [hx7];exact HG6'.out.below.setCell (Nat.le_trans hz8 hPw) _⟩)
   have HRW7:=Hd (show x7.ownsRow w8.heap.size 152 5 (.slice aL k cL) k ((l.take k).flatMap psC) from ownsRow_keeps (F:=fun j=>j=PB) (ownsRow_keeps (F:=fun j=>j=AB) HRW.out HK6'.out (fun g e hf=>by have:=(HRW.out.lt g e).1;omega)) hk7 (fun g e hf=>by have:=(HRW.out.lt g e).2;omega))
   have hz67:=hk7.size
   rw [←hx7]
   clear hx7 hk7 q0 q1 q2 q3 q4 s0 s1 s2 s3 s4 hlp
   obtain ⟨q0,q1,q2,q3,q4⟩:=pcells KP7.out
   obtain ⟨y0,y1,y2,y3⟩:=ncells KC7'.out
   have hlp:=blk_lt KP7.out
   have hlc:=blk_lt KC7'.out
   have hz87:w8.heap.size≤x7.heap.size:=by omega
   go_upto_region 25 with fail
   go_wp2_with (at_builtin;refine wpList_append_lies _ rfl _ _ 61 rfl w8.heap.size 152 i0 (.agg #[.int .u64 0,.int .i64 0,.int .i64 0,.int .u32 0,.bool false]) 5 32 Tryz.underlying61 HI.out HZ0.out HZ1.out HZ2.out rfl (by decide) (.slice aL k cL) k ((l.take k).flatMap psC) rfl (ownsRow_below HRW7.out belo) ⟨x7.heap.size,0,none⟩ 1 1 [.int .u64 pk,.int .i64 po,.int .i64 pl,.int .u32 pc,.bool pg] rfl rfl (World.news_of_block (cs:=#[.int .u64 pk,.int .i64 po,.int .i64 pl,.int .u32 pc,.bool pg]) (t:=152) (fr:=(0,0)) (heap_new x7 _)) (by simp [Value.oneCell']) (by omega) (by unfold maxLen;omega) (by omega) (by simp;omega) _ rfl ?_;intro g' cap' x8 hown hgrow hat hlt8;have HG8':=Hd hgrow;have HO8:=Hd hown;have hz8':=hgrow.size;simp only [World.size_alloc] at hz8';clear hgrow hown hat;have HBX:=Hd (show Below w8.heap.size x7 x8 from Below.grown ((Below.refl w8.heap.size x7).alloc hz87 _) HG8'.out (by simp;omega) (fun g e=>(HRW7.out.lt g e).1));have KC8':=Hd ((HBX.out.block CB hCl).trans KC7'.out);obtain ⟨f0,f1,f2,f3⟩:=nfree KC8'.out;obtain ⟨z0,z1,z2,z3⟩:=ncells KC8'.out;have hlc8:=blk_lt KC8'.out)
   go_roundw
   case rel=>
    have hks:∀ u,Keeps (fun j=>j=CB) x8 (x8.setCell ⟨CB,3,none⟩ u):=fun u=>(Keeps.refl (fun j=>j=CB) x8).setCell ⟨CB,3,none⟩ _ (fun _=>rfl)
    refine ⟨k+1,some ⟨g',0,none⟩,cap',by omega,rfl,by go_num,?_,?_,⟨?_,?_,?_⟩,?_,?_⟩
    ·simpa using heap_setCell_same x8 CB 3 _ _ (.slice (some ⟨g',0,none⟩) (k+1) cap') KC8'.out
    ·refine ownsRow_cast (ownsRow_keeps (F:=fun j=>j=CB) HO8.out (hks _) (fun g e hf=>by have:=(HO8.out.lt g e).1;omega)) rfl ?_
     rw [List.take_add_one,HP.out,List.flatMap_append]
     simp [psC]
    ·exact ((hks _).block _ (by omega) (Ne.symm hc4)).trans ((HBX.out.block BB hBl).trans HG7'.out.b)
    ·exact ((hks _).block _ (by omega) (Ne.symm hc1)).trans ((HBX.out.block AB hAl).trans HG7'.out.a)
    ·exact (HG7'.out.below.trans (HBX.out.mono hz8)).setCell hc3 _
    ·exact ((hks _).block _ (by omega) (Ne.symm hc2)).trans ((HBX.out.block RB hRl).trans KR7'.out)
    ·have:=(hks (.slice (some ⟨g',0,none⟩) (k+1) cap')).size
     omega
   case measure=>simp [intOf];omega
  ·have hkl:ln=k:=by omega
   subst hkl
   have HRW2:=Hd (show wr.ownsRow w8.heap.size 152 5 (.slice aL ln cL) ln (l.flatMap psC) from ownsRow_cast HRW.out rfl (by rw [List.take_of_length_le (by rw [←HLN.out];exact Nat.le_refl _)]))
   obtain ⟨y0,y1,y2,y3⟩:=ncells KCR.out
   have hlc:=blk_lt KCR.out
   have hj1:¬ (ln:Int)<(ln:Int):=by omega
   clear hlt hk
   go_wp2_with fail
   refine (HRI.out wr aL cL (reads_of_owns HRW2.out)).mono ?_
   rintro e x1 ⟨rfl,hb1⟩
   rw [show errV ((0:Nat):Int)=.nilIface from rfl]
   have HX1:=Hd hb1
   have KCX:=Hd (blk_below' KCR.out hb1)
   have KRX:=Hd (blk_below' KRR.out hb1)
   clear hb1 y0 y1 y2 y3 hlc
   obtain ⟨y0,y1,y2,y3⟩:=ncells KCX.out
   obtain ⟨z0,z1,z2,z3⟩:=ncells KRX.out
   obtain ⟨f0,f1,f2,f3⟩:=nfree KRX.out
   have hlc:=blk_lt KCX.out
   have hlr:=blk_lt KRX.out
   go_wp2_with fail
   obtain ⟨wf,hwf⟩:∃ wf,wf=set4 x1 RB (.int .i64 vol) (.int .i64 gen) (.int .i64 upto) (.slice aL ln cL):=⟨_,rfl⟩
   have hkf:Keeps (fun j=>j=RB) x1 wf:=by
    rw [hwf];unfold set4
    exact ((((Keeps.refl (fun j=>j=RB) x1).setCell ⟨RB,0,none⟩ _ (fun _=>rfl)).setCell ⟨RB,1,none⟩ _ (fun _=>rfl)).setCell ⟨RB,2,none⟩ _ (fun _=>rfl)).setCell ⟨RB,3,none⟩ _ (fun _=>rfl)
   have hbf:Below w.heap.size x1 wf:=by rw [hwf];unfold set4;exact ((((Below.refl _ x1).setCell hR1 _).setCell hR1 _).setCell hR1 _).setCell hR1 _
   have kbf:=store4 KRX.out (.int .i64 vol) (.int .i64 gen) (.int .i64 upto) (.slice aL ln cL)
   rw [←hwf] at kbf
   unfold set4 at hwf
   rw [←hwf]
   clear hwf y0 y1 y2 y3 z0 z1 z2 z3 f0 f1 f2 f3
   obtain ⟨s0,s1,s2,s3⟩:=ncells kbf
   refine bodyPost_ret (v:=?_) ?_ rfl ?_
   rotate_left;(focus (simp [results,Tryz.results149,go_sem,s0,s1,s2,s3];exact rfl))
   refine ⟨aL,cL,rfl,?_,(HGR.out.below.trans (HX1.out.mono HGR.out.below.size)).trans hbf⟩
   exact ownsRow_mono (ownsRow_keeps (F:=fun j=>j=RB) (ownsRow_below HRW2.out HX1.out) hkf (fun g e hf=>by have:=(HRW2.out.lt g e).1;omega)) hz8
end Go.Proofs.YtfpjfoajonbndaaGreatDoor
