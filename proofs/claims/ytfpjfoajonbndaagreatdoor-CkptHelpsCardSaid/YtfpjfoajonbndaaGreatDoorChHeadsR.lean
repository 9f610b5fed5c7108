import Derived.Test.YtfpjfoajonbndaaGreatDoorCh15
import Derived.Test.YtfpjfoajonbndaaGreatDoorCh11
namespace Go.Proofs.YtfpjfoajonbndaaGreatDoor
set_option maxHeartbeats 8000000
set_option maxRecDepth 100000
open Go.RowKit
set_option maxRecDepth 100000
set_option maxHeartbeats 8000000
open Go.RowKit
theorem words_at(l:List Nat)(r:List UInt8){i x:Nat}(hx:l[i]? = some x)(h4:x<4294967296):numAt (sealB (wordsB l) ++ r) (4 * i) 4=x:=by
 obtain ⟨hi,hx'⟩:=List.getElem?_eq_some_iff.1 hx
 have e:wordsB l=wordsB (l.take i) ++ le 4 x ++ wordsB (l.drop (i+1)):=by
  rw [←wordsB_snoc]
  unfold wordsB
  rw [←List.flatMap_append]
  congr 1
  rw [←hx',List.append_assoc,List.singleton_append,List.getElem_cons_drop,List.take_append_drop]
 have hl:(wordsB (l.take i)).length=4 * i:=by rw [wordsB_len,List.length_take];omega
 unfold sealB
 rw [e,show ∀ a b c d f:List UInt8,a ++ b ++ c ++ d ++ f=a ++ b ++ (c ++ d ++ f) from fun a b c d f=>by simp,numAt_mid hl (le_len _ _),leNat_le]
 exact Nat.mod_eq_of_lt (by simpa using h4)
theorem seal_sum(x:List UInt8):numAt (sealB x) x.length 4=(sumOf x).toNat:=by
 have e:sealB x=x ++ le 4 (sumOf x).toNat ++ []:=by simp [sealB]
 rw [e,numAt_mid rfl (le_len _ _),leNat_le]
 exact Nat.mod_eq_of_lt (by have:=(sumOf x).toNat_lt;simpa using this)
theorem sopen_good(bk o n c:Nat)(x:List UInt8)(w:World)(h:Reads w 1 (.slice (some ⟨bk,o,none⟩) n c) n ((sealB x).map bv))(hb:x.length+4=n)(hc:n≤c)(hn:n≤70368744177664) :
  Calls Tryz.prog 147 #[.slice (some ⟨bk,o,none⟩) n c] w fun e w'=>∃ v',e=.returned (.tuple #[v',.nilIface])∧Below w.heap.size w w':=by
 have hsl:(sealB x).length=n:=by simp [sealB,le_len];omega
 have HR:=Hd h
 have HNC:=Hd hc
 obtain ⟨K,hK⟩:∃ K,K=x.length:=⟨_,rfl⟩
 have hnk:n=K+4:=by omega
 subst hnk
 obtain ⟨hr1,hrd1⟩:=btake h hsl hc K (by omega)
 have htk:(sealB x).take K=x:=by rw [hK];unfold sealB;exact List.take_left
 rw [htk] at hrd1
 have HRD:=Hd hrd1
 have HG:=Hd (show ∀ w0:World,Below w.heap.size w w0→Calls Tryz.prog 125 #[.slice (some ⟨bk,o,none⟩) (K+4) c,.int .i64 K,.int .i64 4] w0 fun e w'=>e=.returned (.tuple #[.int .u64 (sumOf x).toNat,.nilIface])∧Below w0.heap.size w0 w' from fun w0 hb0=>by
  have:=get_any (some ⟨bk,o,none⟩) (K+4) c K 4 (sealB x) w0 (HR.out.below hb0) hsl hc (.inl rfl) (by omega) hn
  rw [show numAt (sealB x) K 4=(sumOf x).toNat by rw [hK];exact seal_sum x] at this
  exact this)
 have HO:=Hd (show ∀ w0:World,Below w.heap.size w w0→Calls Tryz.prog 127 #[.slice (some ⟨bk,o,none⟩) K c] w0 fun e w'=>e=.returned (.int .u32 (sumOf x).toNat)∧Below w0.heap.size w0 w' from fun w0 hb0=>of_any _ x w0 (by rw [←hK];exact HRD.out.below hb0))
 have HCL:=Hd (show ∀ w0:World,Below w.heap.size w w0→Calls Tryz.prog 165 #[.slice (some ⟨bk,o,none⟩) K c] w0 (CloneOut w0 5 1 (.slice (some ⟨bk,o,none⟩) K c) K (x.map bv)) from fun w0 hb0=>clone_Byte _ K _ w0 (HRD.out.below hb0) (fun u hu=>by obtain ⟨y,_,rfl⟩:=List.mem_map.1 hu;rfl) (by omega))
 obtain ⟨S,hS⟩:∃ S,S=(sumOf x).toNat:=⟨_,rfl⟩
 have hSl:S<4294967296:=by rw [hS];exact (sumOf x).toNat_lt
 rw [←hS] at HG HO
 have hw:IntKind.u64.wrap (S:Int)=(S:Int):=by rw [IntKind.wrap_u64];omega
 have hne:((S:Int) != (S:Int))=false:=by simp
 have hk0:decide ((K:Int)<0)=false:=by simp
 have hk1:(((K+4:Nat):Int) - 4)=(K:Int):=by omega
 clear h hb hsl hrd1 htk hK hS hc
 go_enter Tryz.func147,Tryz.ntmps147
 go_wp2_with fail
 refine (HG.out _ belo).mono ?_
 rintro e w1 ⟨rfl,hb1⟩
 have HB1:=Hd hb1
 clear hb1
 go_wp2_with fail
 refine (HO.out _ HB1.out).mono ?_
 rintro e w2 ⟨rfl,hb2⟩
 have HB2:=Hd (HB1.out.trans (hb2.mono HB1.out.size))
 clear hb2
 go_wp2_with fail
 refine (HCL.out _ HB2.out).mono ?_
 rintro e w3 ⟨v3,rfl,-,-,hb3⟩
 have HB3:=Hd (HB2.out.trans (hb3.mono HB2.out.size))
 clear hb3
 go_wp2_with fail
 go_ret2
 exact ⟨_,rfl,HB3.out⟩
theorem intInfo:(Tryz.prog.info? 3).map (fun i=>(i.zero,i.size,i.bytes))=some (some (.int .i64 0),1,8):=by kernel_rfl
def iv (x:Nat):Value:=.int .i64 x
def WordsTo (w:World) (l:List Nat) (e:Ending) (w':World):Prop:=
 ∃ g cap,e=.returned (.tuple #[.slice (some ⟨g,1,none⟩) (l.length - 1) cap,.nilIface])∧l.length - 1≤cap∧(∀ (i x:Nat),l[i]? = some x→w'.cell? ⟨g,i,none⟩=some (iv x))∧w.heap.size≤g∧g<w'.heap.size∧Below w.heap.size w w'
theorem hread_good(bk o n c:Nat)(l:List Nat)(r:List UInt8)(L m:Nat)(w:World)(h:Reads w 1 (.slice (some ⟨bk,o,none⟩) n c) n ((sealB (wordsB l) ++ r).map bv))(hlen:(sealB (wordsB l) ++ r).length=n)(hc:n≤c)(hn:n≤70368744177664)(S:Nat)(hS:S=4 * L+4)(hL:L=l.length)(hl2:2≤L∧L≤100)(h4:∀ x∈l,x<4294967296)(hm:l[0]? = some m) :
  Calls Tryz.prog 107 #[.slice (some ⟨bk,o,none⟩) n c,.int .i64 S,.int .i64 m] w (WordsTo w l):=by
 obtain ⟨i0,hi,hzz0,hzz1,hzz2⟩:=info_parts intInfo
 have HI:=Hd hi
 have HZ0:=Hd hzz0
 have HZ1:=Hd hzz1
 have HZ2:=Hd hzz2
 have HR:=Hd h
 have HLN:=Hd hlen
 have HNC:=Hd hc
 have HLL:=Hd hL
 have H4:=Hd h4
 have HM:=Hd hm
 have hwl:(wordsB l).length=4 * L:=by rw [wordsB_len,hL]
 have hsl:(sealB (wordsB l)).length=4 * L+4:=by simp [sealB,le_len,hwl]
 have hN:4 * L+4≤n:=by rw [←hlen,List.length_append,hsl];omega
 obtain ⟨hr1,hrd1⟩:=btake h hlen hc (4 * L+4) hN
 have htk:(sealB (wordsB l) ++ r).take (4 * L+4)=sealB (wordsB l):=by rw [←hsl];exact List.take_left
 rw [htk] at hrd1
 rw [←hS] at hr1 hrd1
 have HRD:=Hd hrd1
 have HG:=Hd (show ∀ (w0:World) (j x:Nat),Below w.heap.size w w0→l[j]? = some x→Calls Tryz.prog 125 #[.slice (some ⟨bk,o,none⟩) n c,.int .i64 (4 * (j:Int)),.int .i64 4] w0 fun e w'=>e=.returned (.tuple #[.int .u64 x,.nilIface])∧Below w0.heap.size w0 w' from fun w0 j x hb0 hx=>by
  have hj:j<L:=by rw [hL];exact (List.getElem?_eq_some_iff.1 hx).1
  have:=get_any (some ⟨bk,o,none⟩) n c (4 * j) 4 (sealB (wordsB l) ++ r) w0 (HR.out.below hb0) hlen hc (.inl rfl) (by omega) hn
  rw [words_at l r hx (h4 x (List.mem_of_getElem? hx)),show ((4 * j:Nat):Int)=4 * (j:Int) by omega] at this
  exact this)
 have HO:=Hd (show ∀ w0:World,Below w.heap.size w w0→Calls Tryz.prog 147 #[.slice (some ⟨bk,o,none⟩) S c] w0 fun e w'=>∃ v',e=.returned (.tuple #[v',.nilIface])∧Below w0.heap.size w0 w' from fun w0 hb0=>sopen_good bk o S c (wordsB l) w0 (HRD.out.below hb0) (by rw [hwl,hS]) (by omega) (by omega))
 have hd0:decide ((n:Int)<(S:Int))=false:=by simp;omega
 have hd2:decide (n<S)=false:=by simp;omega
 have HSS:=Hd hS
 have hSb1:12≤S:=by omega
 have hSb2:S≤404:=by omega
 have hmm:((m:Int) != (m:Int))=false:=by simp
 clear h hlen hc hL h4 hm hwl hsl hrd1 htk hi hzz0 hzz1 hzz2 hS
 go_enter Tryz.func107,Tryz.ntmps107
 go_wp2_with fail
 go_loopw [8,9] (fun s i wr=>∃(k:Nat)(aL:Option Addr)(cL:Nat),k≤L∧i=.int .i64 (4 * (k:Int))∧s=.slice aL k cL∧wr.ownsRow w.heap.size 3 1 (.slice aL k cL) k ((l.take k).map iv)∧Below w.heap.size w wr) (fun _ i _=>4 * L - (intOf i).toNat)
 case atStart=>exact ⟨0,none,0,Nat.zero_le _,rfl,rfl,World.ownsRow_nil _ _ _ _,Below.refl _ _⟩
 case round=>
  obtain ⟨k,aL,cL,hk,rfl,rfl,hrw,hbr⟩:=hrel
  have HRW:=Hd hrw
  have HBR:=Hd hbr
  have hzr:=hbr.size
  clear hrw hbr
  by_cases hlt:k<L
  ·obtain ⟨x,hx⟩:∃ x,l[k]? = some x:=⟨_,List.getElem?_eq_getElem (by rw [←HLL.out];exact hlt)⟩
   have hx4:=H4.out x (List.mem_of_getElem? hx)
   have HX:=Hd hx
   clear hx
   have hj1:4 * (k:Int)<(S:Int) - 4:=by have:=HSS.out;omega
   go_wp2_with fail
   refine (HG.out _ k x HBR.out HX.out).mono ?_
   rintro e w1 ⟨rfl,hb1⟩
   have HB1:=Hd (HBR.out.trans (hb1.mono hzr))
   have HRW1:=Hd (ownsRow_below HRW.out hb1)
   have hz1:=HB1.out.size
   have hcv:IntKind.i64.wrap (x:Int)=(x:Int):=by rw [IntKind.wrap_i64];omega
   clear hb1
   go_wp2_with (at_builtin;refine wpList_append_lies _ rfl _ _ 196 rfl w.heap.size 3 i0 (.int .i64 0) 1 8 Tryz.underlying196 HI.out HZ0.out HZ1.out HZ2.out rfl (by decide) (.slice aL k cL) k ((l.take k).map iv) rfl (ownsRow_below HRW1.out belo) ⟨w1.heap.size,0,none⟩ 1 1 [.int .i64 x] rfl rfl (World.news_of_block (cs:=#[.int .i64 x]) (t:=3) (fr:=(0,0)) (heap_new w1 _)) (by simp [Value.oneCell']) (by omega) (by unfold maxLen;omega) (by omega) (by simp;omega) _ rfl ?_;intro g' cap' w6 hown hgrow hat hlt6;have HG6:=Hd hgrow;have HO6:=Hd hown;have hz6:=hgrow.size;simp only [World.size_alloc] at hz6;clear hgrow hown hat)
   go_roundw
   case rel=>
    refine ⟨k+1,some ⟨g',0,none⟩,cap',by omega,by go_num,rfl,?_,?_⟩
    ·refine ownsRow_cast HO6.out rfl ?_
     rw [List.take_add_one,HX.out,List.map_append]
     rfl
    ·exact Below.grown (HB1.out.alloc hz1 _) HG6.out (by simp;omega) (fun g e=>(HRW1.out.lt g e).1)
   case measure=>simp [intOf];omega
  ·have hj1:¬ 4 * (k:Int)<(S:Int) - 4:=by have:=HSS.out;omega
   have hkL:k=L:=by omega
   subst hkL
   have HTL:=Hd (show l.take k=l from List.take_of_length_le (by rw [←HLL.out];exact Nat.le_refl _))
   obtain ⟨g,hag,hkc,hg2,hcell⟩:∃ g,aL=some ⟨g,0,none⟩∧k≤cL∧g<wr.heap.size∧∀ (i x:Nat),l[i]? = some x→wr.cell? ⟨g,i,none⟩=some (iv x):=by
    obtain ⟨g,o',c',e,hg2,_,hcell⟩:=reads_at (reads_of_owns HRW.out) (by omega) (by omega)
    obtain ⟨rfl,-,rfl⟩:=sl_inj e
    obtain ⟨a2,c2,e2,hkc⟩:=slice_of HRW.out
    obtain ⟨rfl,-,rfl⟩:=sl_inj e2
    rcases HRW.out.2 with ⟨h2,h3⟩|⟨g3,cap3,cur3,h2,_⟩
    ·cases h2
    ·obtain ⟨h4,-,-⟩:=sl_inj h2
     injection h4 with h4
     injection h4 with h4 h5
     subst h4 h5
     refine ⟨g,rfl,hkc,hg2,fun i x hx=>?_⟩
     have:=hcell i (iv x) (by rw [HTL.out,List.getElem?_map,hx];rfl)
     rwa [Nat.zero_add] at this
   subst hag
   have hg1:=(HRW.out.lt g rfl).1
   have HCELL:=Hd hcell
   have r0:=hcell 0 m HM.out
   unfold iv at r0
   have hk0:(0:Int)<(k:Int):=by omega
   clear hcell
   go_upto_region 11 with fail
   go_wp2_with fail
   refine (HO.out _ HBR.out).mono ?_
   rintro e w1 ⟨v1,rfl,hb1⟩
   have HB1:=Hd (HBR.out.trans (hb1.mono hzr))
   have HC1:=Hd (show ∀ (i x:Nat),l[i]? = some x→w1.cell? ⟨g,i,none⟩=some (iv x) from fun i x hx=>(hb1.cell hg2).trans (HCELL.out i x hx))
   have hz1:=hb1.size
   have hsi:∀ W,(Instr.slice 196 (.slice (some ⟨g,0,none⟩) k cL) (some (.int .i64 1)) none none).run Tryz.prog W=.ok (.slice (some ⟨g,1,none⟩) (k - 1) (cL - 1)) W:=fun W=>by
    have hs:∀ W,(sizeOf 3).run Tryz.prog W=.ok 1 W:=fun W=>by kernel_rfl
    simp [Instr.slice,run_underlying Tryz.underlying196,Instr.sliceBounds,run_sliceBound,hs,Result.andThen,(by omega:(1:Int)≤(k:Int)),(by omega:(k:Int)≤(cL:Int)),Addr.add]
    omega
   clear hb1
   go_wp2_with fail
   go_ret2
   refine ⟨g,cL - 1,by rw [←HLL.out];rfl,by rw [←HLL.out];omega,HC1.out,hg1,by omega,HB1.out⟩
end Go.Proofs.YtfpjfoajonbndaaGreatDoor
