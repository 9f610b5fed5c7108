import Derived.Test.YtfpjfoajonbndaaGreatDoorCh9
import Derived.Test.YtfpjfoajonbndaaGreatDoorCh10
namespace Go.Proofs.YtfpjfoajonbndaaGreatDoor
set_option maxHeartbeats 8000000
set_option maxRecDepth 100000
open Go.RowKit
set_option maxRecDepth 100000
set_option maxHeartbeats 8000000
open Go.RowKit
theorem itoa_1(w:World):Calls Tryz.prog 84 #[.int .i64 1] w fun e w'=>e=.returned (.string ⟨#[49]⟩)∧w=w':=by
 go_enter Tryz.func84,Tryz.ntmps84
 go_wp2
 go_ret
 exact ⟨rfl,rfl⟩
theorem itoa_2(w:World):Calls Tryz.prog 84 #[.int .i64 2] w fun e w'=>e=.returned (.string ⟨#[50]⟩)∧w=w':=by
 go_enter Tryz.func84,Tryz.ntmps84
 go_wp2
 go_ret
 exact ⟨rfl,rfl⟩
theorem numN_1:numN 1=[49]:=by unfold numN Go.Lib.decDigits;rfl
theorem numN_2:numN 2=[50]:=by unfold numN Go.Lib.decDigits;rfl
def namesV (v g:Nat):Value:=.tuple #[.string ⟨(vName v g).toArray⟩,.string ⟨(cName v g).toArray⟩,.string ⟨(mName v).toArray⟩,.string ⟨(sName v).toArray⟩]
theorem names_1(w:World):Calls Tryz.prog 42 #[.int .i64 1,.int .i64 1] w fun e w'=>e=.returned (namesV 1 1)∧w=w':=by
 have HE:=Hd (show namesV 1 1=.tuple #[.string ⟨#[118,49,46,49]⟩,.string ⟨#[99,49,46,49]⟩,.string ⟨#[109,49]⟩,.string ⟨#[109,49,46,116]⟩] by simp [namesV,vName,cName,mName,sName,numN_1])
 rw [HE.out]
 go_enter Tryz.func42,Tryz.ntmps42
 go_wp2_with (go_at_call 84;refine (itoa_1 _).mono ?_;rintro e w' ⟨rfl,rfl⟩)
 refine bodyPost_ret (v:=?_) ?_ rfl ?_
 rotate_left;(focus (simp [results,Tryz.results42,go_sem];exact rfl))
 exact ⟨rfl,rfl⟩
theorem names_2(w:World):Calls Tryz.prog 42 #[.int .i64 2,.int .i64 1] w fun e w'=>e=.returned (namesV 2 1)∧w=w':=by
 have HE:=Hd (show namesV 2 1=.tuple #[.string ⟨#[118,50,46,49]⟩,.string ⟨#[99,50,46,49]⟩,.string ⟨#[109,50]⟩,.string ⟨#[109,50,46,116]⟩] by simp [namesV,vName,cName,mName,sName,numN_1,numN_2])
 rw [HE.out]
 go_enter Tryz.func42,Tryz.ntmps42
 go_wp2_with (go_at_call 84;first|(with_reducible refine (itoa_1 _).mono ?_;rintro e w' ⟨rfl,rfl⟩)|(with_reducible refine (itoa_2 _).mono ?_;rintro e w' ⟨rfl,rfl⟩))
 refine bodyPost_ret (v:=?_) ?_ rfl ?_
 rotate_left;(focus (simp [results,Tryz.results42,go_sem];exact rfl))
 exact ⟨rfl,rfl⟩
def NamesAt (v g:Nat):Prop:=∀ w:World,Calls Tryz.prog 42 #[.int .i64 v,.int .i64 g] w fun e w'=>e=.returned (namesV v g)∧w=w'
theorem hright_yes(v g e:Nat)(h:rightV v g e=true)(w:World):Calls Tryz.prog 86 #[.int .i64 v,.int .i64 g,.int .i64 e] w fun r w'=>r=.returned (.bool true)∧w=w':=by
 simp only [rightV,Bool.and_eq_true,decide_eq_true_eq] at h
 obtain ⟨h1,h2,h3,h4,h5⟩:=h
 have i0:(0:Int)≤(e:Int):=by omega
 have i1:(1:Int)≤(v:Int):=by omega
 have i2:(v:Int)≤65535:=by omega
 have i3:(1:Int)≤(g:Int):=by omega
 have i4:(g:Int)≤2147483647:=by omega
 have i5:(e:Int)≤2147483647:=by omega
 go_enter Tryz.func86,Tryz.ntmps86
 go_wp2
 go_ret
 exact ⟨rfl,rfl⟩
theorem wordsB_snoc(l:List Nat)(n:Nat):wordsB (l ++ [n])=wordsB l ++ le 4 n:=by
 unfold wordsB
 rw [List.flatMap_append,List.flatMap_cons,List.flatMap_nil,List.append_nil]
theorem words_any(b n c:Nat)(l:List Nat)(w:World)(hn:n=l.length)(hl:n≤100)(hc:∀ (i x:Nat),l[i]? = some x→w.cell? ⟨b,i,none⟩=some (.int .i64 x))(hb:b<w.heap.size)(h4:∀ x∈l,x<4294967296) :
  Calls Tryz.prog 87 #[.slice (some ⟨b,0,none⟩) n c] w fun e w'=>∃ v',e=.returned v'∧w'.ownsRow w.heap.size 5 1 v' (sealB (wordsB l)).length ((sealB (wordsB l)).map bv)∧Below w.heap.size w w':=by
 have HN:=Hd hn
 have HC:=Hd hc
 have H4:=Hd h4
 clear hn hc h4
 go_enter Tryz.func87,Tryz.ntmps87
 go_wp2_with fail
 go_loopw [3,8] (fun v i wr=>∃ j:Nat,j≤n∧i=.int .i64 j∧(∃ a cc,v=.slice a (4 * j) cc∧Reads wr 1 (.slice a (4 * j) cc) (4 * j) ((wordsB (l.take j)).map bv))∧Below w.heap.size w wr) (fun _ i _=>n - (intOf i).toNat)
 case atStart=>exact ⟨0,Nat.zero_le _,rfl,⟨none,0,rfl,⟨rfl,.inl ⟨rfl,rfl⟩⟩⟩,belo⟩
 case round=>
  obtain ⟨j,hj,rfl,⟨a,cc,rfl,hr⟩,hbl⟩:=hrel
  have HR:=Hd hr
  have HB:=Hd hbl
  have HWL:=Hd (show (wordsB (l.take j)).length=4 * j by rw [wordsB_len,List.length_take];have:=HN.out;omega)
  clear hr hbl
  by_cases hlt:j<n
  ·obtain ⟨x,hx⟩:∃ x,l[j]? = some x:=⟨_,List.getElem?_eq_getElem (by have:=HN.out;omega)⟩
   have hcx:wr.cell? ⟨b,j,none⟩=some (.int .i64 x):=by
    rw [HB.out.cell hb]
    exact HC.out j x hx
   have hx4:=H4.out x (List.mem_of_getElem? hx)
   have HX:=Hd hx
   clear hx
   go_wp2_with fail
   refine (put_4 (.slice a (4 * j) cc) (wordsB (l.take j)) x _ (by rw [HWL.out];exact HR.out) (by rw [HWL.out];omega) (by omega) (Nat.lt_of_lt_of_le hx4 (by decide))).mono ?_
   rintro e w1 ⟨v1,rfl,ho1,hb1⟩
   have ho1':=(show w1.ownsRow wr.heap.size 5 1 v1 (wordsB (l.take j) ++ le 4 x).length ((wordsB (l.take j) ++ le 4 x).map bv) from ho1)
   have hE:wordsB (l.take j) ++ le 4 x=wordsB (l.take (j+1)):=by
    rw [←wordsB_snoc,List.take_add_one,HX.out]
    rfl
   rw [hE,show (wordsB (l.take (j+1))).length=4 * (j+1) by rw [wordsB_len,List.length_take];have:=HN.out;omega] at ho1'
   obtain ⟨a1,c1,rfl,_⟩:=slice_of ho1'
   have HR1:=Hd (reads_of_owns ho1')
   have HB1:=Hd (HB.out.trans (hb1.mono HB.out.size))
   clear ho1 ho1' hb1 hE
   go_wp2_with fail
   go_round
   case rel=>exact ⟨j+1,by omega,by go_num,⟨a1,c1,rfl,HR1.out⟩,HB1.out⟩
   case measure=>simp [intOf];omega
  ·have hjn:j=n:=by omega
   subst hjn
   have HT:=Hd (show l.take j=l from List.take_of_length_le (by have:=HN.out;omega))
   go_wp2_with fail
   refine (seal_any (.slice a (4 * j) cc) (wordsB (l.take j)) _ (by rw [HWL.out];exact HR.out) (by rw [HWL.out];omega)).mono ?_
   rintro e w1 ⟨v1,rfl,ho1,hb1⟩
   have HO1:=Hd ho1
   have HB1:=Hd (HB.out.trans (hb1.mono HB.out.size))
   clear ho1 hb1
   go_wp2_with fail
   go_ret
   refine ⟨v1,rfl,?_,HB1.out⟩
   have h:=ownsRow_mono HO1.out HB.out.size
   rw [HT.out] at h
   exact h
theorem psuper_any(v g:Nat)(h:rightV v g 0=true)(w:World) :
  Calls Tryz.prog 45 #[.agg #[.int .i64 v,.int .i64 g]] w fun e w'=>∃ v',e=.returned (.tuple #[v',.nilIface])∧w'.ownsRow w.heap.size 5 1 v' 16 ((superB v g).map bv)∧Below w.heap.size w w':=by
 have HH:=Hd h
 have HL:=Hd (superB_len v g)
 simp only [rightV,Bool.and_eq_true,decide_eq_true_eq] at h
 obtain ⟨h1,h2,h3,h4,h5⟩:=h
 have h4':g<4294967296:=by omega
 have h2':v<4294967296:=by omega
 clear h1 h2 h3 h4 h5
 go_enter Tryz.func45,Tryz.ntmps45
 go_wp2_with (go_at_call 86;refine (hright_yes _ _ 0 HH.out _).mono ?_;rintro e w' ⟨rfl,rfl⟩)
 refine (words_any _ 3 3 [0x43524942,v,g] _ rfl (by omega) (fun i x hx=>by
  match i,hx with
  | 0,hx=>cases hx;go_simp
  | 1,hx=>cases hx;go_simp
  | 2,hx=>cases hx;go_simp
  | n+3,hx=>simp at hx) (by simp) (fun x hx=>by
  simp only [List.mem_cons,List.not_mem_nil,or_false] at hx
  rcases hx with rfl|rfl|rfl
  ·decide
  ·exact h2'
  ·exact h4')).mono ?_
 rintro e w1 ⟨v1,rfl,ho1,hb1⟩
 have HO1:=Hd ho1
 have HB1:=Hd (show Below w.heap.size w w1 from Below.trans belo (hb1.mono (by first|exact Nat.le_refl _|(simp;done)|(simp;omega))))
 clear ho1 hb1
 go_wp2_with fail
 go_ret2
 refine ⟨v1,rfl,?_,HB1.out⟩
 have:=ownsRow_mono HO1.out (show w.heap.size≤_ by first|exact Nat.le_refl _|(simp;done)|(simp;omega))
 exact ownsRow_cast this HL.out rfl
theorem pman_any(v g e:Nat)(sl:Bool)(h:rightV v g e=true)(w:World) :
  Calls Tryz.prog 94 #[.agg #[.int .i64 v,.int .i64 g,.int .i64 e,.bool sl]] w fun r w'=>∃ v',r=.returned (.tuple #[v',.nilIface])∧w'.ownsRow w.heap.size 5 1 v' 24 ((manB v g e sl).map bv)∧Below w.heap.size w w':=by
 have HH:=Hd h
 have HL:=Hd (manB_len v g e sl)
 simp only [rightV,Bool.and_eq_true,decide_eq_true_eq] at h
 obtain ⟨h1,h2,h3,h4,h5⟩:=h
 have h4':g<4294967296:=by omega
 have h2':v<4294967296:=by omega
 have h5':e<4294967296:=by omega
 clear h1 h2 h3 h4 h5
 cases sl
 ·go_enter Tryz.func94,Tryz.ntmps94
  go_wp2_with (go_at_call 86;refine (hright_yes _ _ _ HH.out _).mono ?_;rintro e w' ⟨rfl,rfl⟩)
  refine (words_any _ 5 5 [0x4D414E49,v,g,e,0] _ rfl (by omega) (fun i x hx=>by
   match i,hx with
   | 0,hx=>cases hx;go_simp
   | 1,hx=>cases hx;go_simp
   | 2,hx=>cases hx;go_simp
   | 3,hx=>cases hx;go_simp
   | 4,hx=>cases hx;go_simp
   | n+5,hx=>simp at hx) (by simp) (fun x hx=>by
   simp only [List.mem_cons,List.not_mem_nil,or_false] at hx
   rcases hx with rfl|rfl|rfl|rfl|rfl
   ·decide
   ·exact h2'
   ·exact h4'
   ·exact h5'
   ·decide)).mono ?_
  rintro r w1 ⟨v1,rfl,ho1,hb1⟩
  have HO1:=Hd ho1
  have HB1:=Hd (show Below w.heap.size w w1 from Below.trans belo (hb1.mono (by first|exact Nat.le_refl _|(simp;done)|(simp;omega))))
  clear ho1 hb1
  go_wp2_with fail
  go_ret2
  refine ⟨v1,rfl,?_,HB1.out⟩
  have:=ownsRow_mono HO1.out (show w.heap.size≤_ by first|exact Nat.le_refl _|(simp;done)|(simp;omega))
  exact ownsRow_cast this HL.out rfl
 ·go_enter Tryz.func94,Tryz.ntmps94
  go_wp2_with (go_at_call 86;refine (hright_yes _ _ _ HH.out _).mono ?_;rintro e w' ⟨rfl,rfl⟩)
  refine (words_any _ 5 5 [0x4D414E49,v,g,e,1] _ rfl (by omega) (fun i x hx=>by
   match i,hx with
   | 0,hx=>cases hx;go_simp
   | 1,hx=>cases hx;go_simp
   | 2,hx=>cases hx;go_simp
   | 3,hx=>cases hx;go_simp
   | 4,hx=>cases hx;go_simp
   | n+5,hx=>simp at hx) (by simp) (fun x hx=>by
   simp only [List.mem_cons,List.not_mem_nil,or_false] at hx
   rcases hx with rfl|rfl|rfl|rfl|rfl
   ·decide
   ·exact h2'
   ·exact h4'
   ·exact h5'
   ·decide)).mono ?_
  rintro r w1 ⟨v1,rfl,ho1,hb1⟩
  have HO1:=Hd ho1
  have HB1:=Hd (show Below w.heap.size w w1 from Below.trans belo (hb1.mono (by first|exact Nat.le_refl _|(simp;done)|(simp;omega))))
  clear ho1 hb1
  go_wp2_with fail
  go_ret2
  refine ⟨v1,rfl,?_,HB1.out⟩
  have:=ownsRow_mono HO1.out (show w.heap.size≤_ by first|exact Nat.le_refl _|(simp;done)|(simp;omega))
  exact ownsRow_cast this HL.out rfl
theorem itoa_3(w:World):Calls Tryz.prog 84 #[.int .i64 3] w fun e w'=>e=.returned (.string ⟨#[51]⟩)∧w=w':=by
 go_enter Tryz.func84,Tryz.ntmps84
 go_wp2
 go_ret
 exact ⟨rfl,rfl⟩
theorem numN_3:numN 3=[51]:=by unfold numN Go.Lib.decDigits;rfl
theorem names_3(w:World):Calls Tryz.prog 42 #[.int .i64 3,.int .i64 1] w fun e w'=>e=.returned (namesV 3 1)∧w=w':=by
 have HE:=Hd (show namesV 3 1=.tuple #[.string ⟨#[118,51,46,49]⟩,.string ⟨#[99,51,46,49]⟩,.string ⟨#[109,51]⟩,.string ⟨#[109,51,46,116]⟩] by simp [namesV,vName,cName,mName,sName,numN_1,numN_3])
 rw [HE.out]
 go_enter Tryz.func42,Tryz.ntmps42
 go_wp2_with (go_at_call 84;first|(with_reducible refine (itoa_1 _).mono ?_;rintro e w' ⟨rfl,rfl⟩)|(with_reducible refine (itoa_3 _).mono ?_;rintro e w' ⟨rfl,rfl⟩))
 refine bodyPost_ret (v:=?_) ?_ rfl ?_
 rotate_left;(focus (simp [results,Tryz.results42,go_sem];exact rfl))
 exact ⟨rfl,rfl⟩
theorem namesAt3{v:Nat}(h:v=1∨v=2∨v=3):NamesAt v 1:=by
 rcases h with rfl|rfl|rfl
 ·exact names_1
 ·exact names_2
 ·exact names_3
theorem itoa_0(w:World):Calls Tryz.prog 84 #[.int .i64 0] w fun e w'=>e=.returned (.string ⟨#[48]⟩)∧w=w':=by
 go_enter Tryz.func84,Tryz.ntmps84
 go_wp2
 go_ret
 exact ⟨rfl,rfl⟩
theorem numN_0:numN 0=[48]:=by unfold numN Go.Lib.decDigits;rfl
theorem itoa_4(w:World):Calls Tryz.prog 84 #[.int .i64 4] w fun e w'=>e=.returned (.string ⟨#[52]⟩)∧w=w':=by
 go_enter Tryz.func84,Tryz.ntmps84
 go_wp2
 go_ret
 exact ⟨rfl,rfl⟩
theorem numN_4:numN 4=[52]:=by unfold numN Go.Lib.decDigits;rfl
theorem itoa_5(w:World):Calls Tryz.prog 84 #[.int .i64 5] w fun e w'=>e=.returned (.string ⟨#[53]⟩)∧w=w':=by
 go_enter Tryz.func84,Tryz.ntmps84
 go_wp2
 go_ret
 exact ⟨rfl,rfl⟩
theorem numN_5:numN 5=[53]:=by unfold numN Go.Lib.decDigits;rfl
theorem itoa_6(w:World):Calls Tryz.prog 84 #[.int .i64 6] w fun e w'=>e=.returned (.string ⟨#[54]⟩)∧w=w':=by
 go_enter Tryz.func84,Tryz.ntmps84
 go_wp2
 go_ret
 exact ⟨rfl,rfl⟩
theorem numN_6:numN 6=[54]:=by unfold numN Go.Lib.decDigits;rfl
theorem itoa_7(w:World):Calls Tryz.prog 84 #[.int .i64 7] w fun e w'=>e=.returned (.string ⟨#[55]⟩)∧w=w':=by
 go_enter Tryz.func84,Tryz.ntmps84
 go_wp2
 go_ret
 exact ⟨rfl,rfl⟩
theorem numN_7:numN 7=[55]:=by unfold numN Go.Lib.decDigits;rfl
theorem itoa_8(w:World):Calls Tryz.prog 84 #[.int .i64 8] w fun e w'=>e=.returned (.string ⟨#[56]⟩)∧w=w':=by
 go_enter Tryz.func84,Tryz.ntmps84
 go_wp2
 go_ret
 exact ⟨rfl,rfl⟩
theorem numN_8:numN 8=[56]:=by unfold numN Go.Lib.decDigits;rfl
theorem itoa_9(w:World):Calls Tryz.prog 84 #[.int .i64 9] w fun e w'=>e=.returned (.string ⟨#[57]⟩)∧w=w':=by
 go_enter Tryz.func84,Tryz.ntmps84
 go_wp2
 go_ret
 exact ⟨rfl,rfl⟩
theorem numN_9:numN 9=[57]:=by unfold numN Go.Lib.decDigits;rfl
theorem itoa_d{d:Nat}(h:d≤9)(w:World):Calls Tryz.prog 84 #[.int .i64 d] w fun e w'=>e=.returned (.string ⟨(numN d).toArray⟩)∧w=w':=by
 have h':d=0∨d=1∨d=2∨d=3∨d=4∨d=5∨d=6∨d=7∨d=8∨d=9:=by omega
 rcases h' with rfl|rfl|rfl|rfl|rfl|rfl|rfl|rfl|rfl|rfl
 ·rw [numN_0];exact itoa_0 w
 ·rw [numN_1];exact itoa_1 w
 ·rw [numN_2];exact itoa_2 w
 ·rw [numN_3];exact itoa_3 w
 ·rw [numN_4];exact itoa_4 w
 ·rw [numN_5];exact itoa_5 w
 ·rw [numN_6];exact itoa_6 w
 ·rw [numN_7];exact itoa_7 w
 ·rw [numN_8];exact itoa_8 w
 ·rw [numN_9];exact itoa_9 w
theorem numN_d{d:Nat}(h:d≤9):∃ x,numN d=[x]:=by
 have h':d=0∨d=1∨d=2∨d=3∨d=4∨d=5∨d=6∨d=7∨d=8∨d=9:=by omega
 rcases h' with rfl|rfl|rfl|rfl|rfl|rfl|rfl|rfl|rfl|rfl
 ·exact ⟨_,numN_0⟩
 ·exact ⟨_,numN_1⟩
 ·exact ⟨_,numN_2⟩
 ·exact ⟨_,numN_3⟩
 ·exact ⟨_,numN_4⟩
 ·exact ⟨_,numN_5⟩
 ·exact ⟨_,numN_6⟩
 ·exact ⟨_,numN_7⟩
 ·exact ⟨_,numN_8⟩
 ·exact ⟨_,numN_9⟩
theorem namesAt9{v g:Nat}(hv:v≤9)(hg:g≤9):NamesAt v g:=by
 intro w
 have HV:=Hd (fun w0=>itoa_d hv w0)
 have HG:=Hd (fun w0=>itoa_d hg w0)
 obtain ⟨x,hx⟩:=numN_d hv
 obtain ⟨y,hy⟩:=numN_d hg
 have HE:=Hd (show namesV v g=.tuple #[.string ⟨#[118,x,46,y]⟩,.string ⟨#[99,x,46,y]⟩,.string ⟨#[109,x]⟩,.string ⟨#[109,x,46,116]⟩] by simp [namesV,vName,cName,mName,sName,hx,hy])
 rw [HE.out]
 rw [hx] at HV
 rw [hy] at HG
 clear hx hy hv hg
 go_enter Tryz.func42,Tryz.ntmps42
 go_wp2_with fail
 refine (HV.out _).mono ?_
 rintro e wx ⟨rfl,rfl⟩
 go_wp2_with fail
 refine (HG.out _).mono ?_
 rintro e wx ⟨rfl,rfl⟩
 go_wp2_with fail
 refine bodyPost_ret (v:=?_) ?_ rfl ?_
 rotate_left;(focus (simp [results,Tryz.results42,go_sem];exact rfl))
 exact ⟨rfl,rfl⟩
end Go.Proofs.YtfpjfoajonbndaaGreatDoor
