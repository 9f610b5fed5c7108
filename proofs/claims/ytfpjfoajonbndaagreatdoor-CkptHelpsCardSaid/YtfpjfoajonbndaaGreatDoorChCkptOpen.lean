import Derived.Test.YtfpjfoajonbndaaGreatDoorChVolTidy
import Derived.Laws.Externs
import Derived.Lib.Bytealg
import Derived.Test.YtfpjfoajonbndaaGreatDoorCh24
import Derived.Test.YtfpjfoajonbndaaGreatDoorCh10
import Derived.Test.YtfpjfoajonbndaaGreatDoorCh21
import Derived.Test.YtfpjfoajonbndaaGreatDoorChMadeR10
import Derived.Test.YtfpjfoajonbndaaGreatDoorCh19
import Derived.Test.YtfpjfoajonbndaaGreatDoorChDiskNames
import Derived.Test.YtfpjfoajonbndaaGreatDoorChCkptK
import Derived.Test.YtfpjfoajonbndaaGreatDoorCh18
import Derived.Test.YtfpjfoajonbndaaGreatDoorCh23
import Derived.Test.YtfpjfoajonbndaaGreatDoorChCkptCr
namespace Go.Proofs.YtfpjfoajonbndaaGreatDoor
set_option maxHeartbeats 8000000
set_option maxRecDepth 100000
open Go.RowKit
set_option maxRecDepth 100000
set_option maxHeartbeats 8000000
open Go.RowKit
theorem sindexbyte_any(s:ByteArray)(c:Int)(w:World) :
  Calls Tryz.prog 208 #[.string s,.int .u8 c] w fun e w'=>e=.returned (.int .i64 (Lib.indexByte s.data.toList c.toNat.toUInt8))∧w=w':=by
 go_enter Tryz.func208,Tryz.ntmps208
 go_wp2
 rw [run_callFunc_extern Tryz.func214 (by kernel_rfl) (by kernel_rfl) (by kernel_rfl) (e:=Extern.BytealgIndexByte.indexByte) (by kernel_rfl),Lib.run_indexByteString]
 simp only [Result.andThen]
 rw [Oper.upon_value]
 go_wp2
 go_ret
 exact ⟨rfl,rfl⟩
theorem bytes_ext(l:List UInt8)(i j:Nat):(ByteArray.mk l.toArray).extract i j=⟨((l.drop i).take (j - i)).toArray⟩:=by
 apply ByteArray.ext
 simp
theorem indexByte_at(c:UInt8):∀ (a b:List UInt8),(∀ x∈a,x≠c)→Lib.indexByte (a ++ c :: b) c=(a.length:Int)
 | [],b,_=>by simp [Lib.indexByte]
 | x :: r,b,h=>by
  have h1:=indexByte_at c r b fun y hy=>h y (List.mem_cons_of_mem _ hy)
  have h2:(x == c)=false:=by simpa using h x List.mem_cons_self
  simp only [List.cons_append,Lib.indexByte,h2,h1,List.length_cons]
  simp
theorem sindex_one(l:List UInt8)(c:UInt8)(w:World)(hn:([c] == l)=false) :
  Calls Tryz.prog 201 #[.string ⟨l.toArray⟩,.string ⟨#[c]⟩] w fun e w'=>e=.returned (.int .i64 (Lib.indexByte l c))∧w=w':=by
 have h1:∀ w0,Calls Tryz.prog 208 #[.string ⟨l.toArray⟩,.int .u8 ((c.toNat:Nat):Int)] w0 fun e w'=>e=.returned (.int .i64 (Lib.indexByte l c))∧w0=w':=fun w0=>by
  have:=sindexbyte_any ⟨l.toArray⟩ (c.toNat:Int) w0
  rw [show ((c.toNat:Int).toNat.toUInt8)=c by simp] at this
  exact this
 go_enter Tryz.func201,Tryz.ntmps201
 go_wp2_with fail
 refine (show Calls Tryz.prog 208 #[.string ⟨l.toArray⟩,.int .u8 ((c.toNat:Nat):Int)] w _ from h1 w).mono ?_
 rintro e wx ⟨rfl,rfl⟩
 go_wp2
 go_ret
 exact ⟨rfl,rfl⟩
theorem slcut_at(a b:List UInt8)(w:World)(ha:∀ x∈a,x≠46)(hl:(a ++ 46 :: b).length≤1000000)(hn:([46] == a ++ 46 :: b)=false) :
  Calls Tryz.prog 184 #[.string ⟨(a ++ 46 :: b).toArray⟩,.string ⟨#[46]⟩] w fun e w'=>e=.returned (.tuple #[.string ⟨a.toArray⟩,.string ⟨b.toArray⟩,.bool true])∧Below w.heap.size w w':=by
 have h1:=Hd (fun w0=>sindex_one (a ++ 46 :: b) 46 w0 hn)
 rw [indexByte_at 46 a b ha] at h1
 obtain ⟨l,hL⟩:∃ l,l=a ++ 46 :: b:=⟨_,rfl⟩
 rw [←hL] at h1 hl ⊢
 obtain ⟨k,hk⟩:∃ k,k=a.length:=⟨_,rfl⟩
 rw [←hk] at h1
 have c2:k≤l.length:=by rw [hL,hk,List.length_append];omega
 have c4:k+1≤l.length:=by rw [hL,hk,List.length_append,List.length_cons];omega
 have c5:(0:Int)≤(k:Int):=by omega
 have c6:(k:Int)≤(l.length:Int):=by omega
 have c7:(0:Int)≤(k:Int)+1:=by omega
 have c8:(k:Int)+1≤(l.length:Int):=by omega
 have hw:IntKind.i64.wrap ((k:Int)+1)=(k:Int)+1:=by rw [IntKind.wrap_i64];omega
 have HE1:=Hd (show l.take k=a by rw [hL,hk];simp)
 have HE2:=Hd (show l.drop (k+1)=b by rw [hL,hk];simp)
 clear hn ha hL hk
 go_enter Tryz.func184,Tryz.ntmps184
 go_wp2_with fail
 refine (h1.out w).mono ?_
 rintro e wx ⟨rfl,rfl⟩
 go_upto_region 3 with fail
 refine wp_region_mask0 (fun w1=>w1=_) [] [0,0,3,0,0,0,32,112,248,7,1023,2047] (.op 0 0 (.op 1 0 (.op 2 0 (.op 3 0 (.op 4 0 (.op 5 0 (.op 6 0 (.op 7 0 (.op 8 0 (.op 9 0 (.op 10 0 (.op 11 0 .nil)))))))))))) (by kernel_rfl) (by kernel_rfl) rfl (by kernel_rfl) (by kernel_rfl) rfl ?_
 (iterate 12 refine stepM0 rfl rfl fun K hK=>?_;go_simp;refine hK _ ?_;clear hK K)
 try refine stepMnil0 ?_
 go_wp2
 go_ret3
 refine ⟨?_,belo⟩
 have e1:(ByteArray.mk l.toArray).extract 0 k=⟨a.toArray⟩:=by rw [bytes_ext,←HE1.out];simp
 have e2:(ByteArray.mk l.toArray).extract (k+1) l.length=⟨b.toArray⟩:=by rw [bytes_ext,←HE2.out,List.take_of_length_le (by rw [List.length_drop];omega)]
 rw [←e1,←e2]
 rfl
theorem scut_at(a b:List UInt8)(w:World)(ha:∀ x∈a,x≠46)(hl:(a ++ 46 :: b).length≤1000000)(hn:([46] == a ++ 46 :: b)=false) :
  Calls Tryz.prog 151 #[.string ⟨(a ++ 46 :: b).toArray⟩,.string ⟨#[46]⟩] w fun e w'=>e=.returned (.tuple #[.string ⟨a.toArray⟩,.string ⟨b.toArray⟩,.bool true])∧Below w.heap.size w w':=by
 have h1:=Hd (slcut_at a b w ha hl hn)
 obtain ⟨l,hL⟩:∃ l,l=a ++ 46 :: b:=⟨_,rfl⟩
 rw [←hL] at h1 ⊢
 clear hn ha hL hl
 go_enter Tryz.func151,Tryz.ntmps151
 go_wp2_with fail
 refine h1.out.mono ?_
 rintro e w1 ⟨rfl,hb⟩
 have HB:=Hd hb
 clear hb
 go_wp2
 go_ret3
 exact ⟨rfl,HB.out⟩
theorem slprefix_any(s p:List UInt8)(w:World)(hs:s.length≤1000000)(hp:p.length≤s.length) :
  Calls Tryz.prog 185 #[.string ⟨s.toArray⟩,.string ⟨p.toArray⟩] w fun e w'=>e=.returned (.bool (s.take p.length == p))∧w=w':=by
 have c1:(p.length:Int)≤(s.length:Int):=by omega
 have c2:(0:Int)≤(p.length:Int):=by omega
 go_enter Tryz.func185,Tryz.ntmps185
 go_wp2_with fail
 go_ret
 refine ⟨?_,rfl⟩
 have e1:(ByteArray.mk s.toArray).extract 0 p.length=⟨(s.take p.length).toArray⟩:=by rw [bytes_ext];simp
 have e2:((ByteArray.mk s.toArray).extract 0 p.length).toList=s.take p.length:=by rw [e1];simp
 rw [←e2]
 rfl
theorem sprefix_any(s p:List UInt8)(w:World)(hs:s.length≤1000000)(hp:p.length≤s.length) :
  Calls Tryz.prog 152 #[.string ⟨s.toArray⟩,.string ⟨p.toArray⟩] w fun e w'=>e=.returned (.bool (s.take p.length == p))∧w=w':=by
 have h1:=Hd (slprefix_any s p w hs hp)
 go_enter Tryz.func152,Tryz.ntmps152
 go_wp2_with fail
 refine h1.out.mono ?_
 rintro e w1 ⟨rfl,rfl⟩
 go_wp2
 go_ret
 exact ⟨rfl,rfl⟩
theorem digits_dot(n:Nat):∀ x∈numN n,x≠46:=by
 unfold numN
 induction n using Nat.strongRecOn with
 | _ n ih=>
  have hd:∀ k,k<10→UInt8.ofNat (48+k)≠46:=by decide
  rw [Go.Lib.decDigits]
  split
  ·rename_i h
   intro x hx
   rw [List.mem_singleton.1 hx]
   exact hd n h
  ·rename_i h
   intro x hx
   rcases List.mem_append.1 hx with hx|hx
   ·exact ih (n / 10) (by omega) x hx
   ·rw [List.mem_singleton.1 hx]
    exact hd _ (Nat.mod_lt _ (by omega))
theorem bytes_app(a:List UInt8):(ByteArray.mk a.toArray ++ ByteArray.mk #[46])=⟨(a ++ [46]).toArray⟩:=by
 apply ByteArray.ext
 simp
theorem take_pre(a r:List UInt8):((a ++ 46 :: r).take (a ++ [46]).length == a ++ [46])=true:=by
 have:(a ++ 46 :: r).take (a ++ [46]).length=a ++ [46]:=by
  rw [show a ++ 46 :: r=(a ++ [46]) ++ r by simp]
  exact List.take_left' rfl
 rw [this]
 simp
theorem ours_other{v:Vl}(hn:NamesAt v.num v.gen){s r:Nm}(hs:s=(99 :: numN v.num) ++ 46 :: r∨s=(118 :: numN v.num) ++ 46 :: r)(hne1:s≠v.file)(hne2:s≠cName v.num v.gen)(hl:s.length≤1000)(hl2:v.file.length≤1000):OursAt v s true:=by
 intro w vp dp ix vx h
 obtain ⟨c0,c1,c2,c3,c4,c5,c6,c7⟩:=h.cells
 have HN:=Hd hn
 have HNV:=Hd (show namesV v.num v.gen=.tuple #[.string ⟨v.file.toArray⟩,.string ⟨(cName v.num v.gen).toArray⟩,.string ⟨(mName v.num).toArray⟩,.string ⟨(sName v.num).toArray⟩] from rfl)
 have hfl:v.file=(118 :: numN v.num) ++ 46 :: numN v.gen:=rfl
 have hcl:cName v.num v.gen=(99 :: numN v.num) ++ 46 :: numN v.gen:=rfl
 have hd:=digits_dot v.num
 have hlc:(cName v.num v.gen).length=v.file.length:=by simp [cName,Vl.file,vName]
 have HC1:=Hd (fun w0:World=>scut_at (118 :: numN v.num) (numN v.gen) w0 (fun x hx=>by rcases List.mem_cons.1 hx with rfl|hx;decide;exact hd x hx) (by rw [←hfl];omega) rfl)
 have HC2:=Hd (fun w0:World=>scut_at (99 :: numN v.num) (numN v.gen) w0 (fun x hx=>by rcases List.mem_cons.1 hx with rfl|hx;decide;exact hd x hx) (by rw [←hcl];omega) rfl)
 rw [←hfl] at HC1
 rw [←hcl] at HC2
 have n1:(s == v.file)=false:=beq_no hne1
 have n2:(s == cName v.num v.gen)=false:=beq_no hne2
 have n3:(s == mName v.num)=false:=beq_no (by
  rcases hs with rfl|rfl
  ·exact fun e=>by injection e with e _;exact absurd e (by decide)
  ·exact fun e=>by injection e with e _;exact absurd e (by decide))
 have n4:(s == sName v.num)=false:=beq_no (by
  rcases hs with rfl|rfl
  ·exact fun e=>by injection e with e _;exact absurd e (by decide)
  ·exact fun e=>by injection e with e _;exact absurd e (by decide))
 have hsl:(99 :: numN v.num).length+1≤s.length∧(118 :: numN v.num).length+1≤s.length:=by
  rcases hs with rfl|rfl <;> simp <;> omega
 have HP1:=Hd (fun w0:World=>sprefix_any s ((118 :: numN v.num) ++ [46]) w0 (by omega) (by rw [List.length_append];exact hsl.2))
 have HP2:=Hd (fun w0:World=>sprefix_any s ((99 :: numN v.num) ++ [46]) w0 (by omega) (by rw [List.length_append];exact hsl.1))
 have hb:(s.take ((118 :: numN v.num) ++ [46]).length == (118 :: numN v.num) ++ [46])=true∨((s.take ((118 :: numN v.num) ++ [46]).length == (118 :: numN v.num) ++ [46])=false∧(s.take ((99 :: numN v.num) ++ [46]).length == (99 :: numN v.num) ++ [46])=true):=by
  rcases hs with rfl|rfl
  ·refine .inr ⟨?_,take_pre _ _⟩
   simp
  ·exact .inl (take_pre _ _)
 have hA:(118 :: numN v.num).length≤1000:=by have:=hsl.2;omega
 have hB:(99 :: numN v.num).length≤1000:=by have:=hsl.1;omega
 obtain ⟨V,hV⟩:∃ V,V=v.file:=⟨_,rfl⟩
 obtain ⟨C,hC⟩:∃ C,C=cName v.num v.gen:=⟨_,rfl⟩
 obtain ⟨M,hM⟩:∃ M,M=mName v.num:=⟨_,rfl⟩
 obtain ⟨S,hS⟩:∃ S,S=sName v.num:=⟨_,rfl⟩
 obtain ⟨A,hA'⟩:∃ A,A=118 :: numN v.num:=⟨_,rfl⟩
 obtain ⟨B,hB'⟩:∃ B,B=99 :: numN v.num:=⟨_,rfl⟩
 obtain ⟨G,hG⟩:∃ G,G=numN v.gen:=⟨_,rfl⟩
 rw [←hV,←hC,←hM,←hS] at HNV
 rw [←hV,←hA',←hG] at HC1
 rw [←hC,←hB',←hG] at HC2
 rw [←hA'] at HP1 hA
 rw [←hB'] at HP2 hB
 rw [←hA',←hB'] at hb
 rw [←hV] at n1
 rw [←hC] at n2
 rw [←hM] at n3
 rw [←hS] at n4
 clear h hn hV hC hM hS hs hfl hcl hd hlc hsl hl hl2 hne1 hne2 hA' hB' hG
 go_enter Tryz.func112,Tryz.ntmps112
 go_upto_region 1 with fail
 obtain ⟨SS,HSD⟩:∃ SS:World→Prop,Hid (SS=fun w'=>w'.cell? ⟨vp,1,none⟩=some (.int .i64 v.num)∧w'.cell? ⟨vp,2,none⟩=some (.int .i64 v.gen)):=⟨_,Hd rfl⟩
 refine wp_region_mask0 SS [4,9] [0,1,3,7,15,0,32,96,224,480,1023,2047,4095,4095,4095,4095,8191,81919,229375,524287] (.op 0 0 (.op 1 0 (.op 2 0 (.op 3 0 (.op 4 2 (.op 5 0 (.op 6 0 (.op 7 0 (.op 8 0 (.op 9 2 (.op 10 1 (.op 11 0 (.op 12 0 (.op 13 0 (.op 14 0 (.op 15 0 (.op 16 0 (.op 17 0 (.op 18 0 (.op 19 0 .nil)))))))))))))))))))) (by kernel_rfl) (by kernel_rfl) rfl (by kernel_rfl) (by kernel_rfl) ?_ ?_
 (focus (rw [HSD.out];exact ⟨c1,c2⟩));(iterate 4 refine stepM0 rfl rfl fun K hK=>?_;go_simp;refine hK _ ?_;clear hK K);refine stepM2 rfl rfl ?_ (fun w1 hS=>?_) fun K hK=>?_;rotate_left;(focus (rw [HSD.out] at hS;obtain ⟨s1,s2⟩:=hS;go_simp;rfl));go_simp;refine hK _ ?_;clear hK K;(iterate 4 refine stepM0 rfl rfl fun K hK=>?_;go_simp;refine hK _ ?_;clear hK K);refine stepM2 rfl rfl ?_ (fun w1 hS=>?_) fun K hK=>?_;rotate_left;(focus (rw [HSD.out] at hS;obtain ⟨s1,s2⟩:=hS;go_simp;rfl));go_simp;refine hK _ ?_;clear hK K;refine stepM1 rfl rfl (by kernel_rfl) fun K hK=>?_
 (go_wp2_with fail;refine Calls.mono (HN.out _) ?_;rintro e w2 ⟨rfl,rfl⟩;rw [HNV.out];go_wp2)
 (iterate 9 refine stepM0 rfl rfl fun K hK=>?_;go_simp;refine hK _ ?_;clear hK K)
 try refine stepMnil0 ?_
 clear HSD SS
 go_wp2_with fail
 refine (HC1.out _).mono ?_
 rintro e w2 ⟨rfl,hb2⟩
 have HB2:=Hd (Below.trans (show Below w.heap.size w _ from belo) (hb2.mono (by simp)))
 clear hb2
 go_wp2_with fail
 refine (HC2.out _).mono ?_
 rintro e w3 ⟨rfl,hb3⟩
 have HB3:=Hd (HB2.out.trans (hb3.mono HB2.out.size))
 clear hb3
 go_wp2_with fail
 rw [bytes_app A]
 refine (HP1.out _).mono ?_
 rintro e wx ⟨rfl,rfl⟩
 rcases hb with e1|⟨e1,e2⟩
 ·rw [e1]
  go_wp2_with fail
  go_ret
  exact ⟨rfl,HB3.out⟩
 ·rw [e1]
  go_wp2_with fail
  rw [bytes_app B]
  refine (HP2.out _).mono ?_
  rintro e wx ⟨rfl,rfl⟩
  rw [e2]
  go_wp2_with fail
  go_ret
  exact ⟨rfl,HB3.out⟩
theorem ckRow_of:∀ {l:List Ps} {k:Option Nat},IxS l→(∀ p∈l,ckPos p=true)→(∀ x,k=some x→∀ p∈l,x<p.key)→ckRow k l=true
 | [],_,_,_,_=>rfl
 | q :: r,k,hs,hp,hk=>by
  unfold ckRow
  have h1:=hp q List.mem_cons_self
  have h2:=ckRow_of (k:=some q.key) (List.pairwise_cons.1 hs).2 (fun p hm=>hp p (List.mem_cons_of_mem _ hm)) (fun x hx p hm=>by cases hx;exact (List.pairwise_cons.1 hs).1 p hm)
  rw [h1,h2]
  cases k with
  | none=>rfl
  | some x=>
   have:=hk x rfl q List.mem_cons_self
   simp [this]
theorem VI.ckRight{d:Dk}{v:Vl}{ns:List Nd}(h:VI d v ns)(hs:v.size≤16777216)(hl:v.idx.length≤4096):Go.Proofs.YtfpjfoajonbndaaGreatDoor.ckRight (ckSnap v)=0:=by
 unfold Go.Proofs.YtfpjfoajonbndaaGreatDoor.ckRight ckSnap
 simp only
 rw [if_neg (by omega)]
 have h1:ckNums ⟨v.num,v.gen,v.size,v.idx⟩=true:=by
  unfold ckNums
  refine decide_eq_true ?_
  have h1:=h.num
  have h2:=h.gen
  exact ⟨h1.1,h1.2,by show 1≤v.gen;omega,by show v.gen≤_;omega,hs⟩
 have h2:ckRow none v.idx=true:=ckRow_of h.srt (fun p hp=>by
  obtain ⟨o,n,hx,hln,hmem,hnk,hpo,hnd⟩:=h.pos hp
  have h3:=h.len_le hp
  have h4:=h.ok n hmem
  unfold ckPos
  have e1:p.gone=n.gone:=by rw [hpo];rfl
  have e2:p.len=n.data.length:=by rw [hpo];rfl
  rw [decide_eq_true (by omega:p.off≤16777216),decide_eq_true h3.1]
  cases hg:p.gone with
  | false=>rfl
  | true=>
   have:=h4.2.2.2 (by rw [←e1];exact hg)
   rw [e2,this]
   rfl) (fun x hx=>by cases hx)
 rw [h1,h2]
 rfl
theorem VI.keys64{d:Dk}{v:Vl}{ns:List Nd}(h:VI d v ns):∀ p∈v.idx,p.key<18446744073709551616∧p.cookie<4294967296:=fun p hp=>by
 obtain ⟨o,n,hx,hln,hmem,hnk,hpo,hnd⟩:=h.pos hp
 have h4:=h.ok n hmem
 exact ⟨by rw [hpo];exact h4.1,by rw [hpo];exact h4.2.1⟩
theorem c10:cName 1 0=[99,49,46,48]:=by simp [cName,numN_1,numN_0]
theorem c11:cName 1 1=[99,49,46,49]:=by simp [cName,numN_1]
theorem VI.names2{d:Dk}{v:Vl}{ns:List Nd}(h:VI d v ns){s:Nm}(h1:s≠v.file)(h2:s≠mName v.num):dirGet d.now s=none:=by
 obtain ⟨f,g,hfg,hl,hf,hg,hfb,hgb⟩:=h.now
 have hm:=two_mem hl hf hg (v_ne_m _ _ _)
 cases e:dirGet d.now s with
 | none=>rfl
 | some x=>
  have h3:=get_mem e
  rcases hm with hm|hm <;> rw [hm] at h3 <;> simp only [List.mem_cons,Prod.mk.injEq,List.not_mem_nil,or_false] at h3 <;> rcases h3 with h3|h3 <;> first|exact absurd h3.1 h1|exact absurd h3.1 h2
theorem VI.dg{d:Dk}{v:Vl}{ns:List Nd}{K:Nat}(h:VI d v ns)(hok:DkOk K d):DG d:=⟨h.armed,hok.fnow⟩
theorem VI.used{d:Dk}{v:Vl}{ns:List Nd}(h:VI d v ns):d.used=v.size+24:=by
 obtain ⟨f,g,hfg,hl,hf,hg,hfb,hgb⟩:=h.now
 rw [used_two hl hf hg (v_ne_m _ _ _),hfb,hgb,List.length_append,superB_len,h.size]
theorem head_ne{v:Vl}{s:Nm}{x:UInt8}{r:Nm}(hs:s=x :: r)(h1:x≠118)(h2:x≠109):s≠v.file∧s≠mName v.num:=by
 subst hs
 constructor
 ·intro e
  unfold Vl.file vName at e
  simp at e
  exact h1 e.1
 ·intro e
  unfold mName at e
  simp at e
  exact h2 e.1
theorem VI.ckAll{d:Dk}{v:Vl}{ns:List Nd}{K:Nat}(h:VI d v ns)(hok:DkOk K d)(hn:v.num=1)(hl:v.idx.length≤4096)(hc:v.size+48+24 * v.idx.length≤1048576) :
  ∃ d1 d2 d3 d4 d5,ckDo (ckSnap v) 0 d=(0,d1)∧ckDo (ckSnap v) 1 d1=(0,d2)∧ckDo (ckSnap v) 2 d2=(0,d3)∧ckDo (ckSnap v) 3 d3=(0,d4)∧ckDo (ckSnap v) 4 d4=(0,d5)∧(d5.size (cName 1 1)).1=0:=by
 have hdg:=h.dg hok
 have hu:=h.used
 have hvol:(ckSnap v).vol=1:=hn
 have hgen:(ckSnap v).gen=1:=h.gen
 have hdr:=head_ne (v:=v) (s:=cName 1 0) c10 (by decide) (by decide)
 have hdn:=h.names2 hdr.1 hdr.2
 have hl2:d.now.length=2:=by obtain ⟨f,g,_,hl,_⟩:=h.now;exact hl
 obtain ⟨d1,e1,n1⟩:=create_new hdg (s:=cName 1 0) (by rw [c10];decide) hdn (by omega)
 have hbl:=ckB_len (ckSnap v)
 have hil:(ckSnap v).l=v.idx:=rfl
 rw [hil] at hbl
 obtain ⟨d2,e2,n2⟩:=n1.append hdg hdn (b:=ckB (ckSnap v)) (by omega) (by rw [h.cap,hu,hbl];omega)
 have hf2:d2.fnd (cName 1 0)=(0,d.files.length):=by
  unfold Dk.fnd
  rw [if_neg (by rw [n2.ok.armed];decide),n2.now,n1.get]
 obtain ⟨d3,hd3⟩:∃ d3,d3=(d2.sync (cName 1 0)).2:=⟨_,rfl⟩
 have e3:d2.sync (cName 1 0)=(0,d3):=by
  have:(d2.sync (cName 1 0)).1=0:=by
   unfold Dk.sync
   rw [hf2]
   rfl
  rw [hd3]
  exact Prod.ext this rfl
 have h3n:d3.now=d2.now:=by
  rw [hd3]
  unfold Dk.sync
  rw [hf2]
  rfl
 have h3a:d3.armed = -1:=by
  rw [hd3]
  unfold Dk.sync
  rw [hf2]
  show (if 0<d2.armed then d2.armed - 1 else d2.armed) = -1
  rw [n2.ok.armed]
  rfl
 have hf3:d3.fnd (cName 1 0)=(0,d.files.length):=by
  unfold Dk.fnd
  rw [if_neg (by rw [h3a];decide),h3n,n2.now,n1.get]
 obtain ⟨d4,hd4⟩:∃ d4,d4=d3.turn ⟨1,cName 1 0,cName 1 1,d.files.length⟩:=⟨_,rfl⟩
 have e4:d3.rename (cName 1 0) (cName 1 1)=(0,d4):=by
  unfold Dk.rename
  rw [hf3,if_neg (by simp),if_neg (by rw [c11];decide),hd4]
 have h4n:d4.now=dirPut (dirDel d3.now (cName 1 0)) (cName 1 1) d.files.length:=by
  rw [hd4]
  rfl
 have h4a:d4.armed = -1:=by
  rw [hd4]
  show (if 0<d3.armed then d3.armed - 1 else d3.armed) = -1
  rw [h3a]
  rfl
 obtain ⟨d5,hd5⟩:∃ d5,d5=({ d4 with lasting:=d4.now,deeds:=[] }:Dk).did:=⟨_,rfl⟩
 have e5:d4.syncNames=(0,d5):=by
  unfold Dk.syncNames
  rw [if_neg (by rw [h4a];decide),hd5]
 have h5n:d5.now=d4.now:=by rw [hd5];rfl
 have h5a:d5.armed = -1:=by
  rw [hd5]
  show (if 0<d4.armed then d4.armed - 1 else d4.armed) = -1
  rw [h4a]
  rfl
 refine ⟨d1,d2,d3,d4,d5,?_,?_,?_,?_,?_,?_⟩
 ·unfold ckDo
  have hcl:d.ckClear (cName 1 0)=(0,d):=by
   unfold Dk.ckClear hasName
   rw [hdn]
   rfl
  rw [if_pos rfl,hvol,hcl,if_neg (by simp)]
  exact e1
 ·unfold ckDo
  rw [if_neg (by omega),if_pos rfl,h.ckRight (by omega) hl,if_neg (by simp),hvol]
  exact e2
 ·unfold ckDo
  rw [if_neg (by omega),if_neg (by omega),if_pos rfl,hvol]
  exact e3
 ·unfold ckDo
  rw [if_neg (by omega),if_neg (by omega),if_neg (by omega),if_pos rfl,hvol,hgen]
  exact e4
 ·unfold ckDo
  rw [if_neg (by omega),if_neg (by omega),if_neg (by omega),if_neg (by omega)]
  exact e5
 ·have:d5.fnd (cName 1 1)=(0,d.files.length):=by
   unfold Dk.fnd
   rw [if_neg (by rw [h5a];decide),h5n,h4n,get_put_same]
  unfold Dk.size
  rw [this]
  rfl
def CkSt (w:World) (Z:Nat→Prop) (wb dp vp:Nat) (v:Vl) (K:Nat) (d:Dk) (k:Nat):Prop:=
 ∃ Q:Nat→Prop,(∀ j,Q j→j<w.heap.size)∧(∀ j,Z j→Q j∧j≠wb)∧VS w vp dp Q K d v∧Q wb∧((k=0∧∃ a cap c0,CkW w wb dp vp c0 a cap 0)∨(1≤k∧k≤4∧WrAt w Q wb dp vp (ckSnap v) k)∨(k=5∧∃ a cap c0,CkW w wb dp vp c0 a cap 5))
theorem CkSt.below{w w':World}{Z:Nat→Prop}{wb dp vp K k:Nat}{v:Vl}{d:Dk}(h:CkSt w Z wb dp vp v K d k)(hb:Below w.heap.size w w'):CkSt w' Z wb dp vp v K d k:=by
 obtain ⟨Q,h1,h2,h3,h4,h5⟩:=h
 refine ⟨Q,fun j hj=>Nat.lt_of_lt_of_le (h1 j hj) hb.size,h2,h3.below hb,h4,?_⟩
 rcases h5 with ⟨e,a,cap,c0,h6⟩|⟨e1,e2,a,cap,g1,g2,g3,g4⟩|⟨e,a,cap,c0,h6⟩
 ·exact .inl ⟨e,a,cap,c0,blk_below' h6 hb⟩
 ·exact .inr (.inl ⟨e1,e2,a,cap,blk_below' g1 hb,g2.below hb,fun j hj=>⟨(g3 j hj).1,Nat.lt_of_lt_of_le (g3 j hj).2.1 hb.size,(g3 j hj).2.2⟩,g4⟩)
 ·exact .inr (.inr ⟨e,a,cap,c0,blk_below' h6 hb⟩)
structure CkGood (v:Vl):Prop where
 n0:NamesAt v.num 0
 n1:NamesAt v.num v.gen
 l0:(cName v.num 0).length≤maxLen
 l1:(cName v.num v.gen).length≤maxLen
 len:v.idx.length≤4096
 keys:∀ p∈v.idx,p.key<18446744073709551616∧p.cookie<4294967296
theorem CkSt.step{w:World}{Z:Nat→Prop}{wb dp vp K k r:Nat}{v:Vl}{d d':Dk}(h:CkSt w Z wb dp vp v K d k)(hg:CkGood v)(hK:K+2<1099511627776)(hk:k≤4)(hd:ckDo (ckSnap v) k d=(r,d')) :
  Calls Tryz.prog 31 #[(.pointer (some ⟨wb,0,none⟩))] w fun e w'=>e=.returned (.tuple #[.bool (r == 0 && k == 4),errV r])∧CkSt w' Z wb dp vp v (K+2) d' (if r=0 then k+1 else 5)∧KP Z w w':=by
 obtain ⟨Q,h1,h2,h3,h4,h5⟩:=h
 have fin:∀ e w',CkTo w Q wb dp vp K d v (ckSnap v) k e w'→e=.returned (.tuple #[.bool (r == 0 && k == 4),errV r])∧CkSt w' Z wb dp vp v (K+2) d' (if r=0 then k+1 else 5)∧KP Z w w':=fun e w' ⟨g1,Q2,g2,g3,g4,g5,g6⟩=>by
  rw [hd] at g1 g4 g5
  refine ⟨g1,⟨Q2,g3,fun j hj=>⟨g2 j (h2 j hj).1,(h2 j hj).2⟩,g4,g2 _ h4,?_⟩,g6.mono fun j _ hj=>h2 j hj⟩
  by_cases hr:r=0
  ·rw [if_pos hr]
   rw [if_pos hr] at g5
   by_cases h4':k=4
   ·subst h4'
    obtain ⟨a,cap,q1,-⟩:=g5
    exact .inr (.inr ⟨rfl,a,cap,_,q1⟩)
   ·exact .inr (.inl ⟨by omega,by omega,g5⟩)
  ·rw [if_neg hr]
   rw [if_neg hr] at g5
   obtain ⟨a,cap,q1,-⟩:=g5
   exact .inr (.inr ⟨rfl,a,cap,_,q1⟩)
 rcases h5 with ⟨e,a,cap,c0,h6⟩|⟨e1,e2,h6⟩|⟨e,-⟩
 ·subst e
  exact (ckstep_first h3 h6 h4 h1 hK rfl hg.n0 hg.n1 hg.l0 hg.l1 (by have:=hg.len;omega) hg.keys).mono fin
 ·exact (ckstep_next h3 h6 h1 hK e1 e2 rfl hg.n0 hg.n1 hg.l0 hg.l1 (by have:=hg.len;show v.idx.length≤_;omega) hg.keys).mono fin
 ·omega
theorem CkSt.over{w:World}{Z:Nat→Prop}{wb dp vp K:Nat}{v:Vl}{d:Dk}(h:CkSt w Z wb dp vp v K d 5) :
  Calls Tryz.prog 31 #[(.pointer (some ⟨wb,0,none⟩))] w fun e w'=>e=.returned (.tuple #[.bool false,errV 16])∧w=w':=by
 obtain ⟨Q,h1,h2,h3,h4,h5⟩:=h
 rcases h5 with ⟨e,-⟩|⟨-,e,-⟩|⟨-,a,cap,c0,h6⟩
 ·omega
 ·omega
 ·exact ckstep_over h6
theorem CkSt.start{w w':World}{Z P:Nat→Prop}{dp vp K:Nat}{v:Vl}{d:Dk}(h:VS w vp dp P K d v)(hP:∀ j,P j→j<w.heap.size)(hZ:∀ j,Z j→P j)(hb:Below w.heap.size w w')(hc:CkW w' w.heap.size dp vp ⟨0,0,0,[]⟩ none 0 0):CkSt w' Z w.heap.size dp vp v K d 0:=by
 refine ⟨fun j=>P j∨j=w.heap.size,fun j hj=>?_,fun j hj=>⟨.inl (hZ j hj),by have:=hP j (hZ j hj);omega⟩,h.later hb (fun j hj=>hj.imp id (fun e=>by omega)),.inr rfl,.inl ⟨rfl,_,_,_,hc⟩⟩
 rcases hj with hj|hj
 ·exact Nat.lt_of_lt_of_le (hP j hj) hb.size
 ·rw [hj];exact blk_lt hc
theorem CkGood.of{d:Dk}{v:Vl}{ns:List Nd}(h:VI d v ns)(hn:v.num=1)(hl:v.idx.length≤4096):CkGood v:=by
 have hg:=h.gen
 refine ⟨namesAt9 (by omega) (by omega),namesAt9 (by omega) (by omega),?_,?_,hl,h.keys64⟩
 ·rw [hn,c10];decide
 ·rw [hn,hg,c11];decide
theorem alive10(w:World):Calls Tryz.prog 26 #[] w fun e w'=>e=.returned (.bool true)∧Below w.heap.size w w':=by
 have HM:=Hd (madeR_any none 0 0 [] w rfl (reads_none _ _) (fun x hx=>absurd hx List.not_mem_nil) (by omega) (fun x hx=>absurd hx List.not_mem_nil))
 go_enter Tryz.func26,Tryz.ntmps26
 go_wp2_with fail
 refine (show Calls Tryz.prog 27 #[.slice none 0 0] w (MadeR w 1 []) from HM.out).mono ?_
 rintro e w1 ⟨vp,dp,F,val,d,v,ns,rfl,hvf,hfb,hvd,hrv,hac,hsz,hns,hb⟩
 have hvi:=hvd.vi
 obtain ⟨c0,c1,c2,c3,c4,c5a,c5n,c5c,c6a,c6n,c6c,rfl⟩:=RvIn.agg hrv
 have hnum:v.num=1:=congrArg Rv.num hac
 have hidx:v.idx=[]:=congrArg Rv.l hac
 have hsz2:v.size=16:=congrArg Rv.size hac
 have HGD:=Hd (CkGood.of hvi hnum (by rw [hidx];simp))
 have hok:DkOk 245 d:=by obtain ⟨ix,vx,P,g1,g2,g4⟩:=hvf.at';exact g2.ok
 obtain ⟨d1,d2,d3,d4,d5,e1,e2,e3,e4,e5,e6⟩:=hvi.ckAll hok hnum (by rw [hidx];simp) (by rw [hidx,hsz2];decide)
 obtain ⟨D,hD⟩:∃ D:Nat→Dk,D=fun k=>match k with|0=>d|1=>d1|2=>d2|3=>d3|4=>d4|_=>d5:=⟨_,rfl⟩
 have HDK:=Hd (show ∀ k,k≤4→ckDo (ckSnap v) k (D k)=(0,D (k+1)) from fun k hk=>by
  rw [hD]
  match k,hk with
  | 0,_=>exact e1
  | 1,_=>exact e2
  | 2,_=>exact e3
  | 3,_=>exact e4
  | 4,_=>exact e5)
 have HD0:=Hd (show D 0=d from congrFun hD 0)
 have HD5:=Hd (show ((D 5).size (cName 1 1)).1=0 by rw [hD];exact e6)
 have HVF:=Hd hvf
 have HFB:=Hd hfb
 have HB1:=Hd hb
 clear hvf hvi hvd hrv hac hb hsz hns hnum hidx hsz2 hok e1 e2 e3 e4 e5 e6 hD hfb
 go_upto_region 2 with fail
 obtain ⟨w2,hw2⟩:∃ w2:World,w2=w1.alloc (.cells #[.int .i64 c0,.int .i64 c1,.int .i64 c2,.int .i64 c3,.bool c4,.slice c5a c5n c5c,.slice c6a c6n c6c] 43):=⟨_,rfl⟩
 have HB12:=Hd (show Below w1.heap.size w1 w2 by rw [hw2];exact belo)
 have HB2:=Hd (HB1.out.trans (HB12.out.mono HB1.out.size))
 rw [←hw2]
 clear hw2
 have hz2:=HB2.out.size
 go_wp2_with fail
 refine (cknew_any dp vp w2).mono ?_
 rintro e w3 ⟨rfl,hcw,hb⟩
 have HVS2:=Hd ((HVF.out.kp (KP.of HB12.out) (fun k hk=>HVF.out.lt k hk)).vs (P:=fun k=>k<w2.heap.size∧¬ F k) (fun k hk e=>e.2 hk))
 have HST3:=Hd (CkSt.start (Z:=fun k=>k<w.heap.size) HVS2.out (fun j hj=>hj.1) (fun j hj=>⟨by have:j<w.heap.size:=hj;omega,fun e=>by have:=HFB.out j e;have h:j<w.heap.size:=hj;omega⟩) hb hcw)
 have HB3:=Hd (HB2.out.trans (hb.mono hz2))
 clear hcw hb
 obtain ⟨wb,hwb⟩:∃ wb,wb=w2.heap.size:=⟨_,rfl⟩
 rw [←hwb] at HST3 ⊢
 clear hwb
 go_wp2_with fail
 go_loopw [7,8] (fun n i wr=>∃ k:Nat,k≤5∧n=.int .i64 k∧i=.int .i64 k∧CkSt wr (fun k=>k<w.heap.size) wb dp vp v (245+2 * k) (D k) k∧Below w.heap.size w wr) (fun _ i _=>5 - (intOf i).toNat)
 case atStart=>exact ⟨0,by omega,rfl,rfl,by rw [HD0.out];exact HST3.out,HB3.out⟩
 case round=>
  obtain ⟨k,hk,rfl,rfl,hst,hbr⟩:=hrel
  have HSTR:=Hd hst
  have HBR:=Hd hbr
  clear hst hbr
  by_cases hlt:k<5
  ·have hj1:(k:Int)<5:=by omega
   have HSP:=Hd (HSTR.out.step HGD.out (by omega) (by omega) (HDK.out k (by omega)))
   rw [if_pos rfl,show errV ((0:Nat):Int)=.nilIface from rfl] at HSP
   obtain ⟨B4,hB4⟩:∃ B4,B4=((0:Nat) == 0 && k == 4):=⟨_,rfl⟩
   rw [←hB4] at HSP
   have hB5:((k:Int) == 4)=B4:=by
    rw [hB4]
    by_cases h:k=4
    ·subst h;rfl
    ·rw [show (k == 4)=false by simpa using h,show ((k:Int) == 4)=false by simp;omega]
     rfl
   have hBB:(B4 == B4)=true:=by simp
   clear hB4
   go_wp2_with fail
   refine HSP.out.mono ?_
   rintro e w4 ⟨rfl,hst,hkp⟩
   have HST4:=Hd hst
   have HB4:=Hd (show Below w.heap.size w w4 from HBR.out.trans (hkp.below HBR.out.size (fun j hj=>hj)))
   clear hst hkp
   go_wp2_with fail
   refine (code0 _).mono ?_
   rintro e wx ⟨rfl,rfl⟩
   go_wp2_with fail
   go_roundw
   case rel=>exact ⟨k+1,by omega,by go_num,by go_num,by rw [show 245+2 * (k+1)=245+2 * k+2 by omega];exact HST4.out,HB4.out⟩
   case measure=>simp [intOf];omega
  ·have hj1:¬ (k:Int)<5:=by omega
   obtain rfl:k=5:=by omega
   obtain ⟨Q,q1,q2,q3,q4,q5⟩:=HSTR.out
   obtain ⟨R,r1,r2,r3,r4⟩:=q3.disk q1
   have HSZ:=Hd (size_ds r1 (cName 1 1) (by rw [c11];decide))
   obtain ⟨sz,hsz⟩:∃ sz,sz=((D 5).size (cName 1 1)).2:=⟨_,rfl⟩
   rw [HD5.out,←hsz,c11,show errV ((0:Nat):Int)=.nilIface from rfl] at HSZ
   clear hsz q1 q2 q3 q4 q5 r1 r2 r3 r4
   go_wp2_with fail
   refine HSTR.out.over.mono ?_
   rintro e wx ⟨rfl,rfl⟩
   rw [errV_ne (show (16:Int)≠0 by decide)]
   go_wp2_with fail
   refine HSZ.out.mono ?_
   rintro e wx ⟨rfl,rfl⟩
   go_wp2_with fail
   refine (code0 _).mono ?_
   rintro e wx ⟨rfl,rfl⟩
   go_wp2_with fail
   refine (show Calls Tryz.prog 14 #[.iface 99 (.int .i64 16)] _ _ from code_some 16 (by decide) (by decide) _).mono ?_
   rintro e wx ⟨rfl,rfl⟩
   go_wp2_with fail
   refine (code0 _).mono ?_
   rintro e wx ⟨rfl,rfl⟩
   go_wp2_with fail
   go_ret
   exact ⟨rfl,HBR.out⟩
theorem mem_namesOf{l:Dir}{s:Nm}:s∈namesOf l↔s∈l.map (·.1):=(List.mergeSort_perm _ _).mem_iff
theorem tidyL_skip{o:Nm→Bool}{m:Bool}{d:Dk}{r:List Nm}:∀ {a:List Nm},(∀ s∈a,o s=false)→Dk.tidyL o (a ++ r) m d=Dk.tidyL o r m d
 | [],_=>rfl
 | s :: a,h=>by
  show Dk.tidyL o (s :: (a ++ r)) m d=_
  rw [Dk.tidyL,if_neg (by rw [h s List.mem_cons_self];simp)]
  exact tidyL_skip fun x hx=>h x (List.mem_cons_of_mem _ hx)
theorem tidyL_one{S:Nm}{d:Dk}{l:List Nm}(hS:S∈l)(hnd:l.Nodup)(hr:(d.remove S).1=0):Dk.tidyL (fun s=>s == S) l false d=(d.remove S).2.syncNames:=by
 obtain ⟨a,b,rfl⟩:=List.append_of_mem hS
 have hn:=List.nodup_append.1 hnd
 have ha:∀ s∈a,(s == S)=false:=fun s hs=>by
  have:=hn.2.2 s hs S List.mem_cons_self
  simpa using this
 have hb:∀ s∈b,(s == S)=false:=fun s hs=>by
  have:=(List.nodup_cons.1 hn.2.1).1
  simp
  rintro rfl
  exact this hs
 rw [tidyL_skip (o:=fun s=>s == S) ha,Dk.tidyL,if_pos (by simp),if_neg (by rw [hr];simp)]
 have:=tidyL_skip (o:=fun s=>s == S) (m:=true) (d:=(d.remove S).2) (r:=[]) hb
 rw [List.append_nil] at this
 rw [this,Dk.tidyL,if_pos rfl]
def isShadow (v:Vl) (s:Nm):Bool:=s == sName v.num
theorem VD.tidied{x:Dk}{v:Vl}{ns:List Nd}(h:VD x v ns):Dk.tidyL (isShadow v) (namesOf x.now) false x=(0,x):=by
 obtain ⟨f,g,hp⟩:=h.parts
 refine tidyL_none fun s hs=>?_
 have hs':=mem_namesOf.1 hs
 obtain ⟨p,hp1,rfl⟩:=List.mem_map.1 hs'
 have:=hp.noS p hp1
 simpa [isShadow] using this
theorem cut_ok{c:Dk}{s:Nm}{f n:Nat}(ha:c.armed = -1)(hg:dirGet c.now s=some f)(hn:n≤(c.fileAt f).b.length):c.cut s n=(0,c.setF f ⟨(c.fileAt f).b.take n,n⟩):=by
 have hf:c.fnd s=(0,f):=by unfold Dk.fnd;rw [if_neg (by rw [ha];decide),hg]
 unfold Dk.cut
 rw [hf,if_neg (by simp),if_neg (by show ¬ ((n:Int)<0∨((c.fileAt f).b.length:Int)<n);omega),did_off (by show c.armed = -1;exact ha)]
 simp
theorem Ends.cut{c:Dk}{v:Vl}{ns:List Nd}{t:List UInt8}(h:Ends c v ns t):(c.cut v.file v.size).1=0∧(c.mendT v t).now=c.now∧(c.mendT v t).armed = -1:=by
 obtain ⟨f,hf,hb⟩:=h.opens.data
 have hl:v.size≤(c.fileAt f).b.length:=by
  rw [hb,List.length_append,superB_len,List.length_append,h.opens.size]
  omega
 have e:=cut_ok h.armed hf hl
 refine ⟨by rw [e],?_,?_⟩
 ·unfold Dk.mendT
  split
  ·rfl
  ·rw [e];rfl
 ·unfold Dk.mendT
  split
  ·exact h.armed
  ·rw [e];exact h.armed
theorem nodup_names(v:Vl):[v.file,mName v.num,sName v.num].Nodup:=by
 have h1:v.file≠mName v.num:=v_ne_m _ _ _
 have h2:v.file≠sName v.num:=v_ne_s _ _ _
 have h3:=s_ne_m v.num
 simp [h1,h2,Ne.symm h3]
theorem Ends.tidied{c:Dk}{v:Vl}{ns:List Nd}{t:List UInt8}(h:Ends c v ns t):∃ c',Dk.tidyL (isShadow v) (namesOf (c.mendT v t).now) false (c.mendT v t)=(0,c')∧c'.now.length=2∧∀ s∈namesOf (c.mendT v t).now,s=v.file∨s=mName v.num∨s=sName v.num:=by
 obtain ⟨-,h2,h3⟩:=h.cut
 obtain ⟨y,hy⟩:∃ y,y=c.mendT v t:=⟨_,rfl⟩
 rw [←hy] at h2 h3 ⊢
 have hvs:v.file≠sName v.num:=v_ne_s _ _ _
 have hsm:=s_ne_m v.num
 rw [h2]
 rcases h.names with hn|hn
 ·refine ⟨y,tidyL_none fun s hs=>?_,by rw [h2];simpa using hn.length_eq,fun s hs=>?_⟩
  ·have:=hn.mem_iff.1 (mem_namesOf.1 hs)
   simp only [List.mem_cons,List.not_mem_nil,or_false] at this
   rcases this with rfl|rfl
   ·simpa [isShadow] using hvs
   ·simpa [isShadow] using Ne.symm hsm
  ·have:=hn.mem_iff.1 (mem_namesOf.1 hs)
   simp only [List.mem_cons,List.not_mem_nil,or_false] at this
   rcases this with e|e
   ·exact .inl e
   ·exact .inr (.inl e)
 ·have hin:sName v.num∈c.now.map (·.1):=hn.mem_iff.2 (by simp)
  obtain ⟨p,hp1,hp2⟩:=List.mem_map.1 hin
  have hget:∃ i,dirGet y.now (sName v.num)=some i:=by
   cases hg:dirGet y.now (sName v.num) with
   | some i=>exact ⟨i,rfl⟩
   | none=>exact absurd hp2 (get_none hg p (by rw [h2];exact hp1))
  obtain ⟨i,hi⟩:=hget
  have hf:y.fnd (sName v.num)=(0,i):=by unfold Dk.fnd;rw [if_neg (by rw [h3];decide),hi]
  have hr:y.remove (sName v.num)=(0,{ y with now:=dirDel y.now (sName v.num),deeds:=y.deeds ++ [⟨2,sName v.num,[],0⟩] }):=by
   unfold Dk.remove
   rw [hf,if_neg (by simp)]
   congr 1
   unfold Dk.turn
   rw [did_off (by show y.armed = -1;exact h3)]
   rfl
  have hnd:(namesOf c.now).Nodup:=by
   have h1:(namesOf c.now).Perm (c.now.map (·.1)):=List.mergeSort_perm _ _
   exact (h1.trans hn).nodup_iff.2 (nodup_names v)
  refine ⟨{ y with now:=dirDel y.now (sName v.num),lasting:=dirDel y.now (sName v.num),deeds:=[] },?_,?_,fun s hs=>?_⟩
  ·show Dk.tidyL (fun s=>s == sName v.num) _ false y=_
   rw [tidyL_one (mem_namesOf.2 hin) hnd (by rw [hr]),hr]
   unfold Dk.syncNames
   rw [if_neg (by show ¬ y.armed=0;rw [h3];decide),did_off (by show y.armed = -1;exact h3)]
  ·show (dirDel y.now (sName v.num)).length=2
   have h5:((dirDel y.now (sName v.num)).map (·.1)).Perm [v.file,mName v.num]:=by
    have h6:(dirDel y.now (sName v.num)).map (·.1)=(y.now.map (·.1)).filter (fun s=>!(s == sName v.num)):=by
     unfold dirDel
     rw [List.filter_map]
     rfl
    rw [h6,h2]
    refine (hn.filter _).trans ?_
    have e1:(v.file == sName v.num)=false:=by simpa using hvs
    have e2:(mName v.num == sName v.num)=false:=by simpa using Ne.symm hsm
    simp [e1,e2]
   simpa using h5.length_eq
  ·have:=hn.mem_iff.1 (mem_namesOf.1 hs)
   simpa using this
theorem VS.lessP{w:World}{vp dp K:Nat}{P Q:Nat→Prop}{d:Dk}{v:Vl}(h:VS w vp dp Q K d v)(hq:∀ j,P j→Q j):VS w vp dp P K d v:=by
 obtain ⟨ix,vx,h1,h2,h3,h4⟩:=h
 exact ⟨ix,vx,h1,h2.less (fun j hj=>hj.imp (hq j) id),fun j hj=>⟨fun e=>(h3 j hj).1 (hq j e),(h3 j hj).2⟩,h4⟩
theorem CkSt.vs{w:World}{Z:Nat→Prop}{wb dp vp K k:Nat}{v:Vl}{d:Dk}(h:CkSt w Z wb dp vp v K d k):VS w vp dp Z K d v:=by
 obtain ⟨Q,h1,h2,h3,h4,h5⟩:=h
 exact h3.lessP fun j hj=>(h2 j hj).1
theorem CkSt.more{w:World}{Z:Nat→Prop}{wb dp vp K L k:Nat}{v:Vl}{d:Dk}(h:CkSt w Z wb dp vp v K d k)(hl:K≤L):CkSt w Z wb dp vp v L d k:=by
 obtain ⟨Q,h1,h2,h3,h4,h5⟩:=h
 exact ⟨Q,h1,h2,h3.more hl,h4,h5⟩
theorem ckwrite_vs{w:World}{vp dp K:Nat}{P:Nat→Prop}{d:Dk}{v:Vl}(h:VS w vp dp P K d v)(hP:∀ k,P k→k<w.heap.size)(hK:K+12<1099511627776)(hg:CkGood v) :
  Calls Tryz.prog 28 #[(.pointer (some ⟨dp,0,none⟩)),(.pointer (some ⟨vp,0,none⟩))] w fun e w'=>e=.returned (errV (ckWrite (ckSnap v) d).1)∧VTo w w' vp dp P (K+10) (ckWrite (ckSnap v) d).2 v:=by
 obtain ⟨R,hR⟩:∃ R,R=ckWrite (ckSnap v) d:=⟨_,rfl⟩
 have HR:=Hd hR
 have HVS:=Hd h
 have HPL:=Hd hP
 have HG:=Hd hg
 rw [←hR]
 clear hR h hP hg
 go_enter Tryz.func28,Tryz.ntmps28
 go_wp2_with fail
 refine (cknew_any dp vp w).mono ?_
 rintro e w1 ⟨rfl,hcw,hb⟩
 have HS:=Hd (CkSt.start (Z:=P) HVS.out HPL.out (fun j hj=>hj) hb hcw)
 have HK1:=Hd (KP.of (P:=P) hb)
 clear hcw hb
 obtain ⟨wb,hwb⟩:∃ wb,wb=w.heap.size:=⟨_,rfl⟩
 rw [←hwb] at HS ⊢
 clear hwb
 go_upto_region 3 with fail
 go_loopg [6,7] 6 (fun g er dn wr=>(∃(k:Nat)(dk:Dk),k≤4∧g=6 - k∧er=.nilIface∧dn=.bool false∧CkSt wr P wb dp vp v (K+2 * k) dk k∧ckRun (ckSnap v) (5 - k) k dk=R∧KP P w wr)∨(g=0∧er=errV R.1∧dn=.bool (R.1 == 0)∧VS wr vp dp P (K+10) R.2 v∧KP P w wr))
 case atStart=>exact .inl ⟨0,d,Nat.zero_le _,rfl,rfl,rfl,HS.out,HR.out.symm,HK1.out⟩
 case round=>
  obtain ⟨k,dk,hk,rfl,rfl,rfl,hst,hru,hkp⟩|⟨rfl,rfl,rfl,hvs,hkp⟩:=hrel
  ·have HST:=Hd hst
   have HRU:=Hd hru
   have HKP:=Hd hkp
   clear hst hru hkp
   obtain ⟨r,d',hd⟩:∃ r d',ckDo (ckSnap v) k dk=(r,d'):=⟨_,_,rfl⟩
   have HDO:=Hd hd
   have HSP:=Hd (HST.out.step HG.out (by omega) hk hd)
   clear hd
   obtain ⟨n5,hn5⟩:∃ n,5 - k=n+1:=⟨4 - k,by omega⟩
   have hru:=HRU.out
   rw [hn5] at hru
   by_cases hr:r=0
   ·subst hr
    have hru2:=(ckRun_ok HDO.out).symm.trans hru
    have HRU2:=Hd hru2
    clear hru hru2
    rw [if_pos rfl] at HSP
    by_cases h4:k=4
    ·subst h4
     obtain rfl:n5=0:=by omega
     have e9:R=(0,d'):=HRU2.out.symm
     have HE9:=Hd e9
     clear e9
     go_wp2_with fail
     refine HSP.out.mono ?_
     rintro e w2 ⟨rfl,hst2,hk2⟩
     have HV2:=Hd hst2.vs
     have HK2:=Hd (HKP.out.trans hk2)
     clear hst2 hk2
     rw [show errV ((0:Nat):Int)=.nilIface from rfl]
     go_wp2_with fail
     go_roundg 0
     case measure=>omega
     case rel=>exact .inr ⟨rfl,by rw [HE9.out];rfl,by rw [HE9.out];rfl,by rw [HE9.out];exact HV2.out,HK2.out⟩
    ·have h4':((0:Nat) == 0 && k == 4)=false:=by simp [h4]
     rw [h4',show errV ((0:Nat):Int)=.nilIface from rfl] at HSP
     clear h4'
     go_wp2_with fail
     refine HSP.out.mono ?_
     rintro e w2 ⟨rfl,hst2,hk2⟩
     have HS2:=Hd (hst2.more (L:=K+2 * (k+1)) (by omega))
     have HK2:=Hd (HKP.out.trans hk2)
     clear hst2 hk2
     go_wp2_with fail
     go_roundg (6 - (k+1))
     case measure=>omega
     case rel=>exact .inl ⟨k+1,d',by omega,rfl,rfl,rfl,HS2.out,by rw [show 5 - (k+1)=n5 by omega];exact HRU2.out,HK2.out⟩
   ·have hru2:=(ckRun_bad HDO.out hr).symm.trans hru
    have HRU2:=Hd hru2
    clear hru hru2
    rw [if_neg hr] at HSP
    have h4':(r == 0 && k == 4)=false:=by simp [hr]
    rw [h4'] at HSP
    clear h4'
    have hri:((r:Nat):Int)≠0:=by omega
    rw [errV_ne hri] at HSP
    go_wp2_with fail
    refine HSP.out.mono ?_
    rintro e w2 ⟨rfl,hst2,hk2⟩
    have HV2:=Hd (hst2.vs.more (L:=K+10) (by omega))
    have HK2:=Hd (HKP.out.trans hk2)
    clear hst2 hk2
    go_wp2_with fail
    go_roundg 0
    case measure=>omega
    case rel=>exact .inr ⟨rfl,by rw [←HRU2.out,errV_ne hri],by rw [←HRU2.out];simp [hr],by rw [←HRU2.out];exact HV2.out,HK2.out⟩
  ·have HV2:=Hd hvs
   have HK2:=Hd hkp
   clear hvs hkp
   obtain ⟨r,d',rfl⟩:∃ r d',R=(r,d'):=⟨_,_,rfl⟩
   simp only
   by_cases hr:r=0
   ·subst hr
    rw [show errV ((0:Nat):Int)=.nilIface from rfl,show ((0:Nat) == 0)=true from rfl]
    go_wp2_with fail
    go_ret
    exact ⟨rfl,HV2.out,HK2.out⟩
   ·have hri:((r:Nat):Int)≠0:=by omega
    rw [errV_ne hri]
    go_wp2_with fail
    go_ret
    exact ⟨by rw [errV_ne hri];rfl,HV2.out,HK2.out⟩
theorem c_len(v g:Nat):(cName v g).length=(vName v g).length:=by simp [cName,vName]
theorem ours_all{v:Vl}(hok:VOk v){s:Nm}(hs:s=v.file∨s=mName v.num∨s=sName v.num):OursAt v s (isShadow v s)∧s.length≤maxLen:=by
 have h1:v.file≠sName v.num:=v_ne_s _ _ _
 have h2:=s_ne_m v.num
 rcases hs with rfl|rfl|rfl
 ·have e:isShadow v v.file=false:=by simpa [isShadow] using h1
  rw [e]
  exact ⟨ours_own hok.names (.inl ⟨rfl,.inl rfl⟩),hok.long.1⟩
 ·have e:isShadow v (mName v.num)=false:=by simpa [isShadow] using Ne.symm h2
  rw [e]
  exact ⟨ours_own hok.names (.inl ⟨rfl,.inr (.inr rfl)⟩),hok.long.2.2⟩
 ·have e:isShadow v (sName v.num)=true:=by simp [isShadow]
  rw [e]
  exact ⟨ours_own hok.names (.inr ⟨rfl,rfl⟩),hok.long.2.1⟩
def OpenTo (w:World) (dp:Nat) (P:Nat→Prop) (K:Nat) (d:Dk) (v:Vl) (e:Ending) (w':World):Prop:=
 ∃ vp,e=.returned (.tuple #[(.pointer (some ⟨vp,0,none⟩)),.nilIface])∧VS w' vp dp P K d v∧w.heap.size≤vp∧KP P w w'
theorem reopen_ck{w:World}{dp K:Nat}{P:Nat→Prop}{x:Dk}{v:Vl}{a b:List Nd}{X:Nat}(h:DS w dp P K x)(hP:∀ k,P k→k<w.heap.size)(hK:K+64<1099511627776)(hvk:VK x v (a ++ b) X)(hm:ManAt x v)(hok:VOk v)(hn1:NamesAt v.num 1)(hlen:v.idx.length≤4096)
  (hnm:∀ p∈x.now,p.1=v.file∨p.1=mName v.num∨p.1=cName v.num v.gen) (hw:x.whole (cName v.num v.gen)=(0,ckB ⟨v.num,v.gen,16+(ndsB a).length,ixOf a⟩)) (hr:ckRight ⟨v.num,v.gen,16+(ndsB a).length,ixOf a⟩=0) (hck:∀ p∈ixOf a,p.key<18446744073709551616∧p.cookie<4294967296) :
  Calls Tryz.prog 20 #[(.pointer (some ⟨dp,0,none⟩)),.int .i64 v.num,.int .i64 v.most] w (OpenTo w dp P (K+64) x v):=by
 have hsrt:IxS (ixOf a):=putAll_srt List.Pairwise.nil
 have hmt:x.mendT v []=x:=if_pos rfl
 have ht:Dk.tidyL (isShadow v) (namesOf x.now) false x=(0,x):=tidyL_none fun s hs=>by
  obtain ⟨p,hp1,rfl⟩:=List.mem_map.1 (mem_namesOf.1 hs)
  rcases hnm p hp1 with e|e|e <;> rw [e]
  ·have h1:v.file≠sName v.num:=v_ne_s _ _ _
   simpa [isShadow] using h1
  ·simpa [isShadow] using Ne.symm (s_ne_m v.num)
  ·simpa [isShadow] using c_ne_s v.num v.gen v.num
 have hsz:v.size=16+(ndsB a).length+(ndsB b).length:=by rw [hvk.size,ndsB_append,List.length_append];omega
 have hcl:(cName v.num v.gen).length≤maxLen:=by rw [c_len];exact hok.long.1
 have:=open_gen (t:=[]) (D:=ndsB (a ++ b)) (ns2:=b) (pre:=superB v.num v.gen ++ ndsB a) (l0:=ixOf a) (from':=16+(ndsB a).length) h hP hK (hvk.opens hm).b hok hn1
  (fun w0 Q hds=>base_ck ⟨v.num,v.gen,16+(ndsB a).length,ixOf a⟩ hds hok.names hcl hw hr hck hsrt rfl rfl (v.size+([]:List UInt8).length) (by show 16≤16+_;omega) (by show 16+(ndsB a).length≤v.size+0;omega))
  (by rw [ndsB_append,List.append_assoc]) (by rw [List.length_append,superB_len]) (fun m hm=>hvk.ok m (List.mem_append_right _ hm)) (by rw [ixOf_from];exact hvk.ixOf) hsrt hlen (fun e=>absurd rfl e) (isShadow v) (fun s hs=>by
   rw [hmt] at hs
   obtain ⟨p,hp1,rfl⟩:=List.mem_map.1 (mem_namesOf.1 hs)
   rcases hnm p hp1 with e|e|e
   ·exact ours_all hok (.inl e)
   ·exact ours_all hok (.inr (.inl e))
   ·have e2:isShadow v p.1=false:=by rw [e];simpa [isShadow] using c_ne_s v.num v.gen v.num
    rw [e2]
    exact ⟨ours_own hok.names (.inl ⟨rfl,.inr (.inl e)⟩),by rw [e];exact hcl⟩) (by rw [hmt,ht])
 rw [hmt,ht] at this
 exact this
theorem VK.ckRight{d:Dk}{v:Vl}{ns:List Nd}{X:Nat}(h:VK d v ns X)(hs:v.size≤16777216)(hl:v.idx.length≤4096):Go.Proofs.YtfpjfoajonbndaaGreatDoor.ckRight (ckSnap v)=0:=by
 obtain ⟨f,g,hv,-⟩:=h.vi
 exact hv.ckRight hs hl
theorem VK.ckGood{d:Dk}{v:Vl}{ns:List Nd}{X:Nat}(h:VK d v ns X)(hn:v.num=1)(hl:v.idx.length≤4096):CkGood v:=by
 obtain ⟨f,g,hv,-⟩:=h.vi
 exact CkGood.of hv hn hl
theorem VK.snap{d:Dk}{v:Vl}{ns:List Nd}{X:Nat}(h:VK d v ns X)(hn:v.num=1):ckSnap v=⟨1,1,16+(ndsB ns).length,Go.Proofs.YtfpjfoajonbndaaGreatDoor.ixOf ns⟩:=by
 unfold ckSnap
 rw [hn,h.gen,h.size,h.ixOf]
theorem VI.nod{d:Dk}{v:Vl}{ns:List Nd}(h:VI d v ns):(d.now.map (·.1)).Nodup:=by
 obtain ⟨f,g,hfg,hl,hf,hg,-⟩:=h.now
 have hne:v.file≠mName v.num:=v_ne_m _ _ _
 rcases two_mem hl hf hg hne with e|e <;> rw [e] <;> simp [hne,Ne.symm hne]
theorem VD.ckF{d:Dk}{v:Vl}{ns:List Nd}(h:VD d v ns)(hn:v.num=1):CkF d v ns none none:=by
 have hk:=VK.of h.vi h.vi.nod
 obtain ⟨f,g,hfg,hl,-⟩:=h.vi.now
 refine hk.fresh ?_ hn hl
 obtain ⟨g,h1,h2⟩:=h.man
 exact ⟨g,h1,by rw [h.vi.gen];exact h2⟩
structure GoodC (a:List Nd) (b:List UInt8):Prop where
 eq:b=ckB ⟨1,1,16+(ndsB a).length,ixOf a⟩
 right:ckRight ⟨1,1,16+(ndsB a).length,ixOf a⟩=0
 keys:∀ p∈ixOf a,p.key<18446744073709551616∧p.cookie<4294967296
theorem VK.goodC{d:Dk}{v:Vl}{ns:List Nd}{X:Nat}(h:VK d v ns X)(hn:v.num=1)(hs:v.size≤16777216)(hl:v.idx.length≤4096):GoodC ns (ckB (ckSnap v)):=by
 have e:=h.snap hn
 have hr:=h.ckRight hs hl
 refine ⟨by rw [e],by rw [←e];exact hr,by rw [h.ixOf];exact (h.ckGood hn hl).keys⟩
theorem CkF.open1{w:World}{dp K:Nat}{P:Nat→Prop}{x:Dk}{v:Vl}{a ns:List Nd}{y:DFile}(h:DS w dp P K x)(hP:∀ k,P k→k<w.heap.size)(hK:K+64<1099511627776)(hc:CkF x v ns none (some y))(hp:a <+: ns)(hy:GoodC a y.b)(hok:VOk v)(hlen:v.idx.length≤4096) :
  Calls Tryz.prog 20 #[(.pointer (some ⟨dp,0,none⟩)),.int .i64 1,.int .i64 v.most] w (OpenTo w dp P (K+64) x v):=by
 obtain ⟨b,rfl⟩:=hp
 have hn:=hc.num
 have hg:=hc.vk.gen
 have hnn:NamesAt v.num 1:=namesAt9 (by omega) (by omega)
 obtain ⟨i,hi,hf⟩:=hc.ck
 have:=reopen_ck h hP hK hc.vk hc.man hok hnn hlen (fun p hp=>by
  rcases hc.own p hp with e|e|e|e
  ·exact .inl e
  ·exact .inr (.inl e)
  ·exact absurd e (get_none (show dirGet x.now (cName 1 0)=none from hc.dr) p hp)
  ·exact .inr (.inr (by rw [hn,hg];exact e))) (by rw [hn,hg,whole_at (by rw [hc.vk.armed];decide) hi,hf,hy.eq]) (by rw [hn,hg];exact hy.right) hy.keys
 rw [hn] at this
 exact this
def isDraft (s:Nm):Bool:=s == cName 1 0
theorem isDraft_no{s:Nm}(h:s≠cName 1 0):isDraft s=false:=by simpa [isDraft] using h
theorem CkF.tidied{c:Dk}{v:Vl}{ns:List Nd}{o n:Option DFile}(h:CkF c v ns o n)(hr:RestK c):∃ c',Dk.tidyL isDraft (namesOf c.now) false c=(0,c')∧CkF c' v ns none n∧RestK c':=by
 cases o with
 | none=>
  refine ⟨c,tidyL_none fun s hs=>isDraft_no fun e=>?_,h,hr⟩
  obtain ⟨p,hp,e2⟩:=List.mem_map.1 (mem_namesOf.1 hs)
  exact get_none (show dirGet c.now (cName 1 0)=none from h.dr) p hp (e2.trans e)
 | some x=>
  obtain ⟨i,hi,hx⟩:=h.dr
  obtain ⟨e1,h1⟩:=h.clear
  obtain ⟨e2,h2,-⟩:=h1.s4 (c:=⟨1,1,0,[]⟩)
  have hnd:(namesOf c.now).Nodup:=by
   have:=h.vk.nod
   exact (List.mergeSort_perm _ _).nodup_iff.2 this
  have ht:=tidyL_one (S:=cName 1 0) (d:=c) (mem_namesOf.2 (List.mem_map_of_mem (f:=(·.1)) (get_mem hi))) hnd (by rw [e1])
  refine ⟨_,ht.trans ?_,h2,rfl,rfl,fun p hp=>?_⟩
  ·rw [e1]
   exact h1.vk.syncNames_o.1
  ·exact hr.2.2 p (List.mem_filter.1 hp).1
def BaseAt (dp K:Nat) (c:Dk) (v:Vl) (ns:List Nd):Prop:=
 ∃(l0:List Ps)(from':Nat)(pre:List UInt8)(ns2:List Nd),(∀ (w0:World) (Q:Nat→Prop),DS w0 dp Q K c→Calls Tryz.prog 109 #[(.pointer (some ⟨dp,0,none⟩)),.agg #[.int .i64 v.num,.int .i64 v.gen,.int .i64 v.epoch,.bool v.shut],.int .i64 ((v.size+([]:List UInt8).length:Nat):Int)] w0 (BaseTo w0 l0 from'))∧superB v.num v.gen ++ ndsB ns=pre ++ ndsB ns2∧pre.length=from'∧(∀ m∈ns2,NdOk m)∧putAll l0 (posL from' ns2)=v.idx∧IxS l0
theorem CkF.lens{c:Dk}{v:Vl}{ns:List Nd}{o n:Option DFile}(h:CkF c v ns o n):v.file=vName 1 1∧cName v.num v.gen=cName 1 1∧mName v.num=mName 1∧sName v.num=sName 1:=by
 have h1:=h.num
 have h2:=h.vk.gen
 refine ⟨?_,by rw [h1,h2],by rw [h1],by rw [h1]⟩
 show vName v.num v.gen=_
 rw [h1,h2]
theorem CkF.opened{w:World}{dp K:Nat}{P:Nat→Prop}{c:Dk}{v:Vl}{ns:List Nd}{o n:Option DFile}(h:DS w dp P K c)(hP:∀ k,P k→k<w.heap.size)(hK:K+64<1099511627776)(hc:CkF c v ns o n)(hr:RestK c)(hb:BaseAt dp K c v ns)(hok:VOk v)(hlen:v.idx.length≤4096) :
  ∃ c',CkF c' v ns none n∧RestK c'∧Calls Tryz.prog 20 #[(.pointer (some ⟨dp,0,none⟩)),.int .i64 1,.int .i64 v.most] w (OpenTo w dp P (K+64) c' v):=by
 obtain ⟨c',ht,h1,h2⟩:=hc.tidied hr
 refine ⟨c',h1,h2,?_⟩
 obtain ⟨l0,from',pre,ns2,g1,g2,g3,g4,g5,g6⟩:=hb
 have hn:=hc.num
 have hg:=hc.vk.gen
 have hm:c.mendT v []=c:=if_pos rfl
 have hnn:NamesAt v.num 1:=by rw [hn];exact namesAt9 (by omega) (by omega)
 obtain ⟨e1,e2,e3,e4⟩:=hc.lens
 have q1:(vName 1 1).length≤1000:=by unfold vName numN Go.Lib.decDigits;decide
 have q2:(mName 1).length≤1000:=by unfold mName numN Go.Lib.decDigits;decide
 have:=open_gen (t:=[]) (D:=ndsB ns) (ns2:=ns2) (pre:=pre) (l0:=l0) (from':=from') h hP hK (hc.vk.opens hc.man).b hok hnn (fun w0 Q hd=>g1 w0 Q hd) g2 g3 g4 g5 g6 hlen (fun e=>absurd rfl e) isDraft (fun s hs=>by
   rw [hm] at hs
   obtain ⟨p,hp,rfl⟩:=List.mem_map.1 (mem_namesOf.1 hs)
   rcases hc.own p hp with e|e|e|e
   ·have e5:isDraft p.1=false:=by rw [e];exact isDraft_no (fun e6=>(oth_c v 0).1 e6.symm)
    rw [e5]
    exact ⟨ours_own hok.names (.inl ⟨rfl,.inl e⟩),by rw [e,e1];unfold maxLen;omega⟩
   ·have e5:isDraft p.1=false:=by rw [e];exact isDraft_no (fun e6=>(oth_c v 0).2.1 e6.symm)
    rw [e5]
    exact ⟨ours_own hok.names (.inl ⟨rfl,.inr (.inr e)⟩),by rw [e,e3];unfold maxLen;omega⟩
   ·have e5:isDraft p.1=true:=by rw [e];simp [isDraft]
    rw [e5]
    refine ⟨ours_other hok.names (r:=numN 0) (.inl (by rw [e,hn];rfl)) (by rw [e];exact (oth_c v 0).1) (by rw [e,e2];exact c_ne01) (by rw [e,c10];decide) (by rw [e1];exact q1),by rw [e,c10];decide⟩
   ·have e5:isDraft p.1=false:=by rw [e];exact isDraft_no (Ne.symm c_ne01)
    rw [e5]
    exact ⟨ours_own hok.names (.inl ⟨rfl,.inr (.inl (by rw [e2];exact e))⟩),by rw [e,c11];decide⟩) (by rw [hm,ht])
 rw [hm,ht,hn] at this
 exact this
end Go.Proofs.YtfpjfoajonbndaaGreatDoor
