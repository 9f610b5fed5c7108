import Derived.Test.YtfpjfoajonbndaaGreatDoorCh20
import Derived.Test.YtfpjfoajonbndaaGreatDoorChOpenNd
namespace Go.Proofs.YtfpjfoajonbndaaGreatDoor
set_option maxHeartbeats 8000000
set_option maxRecDepth 100000
open Go.RowKit
set_option maxRecDepth 100000
set_option maxHeartbeats 8000000
open Go.RowKit
theorem Reads.keepsZ{F:Nat→Prop}{w w':World}{sz:Nat}{a:Option Addr}{n c:Nat}{xs:List Value}(hz:0<sz)(h:Reads w sz (.slice a n c) n xs)(hk:Keeps F w w')(ha:∀ ad,a=some ad→0<n→ad.block<w.heap.size∧¬ F ad.block):Reads w' sz (.slice a n c) n xs:=by
 by_cases hn:n=0
 ·subst hn
  obtain ⟨h1,h2⟩:=h
  have hx:xs=[]:=List.eq_nil_of_length_eq_zero (by simpa using h1)
  subst hx
  refine ⟨h1,?_⟩
  rcases h2 with h2|⟨ad,c',e,hm,_⟩
  ·exact .inl h2
  ·exact .inr ⟨ad,c',e,hm,fun j u hu=>by simp at hu⟩
 ·obtain ⟨b,o,c',e,hb,hm,hc⟩:=reads_at h (by omega) hz
  obtain ⟨rfl,-,rfl⟩:=sl_inj e
  refine ⟨h.1,.inr ⟨⟨b,o,none⟩,c,rfl,hm,fun j u hu=>?_⟩⟩
  have e1:(⟨b,o,none⟩:Addr).add j=⟨b,o+j,none⟩:=by
   unfold Addr.add
   by_cases hj:j=0 <;> simp [hj]
  rw [e1,hk.cell hb (ha _ rfl (by omega)).2]
  exact hc j u hu
theorem Reads.keepsN{F:Nat→Prop}{w w':World}{sz:Nat}{a:Option Addr}{n c:Nat}{xs:List Value}(hz:0<sz)(h:Reads w sz (.slice a n c) n xs)(hk:Keeps F w w')(ha:∀ ad,a=some ad→ad.block<w.heap.size∧¬ F ad.block):Reads w' sz (.slice a n c) n xs:=h.keepsZ hz hk fun ad e _=>ha ad e
structure NdsAt (w:World) (P:Nat→Prop) (a:Option Addr) (n c:Nat) (xs:List NdE):Prop where
 len:xs.length=n
 row:Reads w 4 (.slice a n c) n (xs.flatMap NdE.cs)
 blk:∀ ad,a=some ad→P ad.block∧ad.block<w.heap.size
 ins:∀ x∈xs,NdArg w x∧∀ ad,x.a=some ad→0<x.n.data.length→P ad.block∧ad.block<w.heap.size
theorem NdsAt.kp{P:Nat→Prop}{w w':World}{a:Option Addr}{n c:Nat}{xs:List NdE}(h:NdsAt w P a n c xs)(hk:KP P w w'):NdsAt w' P a n c xs:=
 ⟨h.len,h.row.keepsN (by omega) hk (fun ad e=>⟨(h.blk ad e).2,fun e2=>e2 (h.blk ad e).1⟩),fun ad e=>⟨(h.blk ad e).1,Nat.lt_of_lt_of_le (h.blk ad e).2 hk.size⟩,
  fun x hx=>⟨⟨(h.ins x hx).1.key,(h.ins x hx).1.cookie,(h.ins x hx).1.data.keepsZ (by omega) hk (fun ad e hl=>⟨((h.ins x hx).2 ad e hl).2,fun e2=>e2 ((h.ins x hx).2 ad e hl).1⟩)⟩,fun ad e hl=>⟨((h.ins x hx).2 ad e hl).1,Nat.lt_of_lt_of_le ((h.ins x hx).2 ad e hl).2 hk.size⟩⟩⟩
theorem NdRow.at'{T:TypeId}{P:Nat→Prop}{w:World}{B:Nat}{a:Option Addr}{n c:Nat}{xs:List NdE}(h:NdRow T w B (.slice a n c) xs)(hn:xs.length=n)(hP:∀ k,B≤k→k<w.heap.size→P k)(hx:∀ x∈xs,x.n.key<18446744073709551616∧x.n.cookie<4294967296):NdsAt w P a n c xs:=by
 have hr:=h.row
 rw [hn] at hr
 refine ⟨hn,reads_of_owns hr,fun ad e=>?_,fun x hxm=>⟨⟨(hx x hxm).1,(hx x hxm).2,(h.ins x hxm).1⟩,fun ad e _=>⟨hP _ ((h.ins x hxm).2 ad e).1 ((h.ins x hxm).2 ad e).2,((h.ins x hxm).2 ad e).2⟩⟩⟩
 have:=hr.lt ad.block (by rw [e];rfl)
 exact ⟨hP _ this.1 this.2,this.2⟩
theorem ps_cells{w:World}{v:Value}{n:Nat}{l:List Ps}(h:Reads w 5 v n (l.flatMap psC)){k:Nat}{x:Ps}(hx:l[k]? = some x)(hn:0<n) :
  ∃ b o c,v=.slice (some ⟨b,o,none⟩) n c∧b<w.heap.size∧w.cell? ⟨b,o+k * 5,none⟩=some (.int .u64 x.key)∧w.cell? ⟨b,o+k * 5+1,none⟩=some (.int .i64 x.off)∧w.cell? ⟨b,o+k * 5+2,none⟩=some (.int .i64 x.len)∧w.cell? ⟨b,o+k * 5+3,none⟩=some (.int .u32 x.cookie)∧w.cell? ⟨b,o+k * 5+4,none⟩=some (.bool x.gone):=by
 obtain ⟨b,o,c,e,h1,_,h2⟩:=reads_at h hn (by omega)
 have key:∀ j u,j<5→(psC x)[j]? = some u→w.cell? ⟨b,o+(k * 5+j),none⟩=some u:=fun j u hj hu=>h2 (k * 5+j) u (by rw [getElem?_flatMap_row psC 5 psC_len l k j hj,hx];exact hu)
 exact ⟨b,o,c,e,h1,key 0 _ (by omega) rfl,key 1 _ (by omega) rfl,key 2 _ (by omega) rfl,key 3 _ (by omega) rfl,key 4 _ (by omega) rfl⟩
theorem rpad_any(n:Nat)(hn:n≤1000000000)(w:World):Calls Tryz.prog 144 #[.int .i64 n] w fun e w'=>e=.returned (.int .i64 (padN n))∧w=w':=by
 have h0:(0:Int)≤(n:Int):=by omega
 have hp:padN n≤7:=by unfold padN;omega
 have HP:=Hd (show padN n=(8 - n % 8) % 8 from rfl)
 obtain ⟨P,hP⟩:∃ P,P=padN n:=⟨_,rfl⟩
 rw [←hP] at HP hp ⊢
 clear hP
 go_enter Tryz.func144,Tryz.ntmps144
 go_wp2_with fail
 go_loopw [3] (fun i wr=>∃ k:Nat,k≤P∧i=.int .i64 k∧w=wr) (fun i _=>P - (intOf i).toNat)
 case atStart=>exact ⟨0,Nat.zero_le _,rfl,(by first|trivial|rfl)⟩
 case round=>
  obtain ⟨k,hk,rfl,rfl⟩:=hrel
  by_cases hlt:k<P
  ·have h1:(((n:Int) % 8+(k:Int)) % 8 != 0)=true:=by have:=HP.out;simp;omega
   go_wp2_with fail
   go_roundw
   case rel=>exact ⟨k+1,by omega,by go_num,(by first|trivial|rfl)⟩
   case measure=>simp [intOf];omega
  ·have h1:(((n:Int) % 8+(k:Int)) % 8 != 0)=false:=by have:=HP.out;simp;omega
   have HK:=Hd (show k=P by omega)
   go_wp2_with fail
   go_ret
   exact ⟨by rw [←HK.out];rfl,rfl⟩
theorem rcheck_any(x:NdE)(hd:x.n.data.length≤1000000000)(w:World):Calls Tryz.prog 104 #[.agg x.cs.toArray] w fun e w'=>e=.returned (.int .i64 (ndCheck x.n))∧Below w.heap.size w w':=by
 obtain ⟨⟨key,cookie,gone,data⟩,a,c⟩:=x
 unfold NdE.cs ndCheck
 simp only at hd ⊢
 obtain ⟨l,hl⟩:∃ l,l=data.length:=⟨_,rfl⟩
 rw [←hl] at hd ⊢
 clear hl
 by_cases h1:4096<l
 ·have d1:decide ((4096:Int)<(l:Int))=true:=by simp;omega
  have d2:decide (4096<l)=true:=by simp;omega
  rw [if_pos h1]
  go_enter Tryz.func104,Tryz.ntmps104
  go_wp2_with fail
  go_ret
  exact ⟨rfl,belo⟩
 have d1:decide ((4096:Int)<(l:Int))=false:=by simp;omega
 have d2:decide (4096<l)=false:=by simp;omega
 rw [if_neg h1]
 cases gone
 ·rw [if_neg (by simp)]
  go_enter Tryz.func104,Tryz.ntmps104
  go_wp2_with fail
  go_ret
  exact ⟨rfl,belo⟩
 ·by_cases h2:0<l
  ·have d3:decide ((0:Int)<(l:Int))=true:=by simp;omega
   have d4:decide (0<l)=true:=by simp;omega
   rw [if_pos ⟨rfl,h2⟩]
   go_enter Tryz.func104,Tryz.ntmps104
   go_wp2_with fail
   go_ret
   exact ⟨rfl,belo⟩
  ·have d3:decide ((0:Int)<(l:Int))=false:=by simp;omega
   have d4:decide (0<l)=false:=by simp;omega
   rw [if_neg (fun e=>h2 e.2)]
   go_enter Tryz.func104,Tryz.ntmps104
   go_wp2_with fail
   go_ret
   exact ⟨rfl,belo⟩
theorem ixFind_none{l:List Ps}{key:Nat}(h:∀ x∈l,x.key≠key):ixFind l key=none:=by
 cases hf:ixFind l key with
 | none=>rfl
 | some x=>
  have:=mem_of_ixFind hf
  exact absurd this.2 (h x this.1)
theorem rfind_any(a:Option Addr)(n c:Nat)(l:List Ps)(key:Nat)(w:World)(hn:l.length=n)(h:Reads w 5 (.slice a n c) n (l.flatMap psC)) :
  Calls Tryz.prog 145 #[.slice a n c,.int .u64 key] w fun e w'=>∃ r:Int,e=.returned (.int .i64 r)∧(r<0↔ixFind l key=none)∧w=w':=by
 have HN:=Hd hn
 have HR:=Hd h
 have hmx:=h.le
 unfold maxLen at hmx
 clear hn h
 go_enter Tryz.func145,Tryz.ntmps145
 go_wp2_with fail
 go_loopw [5] (fun i wr=>∃ k:Nat,k≤n∧i=.int .i64 k∧w=wr∧∀ j x,j<k→l[j]? = some x→x.key≠key) (fun i _=>n - (intOf i).toNat)
 case atStart=>exact ⟨0,Nat.zero_le _,rfl,(by first|trivial|rfl),fun j x hj=>absurd hj (Nat.not_lt_zero j)⟩
 case round=>
  obtain ⟨k,hk,rfl,rfl,hno⟩:=hrel
  have HNO:=Hd hno
  clear hno
  by_cases hlt:k<n
  ·obtain ⟨x,hx⟩:∃ x,l[k]? = some x:=⟨_,List.getElem?_eq_getElem (by rw [HN.out];exact hlt)⟩
   obtain ⟨b,o,c',e,hb,q0,q1,q2,q3,q4⟩:=ps_cells HR.out hx (by omega)
   obtain ⟨rfl,-,rfl⟩:=sl_inj e
   have HX:=Hd hx
   have hj0:(0:Int)≤(k:Int):=by omega
   have hj1:(k:Int)<(n:Int):=by omega
   clear hx e q1 q2 q3 q4
   obtain ⟨xk,xo,xl,xc,xg⟩:=x
   simp only at q0
   by_cases he:xk=key
   ·have h1:((xk:Int) == (key:Int))=true:=by simp;omega
    have HE:=Hd he
    clear he
    go_wp2_with fail
    go_ret
    refine ⟨k,rfl,⟨fun h=>by omega,fun h=>?_⟩,rfl⟩
    exfalso
    have:∀ {l':List Ps},(⟨xk,xo,xl,xc,xg⟩:Ps)∈l'→ixFind l' key≠none:=by
     intro l'
     induction l' with
     | nil=>intro h;exact absurd h List.not_mem_nil
     | cons a r ih=>
      intro hm
      unfold ixFind
      split
      ·simp
      ·rename_i hne
       rcases List.mem_cons.1 hm with rfl|hm
       ·exact absurd HE.out hne
       ·exact ih hm
    exact this (List.mem_of_getElem? HX.out) h
   ·have h1:((xk:Int) == (key:Int))=false:=by simp;omega
    have HE:=Hd he
    clear he
    go_wp2_with fail
    go_roundw
    case rel=>exact ⟨k+1,by omega,by go_num,(by first|trivial|rfl),fun j x hj hx=>by
     by_cases hjk:j=k
     ·rw [hjk,HX.out] at hx
      cases hx
      exact HE.out
     ·exact HNO.out j x (by omega) hx⟩
    case measure=>simp [intOf];omega
  ·have hj1:¬ (k:Int)<(n:Int):=by omega
   have hj2:decide ((k:Int)<(n:Int))=false:=by simp;omega
   have hj3:decide (k<n)=false:=by simp;omega
   go_wp2_with fail
   go_ret
   refine ⟨-1,rfl,⟨fun _=>ixFind_none fun x hx=>?_,fun _=>by decide⟩,rfl⟩
   obtain ⟨j,hj⟩:=List.mem_iff_getElem?.1 hx
   have:=(List.getElem?_eq_some_iff.1 hj).1
   have:=HN.out
   exact HNO.out j x (by omega) hj
theorem lastOf_none{l:List Nd}{key:Nat}(h:∀ x∈l,x.key≠key):lastOf l key=none:=by
 induction l with
 | nil=>rfl
 | cons a r ih=>
  unfold lastOf
  rw [ih fun x hx=>h x (List.mem_cons_of_mem _ hx)]
  simp only
  rw [if_neg (h a List.mem_cons_self)]
theorem lastOf_at:∀ {l:List Nd} {key i:Nat} {x:Nd},l[i]? = some x→x.key=key→(∀ j y,i<j→l[j]? = some y→y.key≠key)→lastOf l key=some x
 | [],_,_,_,h,_,_=>by simp at h
 | a :: r,key,0,x,h,hk,hn=>by
  simp at h
  subst h
  unfold lastOf
  rw [lastOf_none fun y hy=>by
   obtain ⟨j,hj⟩:=List.mem_iff_getElem?.1 hy
   exact hn (j+1) y (by omega) (by simpa using hj)]
  simp only
  rw [if_pos hk]
 | a :: r,key,i+1,x,h,hk,hn=>by
  unfold lastOf
  rw [lastOf_at (l:=r) (i:=i) (by simpa using h) hk (fun j y hj hy=>hn (j+1) y (by omega) (by simpa using hy))]
def ndOV:Option NdE→Value
 | some x=>.agg x.cs.toArray
 | none=>.agg #[.int .u64 0,.int .u32 0,.bool false,.slice none 0 0]
theorem rnewest_any(num most epoch size:Int)(sl:Bool)(vl:Value)(a:Option Addr)(n c:Nat)(xs:List NdE)(key:Nat)(w:World)(hn:xs.length=n)(h:Reads w 4 (.slice a n c) n (xs.flatMap NdE.cs))(hvl:∃ al nl cl,vl=.slice al nl cl) :
  Calls Tryz.prog 55 #[.agg #[.int .i64 num,.int .i64 most,.int .i64 epoch,.int .i64 size,.bool sl,vl,.slice a n c],.int .u64 key] w fun e w'=>∃ r:Option NdE,e=.returned (.tuple #[ndOV r,.bool r.isSome])∧r.map NdE.n=lastOf (xs.map NdE.n) key∧(∀ x,r=some x→x∈xs)∧Below w.heap.size w w':=by
 obtain ⟨al,nl,cl,rfl⟩:=hvl
 have HN:=Hd hn
 have HR:=Hd h
 have hmx:=h.le
 unfold maxLen at hmx
 clear hn h
 go_enter Tryz.func55,Tryz.ntmps55
 go_upto_region 1 with fail
 obtain ⟨w0,hw0⟩:∃ w0:World,w0=(w.alloc (.cells #[.int .i64 num,.int .i64 most,.int .i64 epoch,.int .i64 size,.bool sl,.slice al nl cl,.slice a n c] 43)).alloc (.cells #[.int .u64 0,.int .u32 0,.bool false,.slice none 0 0] 49):=⟨_,rfl⟩
 have HB0:=Hd (show Below w.heap.size w w0 by rw [hw0];exact belo)
 have KV0:=Hd (show w0.heap[w.heap.size]? = some (.cells #[.int .i64 num,.int .i64 most,.int .i64 epoch,.int .i64 size,.bool sl,.slice al nl cl,.slice a n c] 43 (0,0)) by rw [hw0];exact blk_alloc (heap_new w _) _)
 have KN0:=Hd (show w0.heap[w.heap.size+1]? = some (.cells #[.int .u64 0,.int .u32 0,.bool false,.slice none 0 0] 49 (0,0)) by rw [hw0];exact blk_new _ (by simp))
 rw [←hw0]
 clear hw0
 have hz0:=HB0.out.size
 obtain ⟨v0,v1,v2,v3,v4,v5,v6⟩:=cells7' KV0.out
 obtain ⟨q0,q1,q2,q3⟩:=ncells KN0.out
 obtain ⟨f0,f1,f2,f3⟩:=nfree KN0.out
 have hlv:=blk_lt KV0.out
 have hln:=blk_lt KN0.out
 go_wp2_with fail
 go_loopw [6] (fun i wr=>∃ k:Nat,k≤n∧i=.int .i64 ((k:Int) - 1)∧w0=wr∧∀ j x,k≤j→xs[j]? = some x→x.n.key≠key) (fun i _=>(intOf i+1).toNat)
 case atStart=>exact ⟨n,Nat.le_refl _,rfl,(by first|trivial|rfl),fun j x hj hx=>by
  have:=(List.getElem?_eq_some_iff.1 hx).1
  have:=HN.out
  omega⟩
 case round=>
  obtain ⟨k,hk,rfl,rfl,hno⟩:=hrel
  have HNO:=Hd hno
  clear hno
  by_cases h0:0<k
  ·obtain ⟨i,rfl⟩:∃ i,k=i+1:=⟨k - 1,by omega⟩
   obtain ⟨x,hx⟩:∃ x,xs[i]? = some x:=⟨_,List.getElem?_eq_getElem (by rw [HN.out];omega)⟩
   obtain ⟨b,o,c',e,hb,r0,r1,r2,r3⟩:=nd_cells (HR.out.below HB0.out) hx (by omega)
   obtain ⟨rfl,-,rfl⟩:=sl_inj e
   have HX:=Hd hx
   have hj0:(0:Int)≤(i:Int):=by omega
   have hj1:(i:Int)<(n:Int):=by omega
   rw [show ((i+1:Nat):Int) - 1=(i:Int) by omega]
   clear hx e
   obtain ⟨⟨xk,xc,xg,xd⟩,xa,xcp⟩:=x
   simp only at r0 r1 r2 r3
   by_cases he:xk=key
   ·have h1:((xk:Int) == (key:Int))=true:=by simp;omega
    have HE:=Hd he
    clear he
    go_wp2
    obtain ⟨wf,hwf⟩:∃ wf,wf=set4 w0 (w.heap.size+1) (.int .u64 xk) (.int .u32 xc) (.bool xg) (.slice xa xd.length xcp):=⟨_,rfl⟩
    have HBF:=Hd (show Below w.heap.size w wf by rw [hwf];exact HB0.out.trans (set4_below (by omega) _ _ _ _))
    have kbf:=store4 (KN0.out) (.int .u64 xk) (.int .u32 xc) (.bool xg) (.slice xa xd.length xcp)
    rw [←hwf] at kbf
    obtain ⟨s0,s1,s2,s3⟩:=ncells kbf
    unfold set4 at hwf
    rw [←hwf]
    refine bodyPost_ret (v:=?_) ?_ rfl ?_
    rotate_left;(focus (simp [results,Tryz.results55,go_sem,s0,s1,s2,s3];exact rfl))
    refine ⟨some ⟨⟨xk,xc,xg,xd⟩,xa,xcp⟩,rfl,?_,(by intro x hx;cases hx;exact List.mem_of_getElem? HX.out),HBF.out⟩
    refine (lastOf_at (i:=i) (x:=⟨xk,xc,xg,xd⟩) (by rw [List.getElem?_map,HX.out];rfl) HE.out (fun j y hj hy=>?_)).symm
    rw [List.getElem?_map] at hy
    obtain ⟨z,hz,rfl⟩:=Option.map_eq_some_iff.1 hy
    exact HNO.out j z (by omega) hz
   ·have h1:((xk:Int) == (key:Int))=false:=by simp;omega
    have HE:=Hd he
    clear he
    go_wp2_with fail
    go_roundw
    case rel=>exact ⟨i,by omega,(by first|rfl|go_num),(by first|trivial|rfl),fun j x hj hx=>by
     by_cases hjk:j=i
     ·rw [hjk,HX.out] at hx
      cases hx
      exact HE.out
     ·exact HNO.out j x (by omega) hx⟩
    case measure=>(simp [intOf]) <;> omega
  ·have hk0:k=0:=by omega
   subst hk0
   go_wp2
   obtain ⟨wf,hwf⟩:∃ wf,wf=set4 w0 (w.heap.size+1) (.int .u64 0) (.int .u32 0) (.bool false) (.slice none 0 0):=⟨_,rfl⟩
   have HBF:=Hd (show Below w.heap.size w wf by rw [hwf];exact HB0.out.trans (set4_below (by omega) _ _ _ _))
   have kbf:=store4 (KN0.out) (.int .u64 0) (.int .u32 0) (.bool false) (.slice none 0 0)
   rw [←hwf] at kbf
   obtain ⟨s0,s1,s2,s3⟩:=ncells kbf
   unfold set4 at hwf
   rw [←hwf]
   refine bodyPost_ret (v:=?_) ?_ rfl ?_
   rotate_left;(focus (simp [results,Tryz.results55,go_sem,s0,s1,s2,s3];exact rfl))
   refine ⟨none,rfl,?_,(by intro x hx;cases hx),HBF.out⟩
   refine (lastOf_none fun y hy=>?_).symm
   obtain ⟨x,hx,rfl⟩:=List.mem_map.1 hy
   obtain ⟨j,hj⟩:=List.mem_iff_getElem?.1 hx
   exact HNO.out j x (Nat.zero_le _) hj
def VF (w:World) (vp dp:Nat) (F:Nat→Prop) (K:Nat) (d:Dk) (v:Vl):Prop:=
 ∃ ix vx G q,VolAt w vp dp ix vx v∧DiskAt w dp G q d∧DkOk K d∧(∀ k,G k→¬ VFoot vp ix vx k)∧(∀ k,F k↔G k∨VFoot vp ix vx k)∧(∀ k,F k→k<w.heap.size)∧VOk v
theorem VS.foot{w:World}{vp dp K:Nat}{P:Nat→Prop}{d:Dk}{v:Vl}(h:VS w vp dp P K d v):∃ F,VF w vp dp F K d v∧∀ k,F k→¬ P k:=by
 obtain ⟨ix,vx,h1,⟨G,q,g1,g2,g3⟩,h3,h4⟩:=h
 refine ⟨fun k=>G k∨VFoot vp ix vx k,⟨ix,vx,G,q,h1,g1,g2,fun k hk e=>(g3 k hk).1 (.inr e),fun k=>Iff.rfl,fun k hk=>?_,h4⟩,fun k hk e=>?_⟩
 ·rcases hk with hk|hk
  ·exact (g3 k hk).2
  ·exact (h3 k hk).2
 ·rcases hk with hk|hk
  ·exact (g3 k hk).1 (.inl e)
  ·exact (h3 k hk).1 e
theorem VF.vs{w:World}{vp dp K:Nat}{F P:Nat→Prop}{d:Dk}{v:Vl}(h:VF w vp dp F K d v)(hF:∀ k,F k→¬ P k):VS w vp dp P K d v:=by
 obtain ⟨ix,vx,G,q,h1,h2,h3,h4,h5,h6,h7⟩:=h
 refine ⟨ix,vx,h1,⟨G,q,h2,h3,fun k hk=>⟨fun e=>?_,h6 k ((h5 k).2 (.inl hk))⟩⟩,fun k hk=>⟨hF k ((h5 k).2 (.inr hk)),h6 k ((h5 k).2 (.inr hk))⟩,h7⟩
 rcases e with e|e
 ·exact hF k ((h5 k).2 (.inl hk)) e
 ·exact h4 k hk e
theorem VF.keeps{w w':World}{vp dp K:Nat}{F R:Nat→Prop}{d:Dk}{v:Vl}(h:VF w vp dp F K d v)(hk:Keeps R w w')(hR:∀ k,F k→¬ R k):VF w' vp dp F K d v:=by
 obtain ⟨ix,vx,G,q,h1,h2,h3,h4,h5,h6,h7⟩:=h
 exact ⟨ix,vx,G,q,h1.keeps hk (fun k hf=>hR k ((h5 k).2 (.inr hf))),h2.keeps hk (fun k hg=>hR k ((h5 k).2 (.inl hg))),h3,h4,h5,fun k hf=>Nat.lt_of_lt_of_le (h6 k hf) hk.size,h7⟩
theorem VF.kp{w w':World}{vp dp K:Nat}{F P:Nat→Prop}{d:Dk}{v:Vl}(h:VF w vp dp F K d v)(hk:KP P w w')(hP:∀ k,F k→P k):VF w' vp dp F K d v:=
 h.keeps hk fun k hf e=>e (hP k hf)
theorem VF.lt{w:World}{vp dp K:Nat}{F:Nat→Prop}{d:Dk}{v:Vl}(h:VF w vp dp F K d v):∀ k,F k→k<w.heap.size:=by
 obtain ⟨ix,vx,G,q,h1,h2,h3,h4,h5,h6,h7⟩:=h
 exact h6
theorem VF.at'{w:World}{vp dp K:Nat}{F:Nat→Prop}{d:Dk}{v:Vl}(h:VF w vp dp F K d v):∃ ix vx P,VolAt w vp dp ix vx v∧DS w dp P K d∧VOk v:=by
 obtain ⟨ix,vx,h1,h2,h3,h4⟩:=h.vs (P:=fun _=>False) (fun _ _ e=>e)
 exact ⟨ix,vx,_,h1,h2,h4⟩
def canN (key:Nat) (g:Bool):Nd:=⟨key,key % 3,g,if g=true then [] else [UInt8.ofNat key]⟩
def Can (n:Nd):Prop:=n=canN n.key n.gone
theorem can_len(key:Nat)(g:Bool):(canN key g).data.length≤1:=by cases g <;> simp [canN]
theorem can_size(key:Nat)(g:Bool):ndSize (canN key g).data.length≤40:=by
 have:=can_len key g
 unfold ndSize padN
 omega
theorem can_check(key:Nat)(g:Bool):ndCheck (canN key g)=0:=by cases g <;> simp [ndCheck,canN]
def gOf (v:Vl) (k:Nat):Option Bool:=(ixFind v.idx k).map fun p=>p.gone
def joinG:Option Bool→Bool→Bool
 | none,g=>g
 | some o,g=>o || g
structure CanV (d:Dk) (v:Vl) (num m:Nat):Prop where
 vi:∃ ns,VI d v ns∧(∀ n∈ns,Can n)∧ns.length≤m
 num:v.num=num
 most:v.most=1048576
 size:v.size≤16+40 * m
theorem CanV.more{d:Dk}{v:Vl}{num m m':Nat}(h:CanV d v num m)(hm:m≤m'):CanV d v num m':=by
 obtain ⟨⟨ns,h1,h2,h3⟩,h4,h5,h6⟩:=h
 exact ⟨⟨ns,h1,h2,by omega⟩,h4,h5,by omega⟩
theorem CanV.pos{d:Dk}{v:Vl}{num m:Nat}(h:CanV d v num m)(hm:m≤1000):∀ p∈v.idx,p.len≤4096∧p.off≤1000000000:=by
 obtain ⟨ns,h1,h2,h3⟩:=h.vi
 intro p hp
 have h1':=ixFind_mem h1.srt hp
 rw [h1.idx] at h1'
 cases hx:newest ns 16 p.key with
 | none=>rw [hx] at h1';cases h1'
 | some x=>
  obtain ⟨o,n⟩:=x
  rw [hx] at h1'
  simp only [Option.map_some,Option.some.injEq] at h1'
  obtain ⟨hmem,_,a,b,hab,ho⟩:=newest_some hx
  have hs:=h1.size
  have hsz:=h.size
  have hl:=(h1.ok n hmem).2.2.1
  rw [hab,ndsB_append,List.length_append] at hs
  rw [←h1']
  exact ⟨hl,by show o≤_;omega⟩
theorem CanV.lay{d:Dk}{v:Vl}{num m:Nat}(h:CanV d v num m)(hm:m≤1000)(key:Nat)(g:Bool)(hk:key<18446744073709551616) :
  ∃ d' v',v.lay d (canN key g)=(0,d',v')∧CanV d' v' num (m+1)∧(v.get d (canN key g).key (canN key g).cookie).2.1=false∧∀ k,gOf v' k=if k=key then some (joinG (gOf v k) g) else gOf v k:=by
 obtain ⟨ns,h1,h2,h3⟩:=h.vi
 have hsz:=h.size
 have hcs:=can_size key g
 have hcl:=can_len key g
 have hix:=h1.idx key
 have hgt:(v.get d (canN key g).key (canN key g).cookie).2.1=false:=by
  have:=h1.gets (canN key g).key (canN key g).cookie
  by_cases h0:(Rv.of v ns).look (canN key g).key (canN key g).cookie=0
  ·obtain ⟨_,_,_,_,e⟩:=this.2 h0
   rw [e]
  ·have h9:=h1.look (canN key g).key (canN key g).cookie
   unfold Vl.get
   rw [if_pos (by rw [h9];exact h0)]
 -- a needle written
 have hwrite:∃ d' v',v.write d (canN key g)=(0,d',v')∧CanV d' v' num (m+1)∧∀ k,gOf v' k=if k=key then some g else gOf v k:=by
  have hroom:v.room key (ndSize (canN key g).data.length)=true:=by
   unfold Vl.room
   have:=h1.len
   simp only [Bool.and_eq_true,Bool.or_eq_true,decide_eq_true_eq]
   rw [h.most]
   exact ⟨by omega,.inr (by omega)⟩
  obtain ⟨d',v',e1,e2,e3⟩:=h1.write (n:=canN key g) hk (by show key % 3<_;omega) (can_check key g) hroom (by omega)
  refine ⟨d',v',e1,⟨⟨ns ++ [canN key g],e2,fun n hn=>?_,by simp;omega⟩,by rw [e3];exact h.num,by rw [e3];exact h.most,by rw [e3];show v.size+_≤_;omega⟩,fun k=>?_⟩
  ·rcases List.mem_append.1 hn with hn|hn
   ·exact h2 n hn
   ·obtain rfl:n=canN key g:=by simpa using hn
    rfl
  ·unfold gOf
   rw [e3]
   show (ixFind (ixPut v.idx (posOf v.size (canN key g))) k).map _=_
   rw [ixFind_put _ _ _ h1.srt]
   have ek:(posOf v.size (canN key g)).key=key:=rfl
   rw [ek]
   by_cases e:key=k
   ·rw [if_pos e,if_pos e.symm];rfl
   ·rw [if_neg e,if_neg (fun e2=>e e2.symm)]
 unfold Vl.lay
 rw [if_neg (by rw [can_check];simp)]
 have ekey:(canN key g).key=key:=rfl
 rw [ekey]
 cases hx:newest ns 16 key with
 | none=>
  rw [hx] at hix
  rw [hix]
  obtain ⟨d',v',e1,e2,e3⟩:=hwrite
  refine ⟨d',v',e1,e2,hgt,fun k=>?_⟩
  rw [e3]
  by_cases e:k=key
  ·subst e
   rw [if_pos rfl,if_pos rfl]
   unfold gOf
   rw [hix]
   rfl
  ·rw [if_neg e,if_neg e]
 | some x=>
  obtain ⟨o,n⟩:=x
  obtain ⟨hmem,hnk,_⟩:=newest_some hx
  have hcan:=h2 n hmem
  rw [hx] at hix
  simp only [Option.map_some] at hix
  rw [hix]
  have hgk:gOf v key=some n.gone:=by unfold gOf;rw [hix];rfl
  have hck:(posOf o n).cookie=(canN key g).cookie:=by
   show n.cookie=key % 3
   rw [hcan]
   show n.key % 3=_
   rw [hnk]
  have hsame:CanV d v num (m+1):=h.more (by omega)
  simp only
  rw [if_neg (by rw [hck];simp)]
  have hpg:(posOf o n).gone=n.gone:=rfl
  rw [hpg]
  cases hng:n.gone with
  | true=>
   rw [if_pos rfl]
   refine ⟨d,v,rfl,hsame,hgt,fun k=>?_⟩
   by_cases e:k=key
   ·subst e
    rw [if_pos rfl,hgk,hng]
    cases g <;> rfl
   ·rw [if_neg e]
  | false=>
   rw [if_neg (by simp)]
   have hcg:(canN key g).gone=g:=rfl
   rw [hcg]
   cases g with
   | true=>
    rw [if_pos rfl]
    obtain ⟨d',v',e1,e2,e3⟩:=hwrite
    refine ⟨d',v',e1,e2,hgt,fun k=>?_⟩
    rw [e3]
    by_cases e:k=key
    ·subst e
     rw [if_pos rfl,if_pos rfl,hgk]
     cases n.gone <;> rfl
    ·rw [if_neg e,if_neg e]
   | false=>
    rw [if_neg (by simp)]
    have hgot:=h1.got hx hng
    have hnc:n.cookie=(canN key false).cookie:=hck
    rw [hnc] at hgot
    have hgot':v.get d key (canN key false).cookie=(0,false,n):=hgot
    rw [hgot',if_neg (by simp)]
    have hnn:n=canN key false:=by
     rw [hcan,hng,hnk]
    rw [if_pos hnn]
    refine ⟨d,v,rfl,hsame,rfl,fun k=>?_⟩
    by_cases e:k=key
    ·subst e
     rw [if_pos rfl,hgk,hng]
     rfl
    ·rw [if_neg e]
theorem CanV.load{d:Dk}{v:Vl}{num m:Nat}(h:CanV d v num m)(hm:m≤64):(v.load d 0 64).l=v.idx.map (fun p=>canN p.key p.gone)∧(v.load d 0 64).more=false∧v.idx.length≤64∧∀ p∈v.idx,p.key<18446744073709551616:=by
 obtain ⟨ns,h1,h2,h3⟩:=h.vi
 have hil:v.idx.length≤64:=by have:=h1.len;omega
 have hk65:v.keys 0 (((64:Nat):Int)+1)=v.idx:=keys_zero v (by omega) (by show v.idx.length≤65;omega)
 have hone:∀ p∈v.idx,takeOne v d p=some (canN p.key p.gone)∧p.key<18446744073709551616:=by
  intro p hp
  have h1':=ixFind_mem h1.srt hp
  rw [h1.idx] at h1'
  cases hx:newest ns 16 p.key with
  | none=>rw [hx] at h1';cases h1'
  | some x=>
   obtain ⟨o,n⟩:=x
   rw [hx] at h1'
   simp only [Option.map_some,Option.some.injEq] at h1'
   obtain ⟨hmem,hnk,_⟩:=newest_some hx
   have hcan:=h2 n hmem
   have hgn:p.gone=n.gone:=by rw [←h1'];rfl
   have hck:p.cookie=n.cookie:=by rw [←h1'];rfl
   have hc3:n.cookie=p.key % 3:=by
    rw [hcan]
    show n.key % 3=_
    rw [hnk]
   refine ⟨?_,by have:=(h1.ok n hmem).1;omega⟩
   unfold takeOne
   rw [hgn]
   cases hng:n.gone with
   | true=>
    rw [if_pos rfl,hck,hc3]
    rfl
   | false=>
    rw [if_neg (by simp)]
    have hgot:=h1.got hx hng
    rw [hck,hgot,if_neg (by simp)]
    congr 1
    rw [hcan,hng,hnk]
 refine ⟨?_,?_,hil,fun p hp=>(hone p hp).2⟩
 ·show ((v.keys 0 (((64:Nat):Int)+1)).take 64).filterMap (takeOne v d)=_
  rw [hk65,List.take_of_length_le hil]
  have:∀ l:List Ps,(∀ p∈l,takeOne v d p=some (canN p.key p.gone))→l.filterMap (takeOne v d)=l.map fun p=>canN p.key p.gone:=by
   intro l
   induction l with
   | nil=>intro _;rfl
   | cons a r ih=>
    intro ha
    rw [List.filterMap_cons,ha a List.mem_cons_self]
    simp only [List.map_cons]
    rw [ih fun q hq=>ha q (List.mem_cons_of_mem _ hq)]
  exact this _ fun p hp=>(hone p hp).1
 ·show decide (64<(v.keys 0 (((64:Nat):Int)+1)).length)=false
  rw [hk65]
  simp
  omega
def ndAt (ns:List Nd) (p:Ps):Nd:=(lastOf ns p.key).getD ⟨0,0,false,[]⟩
theorem VI.pos{d:Dk}{v:Vl}{ns:List Nd}(h:VI d v ns){p:Ps}(hp:p∈v.idx):∃ o n,newest ns 16 p.key=some (o,n)∧lastOf ns p.key=some n∧n∈ns∧n.key=p.key∧p=posOf o n∧ndAt ns p=n:=by
 have h1:=ixFind_mem h.srt hp
 rw [h.idx] at h1
 cases hx:newest ns 16 p.key with
 | none=>rw [hx] at h1;cases h1
 | some x=>
  obtain ⟨o,n⟩:=x
  rw [hx] at h1
  simp only [Option.map_some,Option.some.injEq] at h1
  obtain ⟨hmem,hnk,_⟩:=newest_some hx
  have hl:lastOf ns p.key=some n:=by rw [←newest_last ns 16 p.key,hx];rfl
  exact ⟨o,n,rfl,hl,hmem,hnk,h1.symm,by unfold ndAt;rw [hl];rfl⟩
theorem VI.takeOne{d:Dk}{v:Vl}{ns:List Nd}(h:VI d v ns){p:Ps}(hp:p∈v.idx):takeOne v d p=some (ndAt ns p):=by
 obtain ⟨o,n,hx,hl,hmem,hnk,hpo,hnd⟩:=h.pos hp
 have hgn:p.gone=n.gone:=by rw [hpo];rfl
 have hck:p.cookie=n.cookie:=by rw [hpo];rfl
 rw [hnd]
 unfold Go.Proofs.YtfpjfoajonbndaaGreatDoor.takeOne
 rw [hgn]
 cases hng:n.gone with
 | true=>
  rw [if_pos rfl,hck,←hnk]
  have:=(h.ok n hmem)
  obtain ⟨k,c,g,dt⟩:=n
  simp only at hng
  subst hng
  have hd:=this.2.2.2 rfl
  simp only at hd
  subst hd
  rfl
 | false=>
  rw [if_neg (by simp)]
  have hgot:=h.got hx hng
  rw [hck,hgot,if_neg (by simp)]
theorem filterMap_all{α β:Type}{f:α→Option β}{g:α→β}:∀ {l:List α},(∀ p∈l,f p=some (g p))→l.filterMap f=l.map g
 | [],_=>rfl
 | a :: r,h=>by
  rw [List.filterMap_cons,h a List.mem_cons_self]
  simp only [List.map_cons]
  rw [filterMap_all fun q hq=>h q (List.mem_cons_of_mem _ hq)]
def Rv.load (v:Rv) (fr n:Nat):Ld:=
 ⟨((v.l.drop (ixAt v.l fr)).take n).map (ndAt v.d),(match v.l[ixAt v.l fr+n]? with|some p=>p.key|none=>0),decide (ixAt v.l fr+n<v.l.length),0⟩
theorem VI.load{d:Dk}{v:Vl}{ns:List Nd}(h:VI d v ns)(fr n:Nat):v.load d fr n=(Rv.of v ns).load fr n:=by
 obtain ⟨X,hX⟩:∃ X,X=ixAt v.idx fr:=⟨_,rfl⟩
 have hks:v.keys fr ((n:Int)+1)=(v.idx.drop X).take (n+1):=by
  unfold Vl.keys
  rw [if_neg (by omega),hX]
  congr 1
 have hone:∀ p∈(v.idx.drop X).take n,Go.Proofs.YtfpjfoajonbndaaGreatDoor.takeOne v d p=some (ndAt ns p):=fun p hp=>h.takeOne (List.mem_of_mem_drop (List.mem_of_mem_take hp))
 have htt:((v.idx.drop X).take (n+1)).take n=(v.idx.drop X).take n:=by rw [List.take_take];congr 1;omega
 unfold Vl.load Rv.load
 rw [hks,htt]
 show _=(⟨((v.idx.drop (ixAt v.idx fr)).take n).map (ndAt ns),(match v.idx[ixAt v.idx fr+n]? with|some p=>p.key|none=>0),decide (ixAt v.idx fr+n<v.idx.length),0⟩:Ld)
 rw [←hX]
 have h1:((v.idx.drop X).take (n+1))[n]? = v.idx[X+n]?:=by rw [List.getElem?_take,if_pos (by omega),List.getElem?_drop]
 have h2:decide (n<((v.idx.drop X).take (n+1)).length)=decide (X+n<v.idx.length):=by
  rw [List.length_take,List.length_drop]
  congr 1
  apply propext
  constructor <;> intro _ <;> omega
 have h3:((v.idx.drop X).take n).countP (fun p=>(Go.Proofs.YtfpjfoajonbndaaGreatDoor.takeOne v d p).isNone)=0:=by
  rw [List.countP_eq_zero]
  intro p hp
  rw [hone p hp]
  simp
 rw [h1,h2,h3,filterMap_all hone]
 rfl
theorem VI.len_le{d:Dk}{v:Vl}{ns:List Nd}(h:VI d v ns){p:Ps}(hp:p∈v.idx):p.len≤4096∧p.off≤v.size:=by
 obtain ⟨o,n,hx,hl,hmem,hnk,hpo,hnd⟩:=h.pos hp
 obtain ⟨_,_,a,b,hab,ho⟩:=newest_some hx
 have hd:=(h.ok n hmem).2.2.1
 refine ⟨by rw [hpo];exact hd,?_⟩
 rw [hpo,h.size]
 show o≤_
 rw [hab,ndsB_append,List.length_append,ho]
 omega
theorem lastOf_snoc(l:List Nd)(n:Nd)(k:Nat):lastOf (l ++ [n]) k=if n.key=k then some n else lastOf l k:=by
 have h:=newest_snoc l n 16 k
 rw [←newest_last (l ++ [n]) 16 k,h,←newest_last l 16 k]
 split <;> rfl
theorem Rv.write_keeps(v:Rv)(n:Nd):(v.write n).2.num=v.num∧(v.write n).2.most=v.most:=by
 unfold Rv.write
 split <;> exact ⟨rfl,rfl⟩
theorem Rv.put_keeps(v:Rv)(n:Nd):(v.put n).2.num=v.num∧(v.put n).2.most=v.most:=by
 unfold Rv.put
 split
 ·exact ⟨rfl,rfl⟩
 split
 ·exact ⟨rfl,rfl⟩
 split
 ·exact ⟨rfl,rfl⟩
 cases lastOf v.d n.key with
 | none=>exact v.write_keeps n
 | some o=>exact ⟨rfl,rfl⟩
theorem Rv.del_keeps(v:Rv)(k c:Nat):(v.del k c).2.num=v.num∧(v.del k c).2.most=v.most:=by
 unfold Rv.del
 split
 ·exact ⟨rfl,rfl⟩
 split
 ·exact ⟨rfl,rfl⟩
 ·exact v.write_keeps _
theorem Rv.set_keeps(v:Rv)(e:Int)(s:Bool):(v.set e s).2.num=v.num∧(v.set e s).2.most=v.most:=by
 unfold Rv.set
 split
 ·exact ⟨rfl,rfl⟩
 split
 ·exact ⟨rfl,rfl⟩
 ·exact ⟨rfl,rfl⟩
theorem Rv.act_keeps(v:Rv)(a:VAct):(v.act a).2.num=v.num∧(v.act a).2.most=v.most:=by
 unfold Rv.act
 split
 ·exact v.put_keeps _
 split
 ·exact v.del_keeps _ _
 split
 ·exact ⟨rfl,rfl⟩
 split
 ·exact ⟨rfl,rfl⟩
 split
 ·exact v.set_keeps _ _
 ·exact ⟨rfl,rfl⟩
def Rv.acts (v:Rv):List VAct→Rv
 | []=>v
 | a :: r=>Rv.acts (v.act a).2 r
theorem Rv.acts_snoc:∀ (l:List VAct) (v:Rv) (a:VAct),v.acts (l ++ [a])=((v.acts l).act a).2
 | [],_,_=>rfl
 | b :: r,v,a=>Rv.acts_snoc r (v.act b).2 a
theorem Rv.acts_most:∀ (l:List VAct) (v:Rv),(v.acts l).most=v.most
 | [],_=>rfl
 | b :: r,v=>(Rv.acts_most r (v.act b).2).trans (v.act_keeps b).2
theorem Rv.acts_num:∀ (l:List VAct) (v:Rv),(v.acts l).num=v.num
 | [],_=>rfl
 | b :: r,v=>(Rv.acts_num r (v.act b).2).trans (v.act_keeps b).1
theorem Rv.acts_take(v:Rv){l:List VAct}{k:Nat}{a:VAct}(h:l[k]? = some a):v.acts (l.take (k+1))=((v.acts (l.take k)).act a).2:=by
 rw [List.take_add_one,h]
 exact Rv.acts_snoc _ _ _
def Pre (nb na:List Nd):Prop:=∀ k x,lastOf nb k=some x→∃ y,lastOf na k=some y∧x.cookie=y.cookie∧(x=y∨(x.gone=false∧y.gone=true))
theorem Pre.refl(l:List Nd):Pre l l:=fun _ x h=>⟨x,h,rfl,.inl rfl⟩
theorem Pre.write{nb:List Nd}{v:Rv}{n:Nd}(h:Pre nb v.d)(hn:∀ y,lastOf v.d n.key=some y→y.gone=false∧y.cookie=n.cookie∧n.gone=true):Pre nb (v.write n).2.d:=by
 unfold Rv.write
 split
 ·exact h
 ·intro k x hx
  obtain ⟨y,h1,h2,h3⟩:=h k x hx
  show ∃ y,lastOf (v.d ++ [n]) k=some y∧_
  rw [lastOf_snoc]
  by_cases hk:n.key=k
  ·rw [if_pos hk]
   have:=hn y (by rw [hk];exact h1)
   refine ⟨n,rfl,h2.trans this.2.1,.inr ⟨?_,this.2.2⟩⟩
   rcases h3 with e|e
   ·rw [e];exact this.1
   ·exact e.1
  ·rw [if_neg hk]
   exact ⟨y,h1,h2,h3⟩
theorem Pre.act{nb:List Nd}{v:Rv}(h:Pre nb v.d)(a:VAct):Pre nb (v.act a).2.d:=by
 unfold Rv.act
 split
 ·unfold Rv.put
  split
  ·exact h
  split
  ·exact h
  split
  ·exact h
  cases hl:lastOf v.d a.n.key with
  | none=>exact Pre.write h (fun y e=>by rw [hl] at e;cases e)
  | some o=>exact h
 split
 ·unfold Rv.del
  split
  ·exact h
  rename_i hlk
  split
  ·exact h
  ·refine Pre.write h (fun y e=>?_)
   have e':lastOf v.d a.n.key=some y:=e
   unfold Rv.look at hlk
   rw [e'] at hlk
   simp only at hlk
   cases hg:y.gone with
   | true=>rw [hg] at hlk;simp at hlk
   | false=>
    refine ⟨rfl,?_,rfl⟩
    apply Classical.byContradiction
    intro hc
    rw [hg,if_neg (by simp),if_pos hc] at hlk
    simp at hlk
 split
 ·exact h
 split
 ·exact h
 split
 ·unfold Rv.set
  split
  ·exact h
  split
  ·exact h
  ·exact h
 ·exact h
theorem Pre.acts:∀ (l:List VAct) {nb:List Nd} {v:Rv},Pre nb v.d→Pre nb (v.acts l).d
 | [],_,_,h=>h
 | a :: r,_,_,h=>Pre.acts r (Pre.act h a)
theorem VI.told{d:Dk}{v:Vl}{ns:List Nd}(h:VI d v ns)(key cookie:Nat):(v.get d key cookie).2.1=false:=by
 by_cases h0:(Rv.of v ns).look key cookie=0
 ·obtain ⟨n,_,_,_,e⟩:=(h.gets key cookie).2 h0
  rw [e]
 ·rw [vg_find (by rw [h.look];exact h0)]
theorem refPut_eq{l:List Ps}{p:Ps}(hs:IxS l):l.take (ixAt l p.key) ++ p :: (l.drop (ixAt l p.key)).filter (fun q=>q.key != p.key)=ixPut l p:=by
 have habove:∀ {i:Nat} {q:Ps},ixAt l p.key<i→l[i]? = some q→q.key≠p.key:=by
  intro i q hi hq e
  have h1:∀ q:Ps,l[ixAt l p.key]? = some q→p.key≤q.key:=fun q hq=>ixAt_above hs (Nat.le_refl _) hq
  cases h:l[ixAt l p.key]? with
  | none=>
   have:=List.getElem?_eq_none_iff.1 h
   have:=(List.getElem?_eq_some_iff.1 hq).1
   omega
  | some z=>
   have hz:=h1 z h
   have hp:=List.pairwise_iff_getElem.1 hs (ixAt l p.key) i (List.getElem?_eq_some_iff.1 h).1 (List.getElem?_eq_some_iff.1 hq).1 hi
   rw [(List.getElem?_eq_some_iff.1 h).2,(List.getElem?_eq_some_iff.1 hq).2] at hp
   omega
 cases h:l[ixAt l p.key]? with
 | none=>
  rw [ixPut_insert hs (fun q hq=>by rw [h] at hq;cases hq),List.drop_of_length_le (List.getElem?_eq_none_iff.1 h)]
  rfl
 | some q=>
  have hl:=(List.getElem?_eq_some_iff.1 h).1
  have hd:l.drop (ixAt l p.key)=q :: l.drop (ixAt l p.key+1):=by
   rw [←(List.getElem?_eq_some_iff.1 h).2,List.getElem_cons_drop]
  have hf:(l.drop (ixAt l p.key+1)).filter (fun q=>q.key != p.key)=l.drop (ixAt l p.key+1):=by
   rw [List.filter_eq_self]
   intro z hz
   obtain ⟨j,hj⟩:=List.mem_iff_getElem?.1 hz
   rw [List.getElem?_drop] at hj
   simpa using habove (by omega) hj
  by_cases hq:q.key=p.key
  ·rw [ixPut_set hs h hq,hd,List.filter_cons,if_neg (by simp [hq]),hf,List.set_eq_take_append_cons_drop,if_pos hl]
  ·rw [ixPut_insert hs (fun z hz=>by rw [h] at hz;cases hz;exact hq),hd,List.filter_cons,if_pos (by simpa using hq),hf]
theorem cells5t{w:World}{b:Nat}{c0 c1 c2 c3 c4:Value}{t:TypeId}(h:w.heap[b]? = some (.cells #[c0,c1,c2,c3,c4] t (0,0))) :
  w.cell? ⟨b,0,none⟩=some c0∧w.cell? ⟨b,1,none⟩=some c1∧w.cell? ⟨b,2,none⟩=some c2∧w.cell? ⟨b,3,none⟩=some c3∧w.cell? ⟨b,4,none⟩=some c4:=by
 refine ⟨?_,?_,?_,?_,?_⟩ <;> (rw [cell_of_row w b _ _ _ _ h];rfl)
theorem p05info:(Tryz.prog.info? 132).map (fun i=>(i.zero,i.size,i.bytes))=some (some (.agg #[.int .u64 0,.int .i64 0,.int .i64 0,.int .u32 0,.bool false]),5,32):=by kernel_rfl
theorem rput_any(a:Option Addr)(n c:Nat)(l:List Ps)(p:Ps)(w:World)(hn:l.length=n)(h:Reads w 5 (.slice a n c) n (l.flatMap psC))(hs:IxS l)(hfew:n≤4096)(hroom:ixFind l p.key≠none∨n<4096) :
  Calls Tryz.prog 146 #[.slice a n c,psV p] w fun e w'=>∃ v',e=.returned (.tuple #[v',.bool true])∧w'.ownsRow w.heap.size 132 5 v' (ixPut l p).length ((ixPut l p).flatMap psC)∧Below w.heap.size w w':=by
 obtain ⟨i0,hi,hzz0,hzz1,hzz2⟩:=info_parts p05info
 have HI:=Hd hi
 have HZ0:=Hd hzz0
 have HZ1:=Hd hzz1
 have HZ2:=Hd hzz2
 have HN:=Hd hn
 have HR:=Hd h
 have HS:=Hd hs
 have HRM:=Hd hroom
 have HFD:=Hd (fun (w0:World) (hb:Below w.heap.size w w0)=>rfind_any a n c l p.key w0 hn (h.below hb))
 obtain ⟨pk,po,pl,pc,pg⟩:=p
 have HPE:=Hd (refPut_eq (l:=l) (p:=⟨pk,po,pl,pc,pg⟩) hs)
 unfold psV
 simp only at HFD HRM HPE ⊢
 obtain ⟨X,hX⟩:∃ X,X=ixAt l pk:=⟨_,rfl⟩
 have HX:=Hd hX
 have hXn:X≤n:=by rw [hX,←hn];exact ixAt_le _ _
 rw [←hX] at HPE
 clear hn h hs hroom hi hzz0 hzz1 hzz2 hX
 go_enter Tryz.func146,Tryz.ntmps146
 go_wp2_with fail
 obtain ⟨w0,hw0⟩:∃ w0:World,w0=w.alloc (.cells #[.int .u64 pk,.int .i64 po,.int .i64 pl,.int .u32 pc,.bool pg] 132):=⟨_,rfl⟩
 have HB0:=Hd (show Below w.heap.size w w0 by rw [hw0];exact belo)
 have KP0:=Hd (show w0.heap[w.heap.size]? = some (.cells #[.int .u64 pk,.int .i64 po,.int .i64 pl,.int .u32 pc,.bool pg] 132 (0,0)) by rw [hw0];exact heap_new w _)
 rw [←hw0]
 clear hw0
 have hz0:w.heap.size<w0.heap.size:=blk_lt KP0.out
 refine (HFD.out w0 HB0.out).mono ?_
 rintro e wx ⟨r,rfl,hr,rfl⟩
 have HRR:=Hd hr
 clear hr
 have hdec:(r<0∧(n:Int)<4096)∨¬ r<0:=by
  by_cases h0:r<0
  ·left
   refine ⟨h0,?_⟩
   rcases HRM.out with h1|h1
   ·exact absurd (HRR.out.1 h0) h1
   ·omega
  ·exact .inr h0
 have hgo:∃ q:Bool,decide (r<0)=q∧(q=true→decide ((4096:Int)≤(n:Int))=false):=by
  refine ⟨_,rfl,fun hq=>?_⟩
  rcases hdec with ⟨h1,h2⟩|h1
  ·simp;omega
  ·simp only [decide_eq_true_eq] at hq
   exact absurd hq h1
 clear hdec
 obtain ⟨q,hq1,hq2⟩:=hgo
 cases q
 ·go_wp2_with fail
  go_loopw [6,7] (fun s i wr=>∃(k:Nat)(aL:Option Addr)(nL cL:Nat)(ys:List Ps),k≤X∧i=.int .i64 k∧s=.slice aL nL cL∧ys=l.take k∧nL=ys.length∧wr.ownsRow w0.heap.size 132 5 (.slice aL nL cL) nL (ys.flatMap psC)∧Below w0.heap.size w0 wr) (fun _ i _=>n - (intOf i).toNat)
  case atStart=>exact ⟨0,none,0,0,[],Nat.zero_le _,rfl,rfl,by simp,rfl,World.ownsRow_nil _ _ _ _,Below.refl _ _⟩
  case round=>
   obtain ⟨k,aL,nL,cL,ys,hk,rfl,rfl,hys,hnl,hrw,hbr⟩:=hrel
   have HYS:=Hd hys
   have HNL:=Hd hnl
   have HRW:=Hd hrw
   have HBR:=Hd hbr
   have hnk:nL≤k:=by rw [hnl,hys];exact List.length_take_le _ _
   have hzr:=hbr.size
   have KPR:=Hd (blk_below' KP0.out hbr)
   have HBW:=Hd (HB0.out.trans (hbr.mono (Nat.le_of_lt hz0)))
   clear hys hnl hrw hbr
   obtain ⟨t0,t1,t2,t3,t4⟩:=cells5t KPR.out
   have hlp:=blk_lt KPR.out
   by_cases hlt:k<n
   ·obtain ⟨x,hx⟩:∃ x,l[k]? = some x:=⟨_,List.getElem?_eq_getElem (by rw [HN.out];exact hlt)⟩
    obtain ⟨b,o,c',e,hb,r0,r1,r2,r3,r4⟩:=ps_cells (HR.out.below HBW.out) hx (by omega)
    obtain ⟨rfl,-,rfl⟩:=sl_inj e
    have HX2:=Hd hx
    have hj0:(0:Int)≤(k:Int):=by omega
    have hj1:(k:Int)<(n:Int):=by omega
    clear hx e
    obtain ⟨xk,xo,xl,xc,xg⟩:=x
    simp only at r0 r1 r2 r3 r4
    by_cases hlow:k<X
    ·have hxk:xk<pk:=ixAt_below (l:=l) (k:=pk) (by rw [←HX.out];exact hlow) HX2.out
     have e1:decide ((xk:Int)<(pk:Int))=true:=by simp;omega
     have e2:decide (xk<pk)=true:=by simp;omega
     go_upto_region 5 with fail
     refine wp_region_mask0 (fun w1=>w1=_) [9,11] [0,0,2,7,15,31,31,127,255,511,31,1055,4095,8191] (.op 0 0 (.op 1 0 (.op 2 0 (.op 3 0 (.op 4 0 (.op 5 0 (.op 6 0 (.op 7 0 (.op 8 0 (.op 9 2 (.op 10 0 (.op 11 2 (.op 12 0 (.op 13 0 .nil)))))))))))))) (by kernel_rfl) (by kernel_rfl) rfl (by kernel_rfl) (by kernel_rfl) rfl ?_
     (iterate 9 refine stepM0 rfl rfl fun K hK=>?_;go_simp;refine hK _ ?_;clear hK K);refine stepM2 rfl rfl ?_ (fun w1 hS=>?_) fun K hK=>?_;rotate_left;(focus (obtain rfl:w1=_:=hS;go_simp;rfl));go_simp;refine hK _ ?_;clear hK K;refine stepM0 rfl rfl fun K hK=>?_;go_simp;refine hK _ ?_;clear hK K;refine stepM2 rfl rfl ?_ (fun w1 hS=>?_) fun K hK=>?_;rotate_left;(focus (obtain rfl:w1=_:=hS;go_simp;rfl));go_simp;refine hK _ ?_;clear hK K;(iterate 2 refine stepM0 rfl rfl fun K hK=>?_;go_simp;refine hK _ ?_;clear hK K)
     try refine stepMnil0 ?_
     obtain ⟨wd,hwd⟩:∃ wd:World,wd=wr.drew:=⟨_,rfl⟩
     have HBD:=Hd (show Below w0.heap.size w0 wd by rw [hwd];exact Below.drew HBR.out)
     have HRD:=Hd (show wd.ownsRow w0.heap.size 132 5 (.slice aL nL cL) nL (ys.flatMap psC) by rw [hwd];exact ownsRow_below HRW.out (Below.drew (Below.refl _ _)))
     have hcr:wd.cell? ⟨b,o+k * 5,none⟩=some (.int .u64 xk)∧wd.cell? ⟨b,o+k * 5+1,none⟩=some (.int .i64 xo)∧wd.cell? ⟨b,o+k * 5+2,none⟩=some (.int .i64 xl)∧wd.cell? ⟨b,o+k * 5+3,none⟩=some (.int .u32 xc)∧wd.cell? ⟨b,o+k * 5+4,none⟩=some (.bool xg):=by rw [hwd];exact ⟨r0,r1,r2,r3,r4⟩
     have hzd:w0.heap.size≤wd.heap.size:=HBD.out.size
     rw [←hwd]
     clear hwd r0 r1 r2 r3 r4 t0 t1 t2 t3 t4 hlp
     obtain ⟨r0,r1,r2,r3,r4⟩:=hcr
     go_wp2_with (at_builtin;refine wpList_append_lies _ rfl _ _ 40 rfl w0.heap.size 132 i0 (.agg #[.int .u64 0,.int .i64 0,.int .i64 0,.int .u32 0,.bool false]) 5 32 Tryz.underlying40 HI.out HZ0.out HZ1.out HZ2.out rfl (by decide) (.slice aL nL cL) nL (ys.flatMap psC) rfl (ownsRow_below HRD.out belo) ⟨wd.heap.size,0,none⟩ 1 1 [.int .u64 xk,.int .i64 xo,.int .i64 xl,.int .u32 xc,.bool xg] rfl rfl (World.news_of_block (cs:=#[.int .u64 xk,.int .i64 xo,.int .i64 xl,.int .u32 xc,.bool xg]) (t:=132) (fr:=(0,0)) (heap_new wd _)) (by simp [Value.oneCell']) (by omega) (by unfold maxLen;omega) (by omega) (by simp;omega) _ rfl ?_;intro g' cap' w6 hown hgrow hat hlt6;have HG6:=Hd hgrow;have HO6:=Hd hown;have hz6:=hgrow.size;simp only [World.size_alloc] at hz6;clear hgrow hown hat)
     go_roundw
     case rel=>
      refine ⟨k+1,some ⟨g',0,none⟩,nL+1,cap',ys ++ [⟨xk,xo,xl,xc,xg⟩],by omega,by go_num,rfl,?_,by simp [HNL.out],?_,?_⟩
      ·rw [HYS.out,List.take_add_one,HX2.out]
       rfl
      ·refine ownsRow_cast HO6.out rfl ?_
       rw [List.flatMap_append]
       simp [psC]
      ·exact Below.grown (HBD.out.alloc hzd _) HG6.out (by simp;omega) (fun g e=>(HRD.out.lt g e).1)
     case measure=>simp [intOf];omega
    ·have HKX:=Hd (show k=X by omega)
     have hxk:pk≤xk:=ixAt_above HS.out (k:=pk) (i:=k) (by rw [←HX.out];omega) HX2.out
     have e1:decide ((xk:Int)<(pk:Int))=false:=by simp;omega
     have e2:decide (xk<pk)=false:=by simp;omega
     go_upto_region 5 with fail
     refine wp_region_mask0 (fun w1=>w1=_) [9,11] [0,0,2,7,15,31,31,127,255,511,31,1055,4095,8191] (.op 0 0 (.op 1 0 (.op 2 0 (.op 3 0 (.op 4 0 (.op 5 0 (.op 6 0 (.op 7 0 (.op 8 0 (.op 9 2 (.op 10 0 (.op 11 2 (.op 12 0 (.op 13 0 .nil)))))))))))))) (by kernel_rfl) (by kernel_rfl) rfl (by kernel_rfl) (by kernel_rfl) rfl ?_
     (iterate 9 refine stepM0 rfl rfl fun K hK=>?_;go_simp;refine hK _ ?_;clear hK K);refine stepM2 rfl rfl ?_ (fun w1 hS=>?_) fun K hK=>?_;rotate_left;(focus (obtain rfl:w1=_:=hS;go_simp;rfl));go_simp;refine hK _ ?_;clear hK K;refine stepM0 rfl rfl fun K hK=>?_;go_simp;refine hK _ ?_;clear hK K;refine stepM2 rfl rfl ?_ (fun w1 hS=>?_) fun K hK=>?_;rotate_left;(focus (obtain rfl:w1=_:=hS;go_simp;rfl));go_simp;refine hK _ ?_;clear hK K;(iterate 2 refine stepM0 rfl rfl fun K hK=>?_;go_simp;refine hK _ ?_;clear hK K)
     try refine stepMnil0 ?_
     obtain ⟨wd,hwd⟩:∃ wd:World,wd=wr.drew:=⟨_,rfl⟩
     have HBD:=Hd (show Below w0.heap.size w0 wd by rw [hwd];exact Below.drew HBR.out)
     have HRD:=Hd (show wd.ownsRow w0.heap.size 132 5 (.slice aL nL cL) nL (ys.flatMap psC) by rw [hwd];exact ownsRow_below HRW.out (Below.drew (Below.refl _ _)))
     have KPD:=Hd (show wd.heap[w.heap.size]? = some (.cells #[.int .u64 pk,.int .i64 po,.int .i64 pl,.int .u32 pc,.bool pg] 132 (0,0)) by rw [hwd];exact KPR.out)
     have hzd:w0.heap.size≤wd.heap.size:=HBD.out.size
     rw [←hwd]
     clear hwd t0 t1 t2 t3 t4 hlp r0 r1 r2 r3 r4
     obtain ⟨t0,t1,t2,t3,t4⟩:=cells5t KPD.out
     have hlp:=blk_lt KPD.out
     go_upto_region 8 with fail
     go_wp2_with (at_builtin;refine wpList_append_lies _ rfl _ _ 40 rfl w0.heap.size 132 i0 (.agg #[.int .u64 0,.int .i64 0,.int .i64 0,.int .u32 0,.bool false]) 5 32 Tryz.underlying40 HI.out HZ0.out HZ1.out HZ2.out rfl (by decide) (.slice aL nL cL) nL (ys.flatMap psC) rfl (ownsRow_below HRD.out belo) ⟨wd.heap.size,0,none⟩ 1 1 [.int .u64 pk,.int .i64 po,.int .i64 pl,.int .u32 pc,.bool pg] rfl rfl (World.news_of_block (cs:=#[.int .u64 pk,.int .i64 po,.int .i64 pl,.int .u32 pc,.bool pg]) (t:=132) (fr:=(0,0)) (heap_new wd _)) (by simp [Value.oneCell']) (by omega) (by unfold maxLen;omega) (by omega) (by simp;omega) _ rfl ?_;intro g' cap' w6 hown hgrow hat hlt6;have HG6:=Hd hgrow;have HO6:=Hd hown;have hz6:=hgrow.size;simp only [World.size_alloc] at hz6;clear hgrow hown hat)
     have HB7:=Hd (show Below w0.heap.size w0 w6 from Below.grown (HBD.out.alloc hzd _) HG6.out (by simp;omega) (fun g e=>(HRD.out.lt g e).1))
     have HR7:=Hd (show w6.ownsRow w0.heap.size 132 5 (.slice (some ⟨g',0,none⟩) (nL+1) cap') (nL+1) ((ys ++ [(⟨pk,po,pl,pc,pg⟩:Ps)]).flatMap psC) from ownsRow_cast HO6.out rfl (by rw [List.flatMap_append];simp [psC]))
     have HYX:=Hd (show ys ++ [(⟨pk,po,pl,pc,pg⟩:Ps)]=l.take X ++ [⟨pk,po,pl,pc,pg⟩] by rw [HYS.out,HKX.out])
     have HN7:=Hd (show nL+1=(l.take X ++ [(⟨pk,po,pl,pc,pg⟩:Ps)]).length by rw [←HYX.out,List.length_append,←HNL.out];rfl)
     rw [HYX.out] at HR7
     rw [show (k:Int)=(X:Int) by rw [HKX.out]]
     obtain ⟨vv,hvv⟩:∃ vv:Value,vv=.slice (some ⟨g',0,none⟩) (nL+1) cap':=⟨_,rfl⟩
     clear t0 t1 t2 t3 t4 hlp hvv
     go_wp2_with fail
     go_loopw [6,7] (fun s i wr=>∃(k:Nat)(aL:Option Addr)(nL cL:Nat)(ys:List Ps),X≤k∧k≤n∧i=.int .i64 k∧s=.slice aL nL cL∧ys=l.take X ++ (⟨pk,po,pl,pc,pg⟩:Ps) :: ((l.drop X).take (k - X)).filter (fun q=>q.key != pk)∧nL=ys.length∧wr.ownsRow w0.heap.size 132 5 (.slice aL nL cL) nL (ys.flatMap psC)∧Below w0.heap.size w0 wr) (fun _ i _=>n - (intOf i).toNat)
     case atStart=>exact ⟨X,_,_,_,_,Nat.le_refl _,hXn,rfl,rfl,by simp,HN7.out,HR7.out,HB7.out⟩
     case round=>
      obtain ⟨k,aL,nL,cL,ys,hkx,hk,rfl,rfl,hys,hnl,hrw,hbr⟩:=hrel
      have HYS:=Hd hys
      have HNL:=Hd hnl
      have HRW:=Hd hrw
      have HBR:=Hd hbr
      have hnk:nL≤k+1:=by
       rw [hnl,hys,List.length_append,List.length_cons]
       have h1:(l.take X).length≤X:=List.length_take_le _ _
       have h2:(((l.drop X).take (k - X)).filter (fun q=>q.key != pk)).length≤k - X:=Nat.le_trans (List.length_filter_le _ _) (List.length_take_le _ _)
       omega
      have hzr:=hbr.size
      have KPR:=Hd (blk_below' KP0.out hbr)
      have HBW:=Hd (HB0.out.trans (hbr.mono (Nat.le_of_lt hz0)))
      clear hys hnl hrw hbr
      obtain ⟨t0,t1,t2,t3,t4⟩:=cells5t KPR.out
      have hlp:=blk_lt KPR.out
      by_cases hlt:k<n
      ·obtain ⟨x,hx⟩:∃ x,l[k]? = some x:=⟨_,List.getElem?_eq_getElem (by rw [HN.out];exact hlt)⟩
       obtain ⟨b,o,c',e,hb,r0,r1,r2,r3,r4⟩:=ps_cells (HR.out.below HBW.out) hx (by omega)
       obtain ⟨e8,-,rfl⟩:=sl_inj e
       have HAB:=Hd e8
       clear HAB
       obtain ⟨rfl,rfl⟩:_=b∧_=o:=by simpa using e8
       have HX2:=Hd hx
       have HTK:=Hd (show (l.drop X).take (k+1 - X)=(l.drop X).take (k - X) ++ [x] by
        rw [show k+1 - X=k - X+1 by omega,List.take_add_one,List.getElem?_drop,show X+(k - X)=k by omega,hx]
        rfl)
       have hj0:(0:Int)≤(k:Int):=by omega
       have hj1:(k:Int)<(n:Int):=by omega
       clear hx e
       obtain ⟨xk,xo,xl,xc,xg⟩:=x
       simp only at r0 r1 r2 r3 r4
       by_cases hne:xk=pk
       ·have e1:((xk:Int) != (pk:Int))=false:=by simp;omega
        have HE:=Hd (show ((l.drop X).take (k+1 - X)).filter (fun q=>q.key != pk)=((l.drop X).take (k - X)).filter (fun q=>q.key != pk) by
         rw [HTK.out,List.filter_append,List.filter_cons,if_neg (by simp [hne])]
         simp)
        clear hne
        go_upto_region 11 with fail
        refine wp_region_mask0 (fun w1=>w1=_) [4,6] [0,0,3,7,15,0,32,127] (.op 0 0 (.op 1 0 (.op 2 0 (.op 3 0 (.op 4 2 (.op 5 0 (.op 6 2 (.op 7 0 .nil)))))))) (by kernel_rfl) (by kernel_rfl) rfl (by kernel_rfl) (by kernel_rfl) rfl ?_
        (iterate 4 refine stepM0 rfl rfl fun K hK=>?_;go_simp;refine hK _ ?_;clear hK K);refine stepM2 rfl rfl ?_ (fun w1 hS=>?_) fun K hK=>?_;rotate_left;(focus (obtain rfl:w1=_:=hS;go_simp;rfl));go_simp;refine hK _ ?_;clear hK K;refine stepM0 rfl rfl fun K hK=>?_;go_simp;refine hK _ ?_;clear hK K;refine stepM2 rfl rfl ?_ (fun w1 hS=>?_) fun K hK=>?_;rotate_left;(focus (obtain rfl:w1=_:=hS;go_simp;rfl));go_simp;refine hK _ ?_;clear hK K;refine stepM0 rfl rfl fun K hK=>?_;go_simp;refine hK _ ?_;clear hK K
        try refine stepMnil0 ?_
        go_wp2_with fail
        go_roundw
        case rel=>exact ⟨k+1,aL,nL,cL,ys,by omega,by omega,by go_num,rfl,by rw [HE.out];exact HYS.out,HNL.out,ownsRow_below HRW.out (Below.drew (Below.refl _ _)),Below.drew HBR.out⟩
        case measure=>simp [intOf];omega
       ·have e1:((xk:Int) != (pk:Int))=true:=by simp;omega
        have HE:=Hd (show ((l.drop X).take (k+1 - X)).filter (fun q=>q.key != pk)=((l.drop X).take (k - X)).filter (fun q=>q.key != pk) ++ [⟨xk,xo,xl,xc,xg⟩] by
         rw [HTK.out,List.filter_append,List.filter_cons,if_pos (by simpa using hne)]
         rfl)
        clear hne
        go_upto_region 11 with fail
        refine wp_region_mask0 (fun w1=>w1=_) [4,6] [0,0,3,7,15,0,32,127] (.op 0 0 (.op 1 0 (.op 2 0 (.op 3 0 (.op 4 2 (.op 5 0 (.op 6 2 (.op 7 0 .nil)))))))) (by kernel_rfl) (by kernel_rfl) rfl (by kernel_rfl) (by kernel_rfl) rfl ?_
        (iterate 4 refine stepM0 rfl rfl fun K hK=>?_;go_simp;refine hK _ ?_;clear hK K);refine stepM2 rfl rfl ?_ (fun w1 hS=>?_) fun K hK=>?_;rotate_left;(focus (obtain rfl:w1=_:=hS;go_simp;rfl));go_simp;refine hK _ ?_;clear hK K;refine stepM0 rfl rfl fun K hK=>?_;go_simp;refine hK _ ?_;clear hK K;refine stepM2 rfl rfl ?_ (fun w1 hS=>?_) fun K hK=>?_;rotate_left;(focus (obtain rfl:w1=_:=hS;go_simp;rfl));go_simp;refine hK _ ?_;clear hK K;refine stepM0 rfl rfl fun K hK=>?_;go_simp;refine hK _ ?_;clear hK K
        try refine stepMnil0 ?_
        obtain ⟨wd,hwd⟩:∃ wd:World,wd=wr.drew:=⟨_,rfl⟩
        have HBD:=Hd (show Below w0.heap.size w0 wd by rw [hwd];exact Below.drew HBR.out)
        have HRD:=Hd (show wd.ownsRow w0.heap.size 132 5 (.slice aL nL cL) nL (ys.flatMap psC) by rw [hwd];exact ownsRow_below HRW.out (Below.drew (Below.refl _ _)))
        have hcr:wd.cell? ⟨b,o+k * 5,none⟩=some (.int .u64 xk)∧wd.cell? ⟨b,o+k * 5+1,none⟩=some (.int .i64 xo)∧wd.cell? ⟨b,o+k * 5+2,none⟩=some (.int .i64 xl)∧wd.cell? ⟨b,o+k * 5+3,none⟩=some (.int .u32 xc)∧wd.cell? ⟨b,o+k * 5+4,none⟩=some (.bool xg):=by rw [hwd];exact ⟨r0,r1,r2,r3,r4⟩
        have hzd:w0.heap.size≤wd.heap.size:=HBD.out.size
        rw [←hwd]
        clear hwd r0 r1 r2 r3 r4 t0 t1 t2 t3 t4 hlp
        obtain ⟨r0,r1,r2,r3,r4⟩:=hcr
        go_wp2_with (at_builtin;refine wpList_append_lies _ rfl _ _ 40 rfl w0.heap.size 132 i0 (.agg #[.int .u64 0,.int .i64 0,.int .i64 0,.int .u32 0,.bool false]) 5 32 Tryz.underlying40 HI.out HZ0.out HZ1.out HZ2.out rfl (by decide) (.slice aL nL cL) nL (ys.flatMap psC) rfl (ownsRow_below HRD.out belo) ⟨wd.heap.size,0,none⟩ 1 1 [.int .u64 xk,.int .i64 xo,.int .i64 xl,.int .u32 xc,.bool xg] rfl rfl (World.news_of_block (cs:=#[.int .u64 xk,.int .i64 xo,.int .i64 xl,.int .u32 xc,.bool xg]) (t:=132) (fr:=(0,0)) (heap_new wd _)) (by simp [Value.oneCell']) (by omega) (by unfold maxLen;omega) (by omega) (by simp;omega) _ rfl ?_;intro g' cap' w6 hown hgrow hat hlt6;have HG6:=Hd hgrow;have HO6:=Hd hown;have hz6:=hgrow.size;simp only [World.size_alloc] at hz6;clear hgrow hown hat)
        go_roundw
        case rel=>
         refine ⟨k+1,some ⟨g',0,none⟩,nL+1,cap',ys ++ [⟨xk,xo,xl,xc,xg⟩],by omega,by omega,by go_num,rfl,?_,by simp [HNL.out],?_,?_⟩
         ·rw [HE.out,HYS.out]
          simp
         ·refine ownsRow_cast HO6.out rfl ?_
          rw [List.flatMap_append]
          simp [psC]
         ·exact Below.grown (HBD.out.alloc hzd _) HG6.out (by simp;omega) (fun g e=>(HRD.out.lt g e).1)
        case measure=>simp [intOf];omega
      ·have hj1:¬ (k:Int)<(n:Int):=by omega
       have hj2:decide ((k:Int)<(n:Int))=false:=by simp;omega
       have hj3:decide (k<n)=false:=by simp;omega
       have HF:=Hd (show ys=ixPut l ⟨pk,po,pl,pc,pg⟩ by
        rw [HYS.out,←HPE.out,show (l.drop X).take (k - X)=l.drop X from List.take_of_length_le (by rw [List.length_drop,HN.out];omega)])
       go_wp2_with fail
       go_ret2
       refine ⟨.slice aL nL cL,rfl,?_,HBW.out⟩
       rw [←HF.out,←HNL.out]
       exact ownsRow_mono HRW.out (Nat.le_of_lt hz0)
   ·have HKX:=Hd (show k=X by omega)
    have HXN:=Hd (show n≤X by omega)
    have hj1:¬ (k:Int)<(n:Int):=by omega
    have hj2:decide ((k:Int)<(n:Int))=false:=by simp;omega
    have hj3:decide (k<n)=false:=by simp;omega
    go_upto_region 5 with fail
    refine wp_region_mask0 (fun w1=>w1=_) [9,11] [0,0,2,7,15,31,31,127,255,511,31,1055,4095,8191] (.op 0 0 (.op 1 0 (.op 2 0 (.op 3 0 (.op 4 0 (.op 5 0 (.op 6 0 (.op 7 0 (.op 8 0 (.op 9 2 (.op 10 0 (.op 11 2 (.op 12 0 (.op 13 0 .nil)))))))))))))) (by kernel_rfl) (by kernel_rfl) rfl (by kernel_rfl) (by kernel_rfl) rfl ?_
    (iterate 5 refine stepM0 rfl rfl fun K hK=>?_;go_simp;refine hK _ ?_;clear hK K);(iterate 4 refine stepMy0 rfl rfl fun K hK=>?_;go_simp;refine hK _ ?_;clear hK K);refine stepMy2 rfl rfl fun K hK=>?_;go_simp;refine hK _ ?_;clear hK K;refine stepMy0 rfl rfl fun K hK=>?_;go_simp;refine hK _ ?_;clear hK K;refine stepMy2 rfl rfl fun K hK=>?_;go_simp;refine hK _ ?_;clear hK K;refine stepMy0 rfl rfl fun K hK=>?_;go_simp;refine hK _ ?_;clear hK K;refine stepM0 rfl rfl fun K hK=>?_;go_simp;refine hK _ ?_;clear hK K
    try refine stepMnil0 ?_
    obtain ⟨wd,hwd⟩:∃ wd:World,wd=wr.drew:=⟨_,rfl⟩
    have HBD:=Hd (show Below w0.heap.size w0 wd by rw [hwd];exact Below.drew HBR.out)
    have HRD:=Hd (show wd.ownsRow w0.heap.size 132 5 (.slice aL nL cL) nL (ys.flatMap psC) by rw [hwd];exact ownsRow_below HRW.out (Below.drew (Below.refl _ _)))
    have KPD:=Hd (show wd.heap[w.heap.size]? = some (.cells #[.int .u64 pk,.int .i64 po,.int .i64 pl,.int .u32 pc,.bool pg] 132 (0,0)) by rw [hwd];exact KPR.out)
    have hzd:w0.heap.size≤wd.heap.size:=HBD.out.size
    rw [←hwd]
    clear hwd t0 t1 t2 t3 t4 hlp 
    obtain ⟨t0,t1,t2,t3,t4⟩:=cells5t KPD.out
    have hlp:=blk_lt KPD.out
    go_upto_region 8 with fail
    go_wp2_with (at_builtin;refine wpList_append_lies _ rfl _ _ 40 rfl w0.heap.size 132 i0 (.agg #[.int .u64 0,.int .i64 0,.int .i64 0,.int .u32 0,.bool false]) 5 32 Tryz.underlying40 HI.out HZ0.out HZ1.out HZ2.out rfl (by decide) (.slice aL nL cL) nL (ys.flatMap psC) rfl (ownsRow_below HRD.out belo) ⟨wd.heap.size,0,none⟩ 1 1 [.int .u64 pk,.int .i64 po,.int .i64 pl,.int .u32 pc,.bool pg] rfl rfl (World.news_of_block (cs:=#[.int .u64 pk,.int .i64 po,.int .i64 pl,.int .u32 pc,.bool pg]) (t:=132) (fr:=(0,0)) (heap_new wd _)) (by simp [Value.oneCell']) (by omega) (by unfold maxLen;omega) (by omega) (by simp;omega) _ rfl ?_;intro g' cap' w6 hown hgrow hat hlt6;have HG6:=Hd hgrow;have HO6:=Hd hown;have hz6:=hgrow.size;simp only [World.size_alloc] at hz6;clear hgrow hown hat)
    have HB7:=Hd (show Below w0.heap.size w0 w6 from Below.grown (HBD.out.alloc hzd _) HG6.out (by simp;omega) (fun g e=>(HRD.out.lt g e).1))
    have HR7:=Hd (show w6.ownsRow w0.heap.size 132 5 (.slice (some ⟨g',0,none⟩) (nL+1) cap') (nL+1) ((ys ++ [(⟨pk,po,pl,pc,pg⟩:Ps)]).flatMap psC) from ownsRow_cast HO6.out rfl (by rw [List.flatMap_append];simp [psC]))
    have HYX:=Hd (show ys ++ [(⟨pk,po,pl,pc,pg⟩:Ps)]=l.take X ++ [⟨pk,po,pl,pc,pg⟩] by rw [HYS.out,HKX.out])
    have HN7:=Hd (show nL+1=(l.take X ++ [(⟨pk,po,pl,pc,pg⟩:Ps)]).length by rw [←HYX.out,List.length_append,←HNL.out];rfl)
    rw [HYX.out] at HR7
    rw [show (k:Int)=(X:Int) by rw [HKX.out]]
    obtain ⟨vv,hvv⟩:∃ vv:Value,vv=.slice (some ⟨g',0,none⟩) (nL+1) cap':=⟨_,rfl⟩
    clear t0 t1 t2 t3 t4 hlp hvv
    go_wp2_with fail
    go_loopw [6,7] (fun s i wr=>∃(k:Nat)(aL:Option Addr)(nL cL:Nat)(ys:List Ps),X≤k∧k≤n∧i=.int .i64 k∧s=.slice aL nL cL∧ys=l.take X ++ (⟨pk,po,pl,pc,pg⟩:Ps) :: ((l.drop X).take (k - X)).filter (fun q=>q.key != pk)∧nL=ys.length∧wr.ownsRow w0.heap.size 132 5 (.slice aL nL cL) nL (ys.flatMap psC)∧Below w0.heap.size w0 wr) (fun _ i _=>n - (intOf i).toNat)
    case atStart=>exact ⟨X,_,_,_,_,Nat.le_refl _,hXn,rfl,rfl,by simp,HN7.out,HR7.out,HB7.out⟩
    case round=>
     obtain ⟨k,aL,nL,cL,ys,hkx,hk,rfl,rfl,hys,hnl,hrw,hbr⟩:=hrel
     have HYS:=Hd hys
     have HNL:=Hd hnl
     have HRW:=Hd hrw
     have HBR:=Hd hbr
     have hnk:nL≤k+1:=by
      rw [hnl,hys,List.length_append,List.length_cons]
      have h1:(l.take X).length≤X:=List.length_take_le _ _
      have h2:(((l.drop X).take (k - X)).filter (fun q=>q.key != pk)).length≤k - X:=Nat.le_trans (List.length_filter_le _ _) (List.length_take_le _ _)
      omega
     have hzr:=hbr.size
     have KPR:=Hd (blk_below' KP0.out hbr)
     have HBW:=Hd (HB0.out.trans (hbr.mono (Nat.le_of_lt hz0)))
     clear hys hnl hrw hbr
     obtain ⟨t0,t1,t2,t3,t4⟩:=cells5t KPR.out
     have hlp:=blk_lt KPR.out
     by_cases hlt:k<n
     ·exact absurd hlt (by have:=HXN.out;omega)
     ·have hj1:¬ (k:Int)<(n:Int):=by omega
      have hj2:decide ((k:Int)<(n:Int))=false:=by simp;omega
      have hj3:decide (k<n)=false:=by simp;omega
      have HF:=Hd (show ys=ixPut l ⟨pk,po,pl,pc,pg⟩ by
       rw [HYS.out,←HPE.out,show (l.drop X).take (k - X)=l.drop X from List.take_of_length_le (by rw [List.length_drop,HN.out];omega)])
      go_wp2_with fail
      go_ret2
      refine ⟨.slice aL nL cL,rfl,?_,HBW.out⟩
      rw [←HF.out,←HNL.out]
      exact ownsRow_mono HRW.out (Nat.le_of_lt hz0)
 have d1:=hq2 rfl
 have d2:decide (4096≤n)=false:=by simp at d1;simp;omega
 go_wp2_with fail
 go_loopw [6,7] (fun s i wr=>∃(k:Nat)(aL:Option Addr)(nL cL:Nat)(ys:List Ps),k≤X∧i=.int .i64 k∧s=.slice aL nL cL∧ys=l.take k∧nL=ys.length∧wr.ownsRow w0.heap.size 132 5 (.slice aL nL cL) nL (ys.flatMap psC)∧Below w0.heap.size w0 wr) (fun _ i _=>n - (intOf i).toNat)
 case atStart=>exact ⟨0,none,0,0,[],Nat.zero_le _,rfl,rfl,by simp,rfl,World.ownsRow_nil _ _ _ _,Below.refl _ _⟩
 case round=>
  obtain ⟨k,aL,nL,cL,ys,hk,rfl,rfl,hys,hnl,hrw,hbr⟩:=hrel
  have HYS:=Hd hys
  have HNL:=Hd hnl
  have HRW:=Hd hrw
  have HBR:=Hd hbr
  have hnk:nL≤k:=by rw [hnl,hys];exact List.length_take_le _ _
  have hzr:=hbr.size
  have KPR:=Hd (blk_below' KP0.out hbr)
  have HBW:=Hd (HB0.out.trans (hbr.mono (Nat.le_of_lt hz0)))
  clear hys hnl hrw hbr
  obtain ⟨t0,t1,t2,t3,t4⟩:=cells5t KPR.out
  have hlp:=blk_lt KPR.out
  by_cases hlt:k<n
  ·obtain ⟨x,hx⟩:∃ x,l[k]? = some x:=⟨_,List.getElem?_eq_getElem (by rw [HN.out];exact hlt)⟩
   obtain ⟨b,o,c',e,hb,r0,r1,r2,r3,r4⟩:=ps_cells (HR.out.below HBW.out) hx (by omega)
   obtain ⟨rfl,-,rfl⟩:=sl_inj e
   have HX2:=Hd hx
   have hj0:(0:Int)≤(k:Int):=by omega
   have hj1:(k:Int)<(n:Int):=by omega
   clear hx e
   obtain ⟨xk,xo,xl,xc,xg⟩:=x
   simp only at r0 r1 r2 r3 r4
   by_cases hlow:k<X
   ·have hxk:xk<pk:=ixAt_below (l:=l) (k:=pk) (by rw [←HX.out];exact hlow) HX2.out
    have e1:decide ((xk:Int)<(pk:Int))=true:=by simp;omega
    have e2:decide (xk<pk)=true:=by simp;omega
    go_upto_region 5 with fail
    refine wp_region_mask0 (fun w1=>w1=_) [9,11] [0,0,2,7,15,31,31,127,255,511,31,1055,4095,8191] (.op 0 0 (.op 1 0 (.op 2 0 (.op 3 0 (.op 4 0 (.op 5 0 (.op 6 0 (.op 7 0 (.op 8 0 (.op 9 2 (.op 10 0 (.op 11 2 (.op 12 0 (.op 13 0 .nil)))))))))))))) (by kernel_rfl) (by kernel_rfl) rfl (by kernel_rfl) (by kernel_rfl) rfl ?_
    (iterate 9 refine stepM0 rfl rfl fun K hK=>?_;go_simp;refine hK _ ?_;clear hK K);refine stepM2 rfl rfl ?_ (fun w1 hS=>?_) fun K hK=>?_;rotate_left;(focus (obtain rfl:w1=_:=hS;go_simp;rfl));go_simp;refine hK _ ?_;clear hK K;refine stepM0 rfl rfl fun K hK=>?_;go_simp;refine hK _ ?_;clear hK K;refine stepM2 rfl rfl ?_ (fun w1 hS=>?_) fun K hK=>?_;rotate_left;(focus (obtain rfl:w1=_:=hS;go_simp;rfl));go_simp;refine hK _ ?_;clear hK K;(iterate 2 refine stepM0 rfl rfl fun K hK=>?_;go_simp;refine hK _ ?_;clear hK K)
    try refine stepMnil0 ?_
    obtain ⟨wd,hwd⟩:∃ wd:World,wd=wr.drew:=⟨_,rfl⟩
    have HBD:=Hd (show Below w0.heap.size w0 wd by rw [hwd];exact Below.drew HBR.out)
    have HRD:=Hd (show wd.ownsRow w0.heap.size 132 5 (.slice aL nL cL) nL (ys.flatMap psC) by rw [hwd];exact ownsRow_below HRW.out (Below.drew (Below.refl _ _)))
    have hcr:wd.cell? ⟨b,o+k * 5,none⟩=some (.int .u64 xk)∧wd.cell? ⟨b,o+k * 5+1,none⟩=some (.int .i64 xo)∧wd.cell? ⟨b,o+k * 5+2,none⟩=some (.int .i64 xl)∧wd.cell? ⟨b,o+k * 5+3,none⟩=some (.int .u32 xc)∧wd.cell? ⟨b,o+k * 5+4,none⟩=some (.bool xg):=by rw [hwd];exact ⟨r0,r1,r2,r3,r4⟩
    have hzd:w0.heap.size≤wd.heap.size:=HBD.out.size
    rw [←hwd]
    clear hwd r0 r1 r2 r3 r4 t0 t1 t2 t3 t4 hlp
    obtain ⟨r0,r1,r2,r3,r4⟩:=hcr
    go_wp2_with (at_builtin;refine wpList_append_lies _ rfl _ _ 40 rfl w0.heap.size 132 i0 (.agg #[.int .u64 0,.int .i64 0,.int .i64 0,.int .u32 0,.bool false]) 5 32 Tryz.underlying40 HI.out HZ0.out HZ1.out HZ2.out rfl (by decide) (.slice aL nL cL) nL (ys.flatMap psC) rfl (ownsRow_below HRD.out belo) ⟨wd.heap.size,0,none⟩ 1 1 [.int .u64 xk,.int .i64 xo,.int .i64 xl,.int .u32 xc,.bool xg] rfl rfl (World.news_of_block (cs:=#[.int .u64 xk,.int .i64 xo,.int .i64 xl,.int .u32 xc,.bool xg]) (t:=132) (fr:=(0,0)) (heap_new wd _)) (by simp [Value.oneCell']) (by omega) (by unfold maxLen;omega) (by omega) (by simp;omega) _ rfl ?_;intro g' cap' w6 hown hgrow hat hlt6;have HG6:=Hd hgrow;have HO6:=Hd hown;have hz6:=hgrow.size;simp only [World.size_alloc] at hz6;clear hgrow hown hat)
    go_roundw
    case rel=>
     refine ⟨k+1,some ⟨g',0,none⟩,nL+1,cap',ys ++ [⟨xk,xo,xl,xc,xg⟩],by omega,by go_num,rfl,?_,by simp [HNL.out],?_,?_⟩
     ·rw [HYS.out,List.take_add_one,HX2.out]
      rfl
     ·refine ownsRow_cast HO6.out rfl ?_
      rw [List.flatMap_append]
      simp [psC]
     ·exact Below.grown (HBD.out.alloc hzd _) HG6.out (by simp;omega) (fun g e=>(HRD.out.lt g e).1)
    case measure=>simp [intOf];omega
   ·have HKX:=Hd (show k=X by omega)
    have hxk:pk≤xk:=ixAt_above HS.out (k:=pk) (i:=k) (by rw [←HX.out];omega) HX2.out
    have e1:decide ((xk:Int)<(pk:Int))=false:=by simp;omega
    have e2:decide (xk<pk)=false:=by simp;omega
    go_upto_region 5 with fail
    refine wp_region_mask0 (fun w1=>w1=_) [9,11] [0,0,2,7,15,31,31,127,255,511,31,1055,4095,8191] (.op 0 0 (.op 1 0 (.op 2 0 (.op 3 0 (.op 4 0 (.op 5 0 (.op 6 0 (.op 7 0 (.op 8 0 (.op 9 2 (.op 10 0 (.op 11 2 (.op 12 0 (.op 13 0 .nil)))))))))))))) (by kernel_rfl) (by kernel_rfl) rfl (by kernel_rfl) (by kernel_rfl) rfl ?_
    (iterate 9 refine stepM0 rfl rfl fun K hK=>?_;go_simp;refine hK _ ?_;clear hK K);refine stepM2 rfl rfl ?_ (fun w1 hS=>?_) fun K hK=>?_;rotate_left;(focus (obtain rfl:w1=_:=hS;go_simp;rfl));go_simp;refine hK _ ?_;clear hK K;refine stepM0 rfl rfl fun K hK=>?_;go_simp;refine hK _ ?_;clear hK K;refine stepM2 rfl rfl ?_ (fun w1 hS=>?_) fun K hK=>?_;rotate_left;(focus (obtain rfl:w1=_:=hS;go_simp;rfl));go_simp;refine hK _ ?_;clear hK K;(iterate 2 refine stepM0 rfl rfl fun K hK=>?_;go_simp;refine hK _ ?_;clear hK K)
    try refine stepMnil0 ?_
    obtain ⟨wd,hwd⟩:∃ wd:World,wd=wr.drew:=⟨_,rfl⟩
    have HBD:=Hd (show Below w0.heap.size w0 wd by rw [hwd];exact Below.drew HBR.out)
    have HRD:=Hd (show wd.ownsRow w0.heap.size 132 5 (.slice aL nL cL) nL (ys.flatMap psC) by rw [hwd];exact ownsRow_below HRW.out (Below.drew (Below.refl _ _)))
    have KPD:=Hd (show wd.heap[w.heap.size]? = some (.cells #[.int .u64 pk,.int .i64 po,.int .i64 pl,.int .u32 pc,.bool pg] 132 (0,0)) by rw [hwd];exact KPR.out)
    have hzd:w0.heap.size≤wd.heap.size:=HBD.out.size
    rw [←hwd]
    clear hwd t0 t1 t2 t3 t4 hlp r0 r1 r2 r3 r4
    obtain ⟨t0,t1,t2,t3,t4⟩:=cells5t KPD.out
    have hlp:=blk_lt KPD.out
    go_upto_region 8 with fail
    go_wp2_with (at_builtin;refine wpList_append_lies _ rfl _ _ 40 rfl w0.heap.size 132 i0 (.agg #[.int .u64 0,.int .i64 0,.int .i64 0,.int .u32 0,.bool false]) 5 32 Tryz.underlying40 HI.out HZ0.out HZ1.out HZ2.out rfl (by decide) (.slice aL nL cL) nL (ys.flatMap psC) rfl (ownsRow_below HRD.out belo) ⟨wd.heap.size,0,none⟩ 1 1 [.int .u64 pk,.int .i64 po,.int .i64 pl,.int .u32 pc,.bool pg] rfl rfl (World.news_of_block (cs:=#[.int .u64 pk,.int .i64 po,.int .i64 pl,.int .u32 pc,.bool pg]) (t:=132) (fr:=(0,0)) (heap_new wd _)) (by simp [Value.oneCell']) (by omega) (by unfold maxLen;omega) (by omega) (by simp;omega) _ rfl ?_;intro g' cap' w6 hown hgrow hat hlt6;have HG6:=Hd hgrow;have HO6:=Hd hown;have hz6:=hgrow.size;simp only [World.size_alloc] at hz6;clear hgrow hown hat)
    have HB7:=Hd (show Below w0.heap.size w0 w6 from Below.grown (HBD.out.alloc hzd _) HG6.out (by simp;omega) (fun g e=>(HRD.out.lt g e).1))
    have HR7:=Hd (show w6.ownsRow w0.heap.size 132 5 (.slice (some ⟨g',0,none⟩) (nL+1) cap') (nL+1) ((ys ++ [(⟨pk,po,pl,pc,pg⟩:Ps)]).flatMap psC) from ownsRow_cast HO6.out rfl (by rw [List.flatMap_append];simp [psC]))
    have HYX:=Hd (show ys ++ [(⟨pk,po,pl,pc,pg⟩:Ps)]=l.take X ++ [⟨pk,po,pl,pc,pg⟩] by rw [HYS.out,HKX.out])
    have HN7:=Hd (show nL+1=(l.take X ++ [(⟨pk,po,pl,pc,pg⟩:Ps)]).length by rw [←HYX.out,List.length_append,←HNL.out];rfl)
    rw [HYX.out] at HR7
    rw [show (k:Int)=(X:Int) by rw [HKX.out]]
    obtain ⟨vv,hvv⟩:∃ vv:Value,vv=.slice (some ⟨g',0,none⟩) (nL+1) cap':=⟨_,rfl⟩
    clear t0 t1 t2 t3 t4 hlp hvv
    go_wp2_with fail
    go_loopw [6,7] (fun s i wr=>∃(k:Nat)(aL:Option Addr)(nL cL:Nat)(ys:List Ps),X≤k∧k≤n∧i=.int .i64 k∧s=.slice aL nL cL∧ys=l.take X ++ (⟨pk,po,pl,pc,pg⟩:Ps) :: ((l.drop X).take (k - X)).filter (fun q=>q.key != pk)∧nL=ys.length∧wr.ownsRow w0.heap.size 132 5 (.slice aL nL cL) nL (ys.flatMap psC)∧Below w0.heap.size w0 wr) (fun _ i _=>n - (intOf i).toNat)
    case atStart=>exact ⟨X,_,_,_,_,Nat.le_refl _,hXn,rfl,rfl,by simp,HN7.out,HR7.out,HB7.out⟩
    case round=>
     obtain ⟨k,aL,nL,cL,ys,hkx,hk,rfl,rfl,hys,hnl,hrw,hbr⟩:=hrel
     have HYS:=Hd hys
     have HNL:=Hd hnl
     have HRW:=Hd hrw
     have HBR:=Hd hbr
     have hnk:nL≤k+1:=by
      rw [hnl,hys,List.length_append,List.length_cons]
      have h1:(l.take X).length≤X:=List.length_take_le _ _
      have h2:(((l.drop X).take (k - X)).filter (fun q=>q.key != pk)).length≤k - X:=Nat.le_trans (List.length_filter_le _ _) (List.length_take_le _ _)
      omega
     have hzr:=hbr.size
     have KPR:=Hd (blk_below' KP0.out hbr)
     have HBW:=Hd (HB0.out.trans (hbr.mono (Nat.le_of_lt hz0)))
     clear hys hnl hrw hbr
     obtain ⟨t0,t1,t2,t3,t4⟩:=cells5t KPR.out
     have hlp:=blk_lt KPR.out
     by_cases hlt:k<n
     ·obtain ⟨x,hx⟩:∃ x,l[k]? = some x:=⟨_,List.getElem?_eq_getElem (by rw [HN.out];exact hlt)⟩
      obtain ⟨b,o,c',e,hb,r0,r1,r2,r3,r4⟩:=ps_cells (HR.out.below HBW.out) hx (by omega)
      obtain ⟨e8,-,rfl⟩:=sl_inj e
      have HAB:=Hd e8
      clear HAB
      obtain ⟨rfl,rfl⟩:_=b∧_=o:=by simpa using e8
      have HX2:=Hd hx
      have HTK:=Hd (show (l.drop X).take (k+1 - X)=(l.drop X).take (k - X) ++ [x] by
       rw [show k+1 - X=k - X+1 by omega,List.take_add_one,List.getElem?_drop,show X+(k - X)=k by omega,hx]
       rfl)
      have hj0:(0:Int)≤(k:Int):=by omega
      have hj1:(k:Int)<(n:Int):=by omega
      clear hx e
      obtain ⟨xk,xo,xl,xc,xg⟩:=x
      simp only at r0 r1 r2 r3 r4
      by_cases hne:xk=pk
      ·have e1:((xk:Int) != (pk:Int))=false:=by simp;omega
       have HE:=Hd (show ((l.drop X).take (k+1 - X)).filter (fun q=>q.key != pk)=((l.drop X).take (k - X)).filter (fun q=>q.key != pk) by
        rw [HTK.out,List.filter_append,List.filter_cons,if_neg (by simp [hne])]
        simp)
       clear hne
       go_upto_region 11 with fail
       refine wp_region_mask0 (fun w1=>w1=_) [4,6] [0,0,3,7,15,0,32,127] (.op 0 0 (.op 1 0 (.op 2 0 (.op 3 0 (.op 4 2 (.op 5 0 (.op 6 2 (.op 7 0 .nil)))))))) (by kernel_rfl) (by kernel_rfl) rfl (by kernel_rfl) (by kernel_rfl) rfl ?_
       (iterate 4 refine stepM0 rfl rfl fun K hK=>?_;go_simp;refine hK _ ?_;clear hK K);refine stepM2 rfl rfl ?_ (fun w1 hS=>?_) fun K hK=>?_;rotate_left;(focus (obtain rfl:w1=_:=hS;go_simp;rfl));go_simp;refine hK _ ?_;clear hK K;refine stepM0 rfl rfl fun K hK=>?_;go_simp;refine hK _ ?_;clear hK K;refine stepM2 rfl rfl ?_ (fun w1 hS=>?_) fun K hK=>?_;rotate_left;(focus (obtain rfl:w1=_:=hS;go_simp;rfl));go_simp;refine hK _ ?_;clear hK K;refine stepM0 rfl rfl fun K hK=>?_;go_simp;refine hK _ ?_;clear hK K
       try refine stepMnil0 ?_
       go_wp2_with fail
       go_roundw
       case rel=>exact ⟨k+1,aL,nL,cL,ys,by omega,by omega,by go_num,rfl,by rw [HE.out];exact HYS.out,HNL.out,ownsRow_below HRW.out (Below.drew (Below.refl _ _)),Below.drew HBR.out⟩
       case measure=>simp [intOf];omega
      ·have e1:((xk:Int) != (pk:Int))=true:=by simp;omega
       have HE:=Hd (show ((l.drop X).take (k+1 - X)).filter (fun q=>q.key != pk)=((l.drop X).take (k - X)).filter (fun q=>q.key != pk) ++ [⟨xk,xo,xl,xc,xg⟩] by
        rw [HTK.out,List.filter_append,List.filter_cons,if_pos (by simpa using hne)]
        rfl)
       clear hne
       go_upto_region 11 with fail
       refine wp_region_mask0 (fun w1=>w1=_) [4,6] [0,0,3,7,15,0,32,127] (.op 0 0 (.op 1 0 (.op 2 0 (.op 3 0 (.op 4 2 (.op 5 0 (.op 6 2 (.op 7 0 .nil)))))))) (by kernel_rfl) (by kernel_rfl) rfl (by kernel_rfl) (by kernel_rfl) rfl ?_
       (iterate 4 refine stepM0 rfl rfl fun K hK=>?_;go_simp;refine hK _ ?_;clear hK K);refine stepM2 rfl rfl ?_ (fun w1 hS=>?_) fun K hK=>?_;rotate_left;(focus (obtain rfl:w1=_:=hS;go_simp;rfl));go_simp;refine hK _ ?_;clear hK K;refine stepM0 rfl rfl fun K hK=>?_;go_simp;refine hK _ ?_;clear hK K;refine stepM2 rfl rfl ?_ (fun w1 hS=>?_) fun K hK=>?_;rotate_left;(focus (obtain rfl:w1=_:=hS;go_simp;rfl));go_simp;refine hK _ ?_;clear hK K;refine stepM0 rfl rfl fun K hK=>?_;go_simp;refine hK _ ?_;clear hK K
       try refine stepMnil0 ?_
       obtain ⟨wd,hwd⟩:∃ wd:World,wd=wr.drew:=⟨_,rfl⟩
       have HBD:=Hd (show Below w0.heap.size w0 wd by rw [hwd];exact Below.drew HBR.out)
       have HRD:=Hd (show wd.ownsRow w0.heap.size 132 5 (.slice aL nL cL) nL (ys.flatMap psC) by rw [hwd];exact ownsRow_below HRW.out (Below.drew (Below.refl _ _)))
       have hcr:wd.cell? ⟨b,o+k * 5,none⟩=some (.int .u64 xk)∧wd.cell? ⟨b,o+k * 5+1,none⟩=some (.int .i64 xo)∧wd.cell? ⟨b,o+k * 5+2,none⟩=some (.int .i64 xl)∧wd.cell? ⟨b,o+k * 5+3,none⟩=some (.int .u32 xc)∧wd.cell? ⟨b,o+k * 5+4,none⟩=some (.bool xg):=by rw [hwd];exact ⟨r0,r1,r2,r3,r4⟩
       have hzd:w0.heap.size≤wd.heap.size:=HBD.out.size
       rw [←hwd]
       clear hwd r0 r1 r2 r3 r4 t0 t1 t2 t3 t4 hlp
       obtain ⟨r0,r1,r2,r3,r4⟩:=hcr
       go_wp2_with (at_builtin;refine wpList_append_lies _ rfl _ _ 40 rfl w0.heap.size 132 i0 (.agg #[.int .u64 0,.int .i64 0,.int .i64 0,.int .u32 0,.bool false]) 5 32 Tryz.underlying40 HI.out HZ0.out HZ1.out HZ2.out rfl (by decide) (.slice aL nL cL) nL (ys.flatMap psC) rfl (ownsRow_below HRD.out belo) ⟨wd.heap.size,0,none⟩ 1 1 [.int .u64 xk,.int .i64 xo,.int .i64 xl,.int .u32 xc,.bool xg] rfl rfl (World.news_of_block (cs:=#[.int .u64 xk,.int .i64 xo,.int .i64 xl,.int .u32 xc,.bool xg]) (t:=132) (fr:=(0,0)) (heap_new wd _)) (by simp [Value.oneCell']) (by omega) (by unfold maxLen;omega) (by omega) (by simp;omega) _ rfl ?_;intro g' cap' w6 hown hgrow hat hlt6;have HG6:=Hd hgrow;have HO6:=Hd hown;have hz6:=hgrow.size;simp only [World.size_alloc] at hz6;clear hgrow hown hat)
       go_roundw
       case rel=>
        refine ⟨k+1,some ⟨g',0,none⟩,nL+1,cap',ys ++ [⟨xk,xo,xl,xc,xg⟩],by omega,by omega,by go_num,rfl,?_,by simp [HNL.out],?_,?_⟩
        ·rw [HE.out,HYS.out]
         simp
        ·refine ownsRow_cast HO6.out rfl ?_
         rw [List.flatMap_append]
         simp [psC]
        ·exact Below.grown (HBD.out.alloc hzd _) HG6.out (by simp;omega) (fun g e=>(HRD.out.lt g e).1)
       case measure=>simp [intOf];omega
     ·have hj1:¬ (k:Int)<(n:Int):=by omega
      have hj2:decide ((k:Int)<(n:Int))=false:=by simp;omega
      have hj3:decide (k<n)=false:=by simp;omega
      have HF:=Hd (show ys=ixPut l ⟨pk,po,pl,pc,pg⟩ by
       rw [HYS.out,←HPE.out,show (l.drop X).take (k - X)=l.drop X from List.take_of_length_le (by rw [List.length_drop,HN.out];omega)])
      go_wp2_with fail
      go_ret2
      refine ⟨.slice aL nL cL,rfl,?_,HBW.out⟩
      rw [←HF.out,←HNL.out]
      exact ownsRow_mono HRW.out (Nat.le_of_lt hz0)
  ·have HKX:=Hd (show k=X by omega)
   have HXN:=Hd (show n≤X by omega)
   have hj1:¬ (k:Int)<(n:Int):=by omega
   have hj2:decide ((k:Int)<(n:Int))=false:=by simp;omega
   have hj3:decide (k<n)=false:=by simp;omega
   go_upto_region 5 with fail
   refine wp_region_mask0 (fun w1=>w1=_) [9,11] [0,0,2,7,15,31,31,127,255,511,31,1055,4095,8191] (.op 0 0 (.op 1 0 (.op 2 0 (.op 3 0 (.op 4 0 (.op 5 0 (.op 6 0 (.op 7 0 (.op 8 0 (.op 9 2 (.op 10 0 (.op 11 2 (.op 12 0 (.op 13 0 .nil)))))))))))))) (by kernel_rfl) (by kernel_rfl) rfl (by kernel_rfl) (by kernel_rfl) rfl ?_
   (iterate 5 refine stepM0 rfl rfl fun K hK=>?_;go_simp;refine hK _ ?_;clear hK K);(iterate 4 refine stepMy0 rfl rfl fun K hK=>?_;go_simp;refine hK _ ?_;clear hK K);refine stepMy2 rfl rfl fun K hK=>?_;go_simp;refine hK _ ?_;clear hK K;refine stepMy0 rfl rfl fun K hK=>?_;go_simp;refine hK _ ?_;clear hK K;refine stepMy2 rfl rfl fun K hK=>?_;go_simp;refine hK _ ?_;clear hK K;refine stepMy0 rfl rfl fun K hK=>?_;go_simp;refine hK _ ?_;clear hK K;refine stepM0 rfl rfl fun K hK=>?_;go_simp;refine hK _ ?_;clear hK K
   try refine stepMnil0 ?_
   obtain ⟨wd,hwd⟩:∃ wd:World,wd=wr.drew:=⟨_,rfl⟩
   have HBD:=Hd (show Below w0.heap.size w0 wd by rw [hwd];exact Below.drew HBR.out)
   have HRD:=Hd (show wd.ownsRow w0.heap.size 132 5 (.slice aL nL cL) nL (ys.flatMap psC) by rw [hwd];exact ownsRow_below HRW.out (Below.drew (Below.refl _ _)))
   have KPD:=Hd (show wd.heap[w.heap.size]? = some (.cells #[.int .u64 pk,.int .i64 po,.int .i64 pl,.int .u32 pc,.bool pg] 132 (0,0)) by rw [hwd];exact KPR.out)
   have hzd:w0.heap.size≤wd.heap.size:=HBD.out.size
   rw [←hwd]
   clear hwd t0 t1 t2 t3 t4 hlp 
   obtain ⟨t0,t1,t2,t3,t4⟩:=cells5t KPD.out
   have hlp:=blk_lt KPD.out
   go_upto_region 8 with fail
   go_wp2_with (at_builtin;refine wpList_append_lies _ rfl _ _ 40 rfl w0.heap.size 132 i0 (.agg #[.int .u64 0,.int .i64 0,.int .i64 0,.int .u32 0,.bool false]) 5 32 Tryz.underlying40 HI.out HZ0.out HZ1.out HZ2.out rfl (by decide) (.slice aL nL cL) nL (ys.flatMap psC) rfl (ownsRow_below HRD.out belo) ⟨wd.heap.size,0,none⟩ 1 1 [.int .u64 pk,.int .i64 po,.int .i64 pl,.int .u32 pc,.bool pg] rfl rfl (World.news_of_block (cs:=#[.int .u64 pk,.int .i64 po,.int .i64 pl,.int .u32 pc,.bool pg]) (t:=132) (fr:=(0,0)) (heap_new wd _)) (by simp [Value.oneCell']) (by omega) (by unfold maxLen;omega) (by omega) (by simp;omega) _ rfl ?_;intro g' cap' w6 hown hgrow hat hlt6;have HG6:=Hd hgrow;have HO6:=Hd hown;have hz6:=hgrow.size;simp only [World.size_alloc] at hz6;clear hgrow hown hat)
   have HB7:=Hd (show Below w0.heap.size w0 w6 from Below.grown (HBD.out.alloc hzd _) HG6.out (by simp;omega) (fun g e=>(HRD.out.lt g e).1))
   have HR7:=Hd (show w6.ownsRow w0.heap.size 132 5 (.slice (some ⟨g',0,none⟩) (nL+1) cap') (nL+1) ((ys ++ [(⟨pk,po,pl,pc,pg⟩:Ps)]).flatMap psC) from ownsRow_cast HO6.out rfl (by rw [List.flatMap_append];simp [psC]))
   have HYX:=Hd (show ys ++ [(⟨pk,po,pl,pc,pg⟩:Ps)]=l.take X ++ [⟨pk,po,pl,pc,pg⟩] by rw [HYS.out,HKX.out])
   have HN7:=Hd (show nL+1=(l.take X ++ [(⟨pk,po,pl,pc,pg⟩:Ps)]).length by rw [←HYX.out,List.length_append,←HNL.out];rfl)
   rw [HYX.out] at HR7
   rw [show (k:Int)=(X:Int) by rw [HKX.out]]
   obtain ⟨vv,hvv⟩:∃ vv:Value,vv=.slice (some ⟨g',0,none⟩) (nL+1) cap':=⟨_,rfl⟩
   clear t0 t1 t2 t3 t4 hlp hvv
   go_wp2_with fail
   go_loopw [6,7] (fun s i wr=>∃(k:Nat)(aL:Option Addr)(nL cL:Nat)(ys:List Ps),X≤k∧k≤n∧i=.int .i64 k∧s=.slice aL nL cL∧ys=l.take X ++ (⟨pk,po,pl,pc,pg⟩:Ps) :: ((l.drop X).take (k - X)).filter (fun q=>q.key != pk)∧nL=ys.length∧wr.ownsRow w0.heap.size 132 5 (.slice aL nL cL) nL (ys.flatMap psC)∧Below w0.heap.size w0 wr) (fun _ i _=>n - (intOf i).toNat)
   case atStart=>exact ⟨X,_,_,_,_,Nat.le_refl _,hXn,rfl,rfl,by simp,HN7.out,HR7.out,HB7.out⟩
   case round=>
    obtain ⟨k,aL,nL,cL,ys,hkx,hk,rfl,rfl,hys,hnl,hrw,hbr⟩:=hrel
    have HYS:=Hd hys
    have HNL:=Hd hnl
    have HRW:=Hd hrw
    have HBR:=Hd hbr
    have hnk:nL≤k+1:=by
     rw [hnl,hys,List.length_append,List.length_cons]
     have h1:(l.take X).length≤X:=List.length_take_le _ _
     have h2:(((l.drop X).take (k - X)).filter (fun q=>q.key != pk)).length≤k - X:=Nat.le_trans (List.length_filter_le _ _) (List.length_take_le _ _)
     omega
    have hzr:=hbr.size
    have KPR:=Hd (blk_below' KP0.out hbr)
    have HBW:=Hd (HB0.out.trans (hbr.mono (Nat.le_of_lt hz0)))
    clear hys hnl hrw hbr
    obtain ⟨t0,t1,t2,t3,t4⟩:=cells5t KPR.out
    have hlp:=blk_lt KPR.out
    by_cases hlt:k<n
    ·exact absurd hlt (by have:=HXN.out;omega)
    ·have hj1:¬ (k:Int)<(n:Int):=by omega
     have hj2:decide ((k:Int)<(n:Int))=false:=by simp;omega
     have hj3:decide (k<n)=false:=by simp;omega
     have HF:=Hd (show ys=ixPut l ⟨pk,po,pl,pc,pg⟩ by
      rw [HYS.out,←HPE.out,show (l.drop X).take (k - X)=l.drop X from List.take_of_length_le (by rw [List.length_drop,HN.out];omega)])
     go_wp2_with fail
     go_ret2
     refine ⟨.slice aL nL cL,rfl,?_,HBW.out⟩
     rw [←HF.out,←HNL.out]
     exact ownsRow_mono HRW.out (Nat.le_of_lt hz0)
def rvV (v:Rv) (al:Option Addr) (cl:Nat) (ad:Option Addr) (cd:Nat):Value:=.agg #[.int .i64 v.num,.int .i64 v.most,.int .i64 v.epoch,.int .i64 v.size,.bool v.shut,.slice al v.l.length cl,.slice ad v.d.length cd]
structure RvAt (w:World) (P:Nat→Prop) (v:Rv) (al:Option Addr) (cl:Nat) (ad:Option Addr) (cd:Nat) (xs:List NdE):Prop where
 rl:Reads w 5 (.slice al v.l.length cl) v.l.length (v.l.flatMap psC)
 bl:∀ a,al=some a→P a.block∧a.block<w.heap.size
 rd:NdsAt w P ad v.d.length cd xs
 eq:xs.map NdE.n=v.d
def RvIn (w:World) (P:Nat→Prop) (val:Value) (v:Rv):Prop:=∃ al cl ad cd xs,val=rvV v al cl ad cd∧RvAt w P v al cl ad cd xs
theorem RvAt.kp{P:Nat→Prop}{w w':World}{v:Rv}{al ad:Option Addr}{cl cd:Nat}{xs:List NdE}(h:RvAt w P v al cl ad cd xs)(hk:KP P w w'):RvAt w' P v al cl ad cd xs:=
 ⟨h.rl.keepsN (by omega) hk (fun a e=>⟨(h.bl a e).2,fun e2=>e2 (h.bl a e).1⟩),fun a e=>⟨(h.bl a e).1,Nat.lt_of_lt_of_le (h.bl a e).2 hk.size⟩,h.rd.kp hk,h.eq⟩
theorem RvIn.kp{P:Nat→Prop}{w w':World}{val:Value}{v:Rv}(h:RvIn w P val v)(hk:KP P w w'):RvIn w' P val v:=by
 obtain ⟨al,cl,ad,cd,xs,e,h⟩:=h
 exact ⟨al,cl,ad,cd,xs,e,h.kp hk⟩
theorem NdsAt.wide{P Q:Nat→Prop}{w:World}{a:Option Addr}{n c:Nat}{xs:List NdE}(h:NdsAt w P a n c xs)(hq:∀ k,P k→k<w.heap.size→Q k):NdsAt w Q a n c xs:=
 ⟨h.len,h.row,fun ad e=>⟨hq _ (h.blk ad e).1 (h.blk ad e).2,(h.blk ad e).2⟩,fun x hx=>⟨(h.ins x hx).1,fun ad e hl=>⟨hq _ ((h.ins x hx).2 ad e hl).1 ((h.ins x hx).2 ad e hl).2,((h.ins x hx).2 ad e hl).2⟩⟩⟩
theorem RvIn.wide{P Q:Nat→Prop}{w:World}{val:Value}{v:Rv}(h:RvIn w P val v)(hq:∀ k,P k→k<w.heap.size→Q k):RvIn w Q val v:=by
 obtain ⟨al,cl,ad,cd,xs,e,h⟩:=h
 exact ⟨al,cl,ad,cd,xs,e,h.rl,fun a ea=>⟨hq _ (h.bl a ea).1 (h.bl a ea).2,(h.bl a ea).2⟩,h.rd.wide hq,h.eq⟩
def PNew (P:Nat→Prop) (w:World) (k:Nat):Prop:=P k∨w.heap.size≤k
def NdP (w:World) (P:Nat→Prop) (x:NdE):Prop:=NdArg w x∧∀ ad,x.a=some ad→0<x.n.data.length→P ad.block∧ad.block<w.heap.size
theorem NdP.kp{P:Nat→Prop}{w w':World}{x:NdE}(h:NdP w P x)(hk:KP P w w'):NdP w' P x:=
 ⟨⟨h.1.key,h.1.cookie,h.1.data.keepsZ (by omega) hk (fun ad e hl=>⟨(h.2 ad e hl).2,fun e2=>e2 (h.2 ad e hl).1⟩)⟩,fun ad e hl=>⟨(h.2 ad e hl).1,Nat.lt_of_lt_of_le (h.2 ad e hl).2 hk.size⟩⟩
theorem NdP.below{P:Nat→Prop}{w w':World}{x:NdE}(h:NdP w P x)(hb:Below w.heap.size w w'):NdP w' P x:=h.kp (KP.of hb)
theorem NdP.wide{P Q:Nat→Prop}{w:World}{x:NdE}(h:NdP w P x)(hq:∀ k,P k→k<w.heap.size→Q k):NdP w Q x:=
 ⟨h.1,fun ad e hl=>⟨hq _ (h.2 ad e hl).1 (h.2 ad e hl).2,(h.2 ad e hl).2⟩⟩
theorem blk_drew{w:World}{k:Nat}{x:Obj}(h:w.heap[k]? = some x):w.drew.heap[k]? = some x:=h
theorem blk_drewN{w:World}{k:Nat}{x:Obj}(n:Nat)(h:w.heap[k]? = some x):(w.drewN n).heap[k]? = some x:=h
theorem own03{w:World}{base k:Nat}(h:w.heap[k]? = some (.cells #[] 49 (0,0)))(hb:base≤k):w.ownsRow base 49 4 (.slice (some ⟨k,0,none⟩) 0 0) 0 []:=
 ⟨rfl,.inr ⟨k,0,#[],rfl,hb,h,Nat.le_refl _,by unfold maxLen;omega,rfl,rfl⟩⟩
theorem n03info:(Tryz.prog.info? 49).map (fun i=>(i.zero,i.size,i.bytes))=some (some (.agg #[.int .u64 0,.int .u32 0,.bool false,.slice none 0 0]),4,40):=by kernel_rfl
def RWTo (w:World) (P:Nat→Prop) (r:Nat×Rv) (e:Ending) (w':World):Prop:=
 ∃ val,e=.returned (.tuple #[val,.int .i64 r.1])∧RvIn w' (PNew P w) val r.2∧Below w.heap.size w w'
theorem rwrite_any(P:Nat→Prop)(v:Rv)(al:Option Addr)(cl:Nat)(ad:Option Addr)(cd:Nat)(xs:List NdE)(x:NdE)(w:World)(h:RvAt w P v al cl ad cd xs)(hx:NdP w P x)(hs:IxS v.l)(hd:x.n.data.length≤100000)(hz:v.size≤1000000000)(hm:v.most≤1000000000)(hf:v.l.length≤4096)(hdn:v.d.length≤1000000) :
  Calls Tryz.prog 105 #[rvV v al cl ad cd,.agg x.cs.toArray] w (RWTo w P (v.write x.n)):=by
 obtain ⟨i0,hi,hzz0,hzz1,hzz2⟩:=info_parts n03info
 have HI:=Hd hi
 have HZ0:=Hd hzz0
 have HZ1:=Hd hzz1
 have HZ2:=Hd hzz2
 have HV:=Hd h
 have HX:=Hd hx
 have HFD:=Hd (fun (w0:World) (hb:Below w.heap.size w w0)=>rfind_any al v.l.length cl v.l x.n.key w0 rfl (h.rl.below hb))
 have HPT:=Hd (fun (w0:World) (hb:Below w.heap.size w w0) (p:Ps) (hr:ixFind v.l p.key≠none∨v.l.length<4096)=>rput_any al v.l.length cl v.l p w0 rfl (h.rl.below hb) hs hf hr)
 have HWE:=Hd (show v.write x.n=if v.most<v.size+ndSize x.n.data.length∨(ixFind v.l x.n.key=none∧4096≤v.l.length) then (11,v) else (0,{ v with l:=ixPut v.l (posOf v.size x.n),d:=v.d ++ [x.n],size:=v.size+ndSize x.n.data.length }) from rfl)
 have hnd:NdE.cs x=[.int .u64 x.n.key,.int .u32 x.n.cookie,.bool x.n.gone,.slice x.a x.n.data.length x.c]:=rfl
 obtain ⟨⟨key,cookie,gone,data⟩,xa,xc⟩:=x
 have HR:=Hd (show ∀ p:Nat,p=ndSize data.length→p=32+data.length+padN data.length from fun p e=>e)
 obtain ⟨NS,hNS⟩:∃ NS,NS=ndSize data.length:=⟨_,rfl⟩
 have HNS:=Hd hNS
 have hpd:padN (32+data.length)=padN data.length:=padN_32 _
 obtain ⟨PD,hPD⟩:∃ PD,PD=padN data.length:=⟨_,rfl⟩
 have hns2:NS=32+data.length+PD:=by rw [hNS,hPD];rfl
 have hpd7:PD≤7:=by rw [hPD];unfold padN;omega
 have HPA:=Hd (fun w0:World=>show Calls Tryz.prog 144 #[.int .i64 (32+(data.length:Int))] w0 fun e w'=>e=.returned (.int .i64 PD)∧w0=w' by
  have:=rpad_any (32+data.length) (by simp only at hd;omega) w0
  rw [hpd,←hPD] at this
  exact this)
 unfold rvV
 rw [hnd]
 simp only at HFD HWE hd ⊢
 rw [←hNS] at HWE
 obtain ⟨num,most,epoch,size,shut,l,dd⟩:=v
 simp only at HFD HPT HWE hz hm hf hdn ⊢
 obtain ⟨ln,hln⟩:∃ ln,ln=l.length:=⟨_,rfl⟩
 obtain ⟨dn,hdn2⟩:∃ dn,dn=dd.length:=⟨_,rfl⟩
 obtain ⟨xn,hxn⟩:∃ xn,xn=data.length:=⟨_,rfl⟩
 have HLN:=Hd hln
 have HDN:=Hd hdn2
 have HXN:=Hd hxn
 rw [←hln] at HFD HPT HWE hf
 rw [←hdn2] at hdn
 rw [←hxn] at hd hns2 HPA
 obtain ⟨W1,hW1⟩:∃ W1,W1=(Rv.write ⟨num,most,epoch,size,shut,l,dd⟩ ⟨key,cookie,gone,data⟩):=⟨_,rfl⟩
 rw [←hW1] at HWE ⊢
 rw [←hln,←hdn2,←hxn]
 clear h hx hs hi hzz0 hzz1 hzz2 hnd hNS hpd hPD hln hdn2 hxn hW1
 go_enter Tryz.func105,Tryz.ntmps105
 go_upto_region 1 with fail
 obtain ⟨w0,hw0⟩:∃ w0:World,w0=((w.alloc (.cells #[.int .i64 num,.int .i64 most,.int .i64 epoch,.int .i64 size,.bool shut,.slice al ln cl,.slice ad dn cd] 43)).alloc (.cells #[.int .u64 key,.int .u32 cookie,.bool gone,.slice xa xn xc] 49)).alloc (.cells #[.int .i64 0,.int .i64 0,.int .i64 0,.int .i64 0,.bool false,.slice none 0 0,.slice none 0 0] 43):=⟨_,rfl⟩
 have HB0:=Hd (show Below w.heap.size w w0 by rw [hw0];exact belo)
 have KV0:=Hd (show w0.heap[w.heap.size]? = some (.cells #[.int .i64 num,.int .i64 most,.int .i64 epoch,.int .i64 size,.bool shut,.slice al ln cl,.slice ad dn cd] 43 (0,0)) by rw [hw0];exact blk_alloc (blk_alloc (heap_new w _) _) _)
 have KX0:=Hd (show w0.heap[w.heap.size+1]? = some (.cells #[.int .u64 key,.int .u32 cookie,.bool gone,.slice xa xn xc] 49 (0,0)) by rw [hw0];exact blk_alloc (blk_new _ (by simp)) _)
 have KR0:=Hd (show w0.heap[w.heap.size+2]? = some (.cells #[.int .i64 0,.int .i64 0,.int .i64 0,.int .i64 0,.bool false,.slice none 0 0,.slice none 0 0] 43 (0,0)) by rw [hw0];exact blk_new _ (by simp))
 rw [←hw0,show w.heap.size+1+1=w.heap.size+2 from rfl]
 clear hw0
 have hz0:=HB0.out.size
 obtain ⟨v0,v1,v2,v3,v4,v5,v6⟩:=cells7' KV0.out
 obtain ⟨x0,x1,x2,x3⟩:=ncells KX0.out
 obtain ⟨r0,r1,r2,r3,r4,r5,r6⟩:=cells7' KR0.out
 obtain ⟨g0,g1,g2,g3,g4,g5,g6⟩:=free7 KR0.out
 obtain ⟨f0,f1,f2,f3,f4,f5,f6⟩:=free7 KV0.out
 have hl0:=blk_lt KR0.out
 go_wp2_with fail
 refine (HPA.out w0).mono ?_
 rintro e wx ⟨rfl,rfl⟩
 by_cases hbig:most<size+NS
 ·have HE:=Hd (HWE.out.trans (if_pos (.inl hbig)))
  have e1:decide ((most:Int)<(size:Int)+(32+(xn:Int)+(PD:Int)))=true:=by simp;omega
  go_wp2_with fail
  obtain ⟨wx,hwx⟩:∃ wx,wx=set7i w0 (w.heap.size+2) (.int .i64 num) (.int .i64 most) (.int .i64 epoch) (.int .i64 size) (.bool shut) (.slice al ln cl) (.slice ad dn cd):=⟨_,rfl⟩
  have HBX:=Hd (show Below w.heap.size w wx by rw [hwx];exact HB0.out.trans (set7i_below (by omega) _ _ _ _ _ _ _))
  have kbx:=store7i (KR0.out) (.int .i64 num) (.int .i64 most) (.int .i64 epoch) (.int .i64 size) (.bool shut) (.slice al ln cl) (.slice ad dn cd)
  rw [←hwx] at kbx
  unfold set7i at hwx
  rw [←hwx]
  clear hwx
  obtain ⟨s0,s1,s2,s3,s4,s5,s6⟩:=cells7' kbx
  refine bodyPost_ret (v:=?_) ?_ rfl ?_
  rotate_left;(focus (simp [results,Tryz.results105,go_sem,s0,s1,s2,s3,s4,s5,s6];exact rfl))
  rw [HE.out]
  refine ⟨_,rfl,?_,HBX.out⟩
  have hin:RvIn wx P (rvV ⟨num,most,epoch,size,shut,l,dd⟩ al cl ad cd) ⟨num,most,epoch,size,shut,l,dd⟩:=⟨al,cl,ad,cd,xs,rfl,HV.out.kp (KP.of HBX.out)⟩
  have hin2:=hin.wide (Q:=PNew P w) (fun k hk _=>.inl hk)
  unfold rvV at hin2
  rw [←HLN.out,←HDN.out] at hin2
  exact hin2
 have e1:decide ((most:Int)<(size:Int)+(32+(xn:Int)+(PD:Int)))=false:=by simp;omega
 go_wp2_with fail
 refine (HFD.out w0 HB0.out).mono ?_
 rintro e wx ⟨r,rfl,hr,rfl⟩
 by_cases hfull:r<0∧4096≤ln
 ·have HE:=Hd (HWE.out.trans (if_pos (.inr ⟨hr.1 hfull.1,hfull.2⟩)))
  have e2:decide (r<0)=true:=by simp;omega
  have e3:decide ((4096:Int)≤(ln:Int))=true:=by simp;omega
  have e4:decide (4096≤ln)=true:=by simp;omega
  clear hr hfull
  go_wp2_with fail
  obtain ⟨wx,hwx⟩:∃ wx,wx=set7i w0 (w.heap.size+2) (.int .i64 num) (.int .i64 most) (.int .i64 epoch) (.int .i64 size) (.bool shut) (.slice al ln cl) (.slice ad dn cd):=⟨_,rfl⟩
  have HBX:=Hd (show Below w.heap.size w wx by rw [hwx];exact HB0.out.trans (set7i_below (by omega) _ _ _ _ _ _ _))
  have kbx:=store7i (KR0.out) (.int .i64 num) (.int .i64 most) (.int .i64 epoch) (.int .i64 size) (.bool shut) (.slice al ln cl) (.slice ad dn cd)
  rw [←hwx] at kbx
  unfold set7i at hwx
  rw [←hwx]
  clear hwx
  obtain ⟨s0,s1,s2,s3,s4,s5,s6⟩:=cells7' kbx
  refine bodyPost_ret (v:=?_) ?_ rfl ?_
  rotate_left;(focus (simp [results,Tryz.results105,go_sem,s0,s1,s2,s3,s4,s5,s6];exact rfl))
  rw [HE.out]
  refine ⟨_,rfl,?_,HBX.out⟩
  have hin:RvIn wx P (rvV ⟨num,most,epoch,size,shut,l,dd⟩ al cl ad cd) ⟨num,most,epoch,size,shut,l,dd⟩:=⟨al,cl,ad,cd,xs,rfl,HV.out.kp (KP.of HBX.out)⟩
  have hin2:=hin.wide (Q:=PNew P w) (fun k hk _=>.inl hk)
  unfold rvV at hin2
  rw [←HLN.out,←HDN.out] at hin2
  exact hin2
 have hroom:ixFind l key≠none∨ln<4096:=by
  by_cases h0:r<0
  ·right
   apply Classical.byContradiction
   intro e
   exact hfull ⟨h0,by omega⟩
  ·left
   intro e
   exact h0 (hr.2 e)
 have HE:=Hd (HWE.out.trans (if_neg (by
  rintro (e|⟨ea,eb⟩)
  ·exact hbig e
  ·rcases hroom with h|h
   ·exact h ea
   ·omega)))
 have HPUT:=Hd (HPT.out w0 HB0.out ⟨key,size,xn,cookie,gone⟩ hroom)
 unfold psV at HPUT
 simp only at HPUT
 have hq:∃ q:Bool,decide (r<0)=q∧(q=true→decide ((4096:Int)≤(ln:Int))=false):=by
  refine ⟨_,rfl,fun hq=>?_⟩
  simp only [decide_eq_true_eq] at hq
  simp
  apply Classical.byContradiction
  intro e
  exact hfull ⟨hq,by omega⟩
 clear hfull hroom hr hbig
 obtain ⟨q,hq1,hq2⟩:=hq
 cases q
 case' true=>
  have d1:=hq2 rfl
  have d2:decide (4096≤ln)=false:=by simp at d1;simp;omega
 all_goals
  go_wp2_with fail
  refine HPUT.mono ?_
  rintro e w1 ⟨vl2,rfl,ho,hb⟩
  obtain ⟨nl2,hnl2⟩:∃ nl2,nl2=(ixPut l ⟨key,size,xn,cookie,gone⟩).length:=⟨_,rfl⟩
  rw [←hnl2] at ho
  obtain ⟨al2,cl2,rfl,-⟩:=slice_of ho
  have HO1:=Hd ho
  have HNL2:=Hd hnl2
  have KV1:=Hd (blk_below' KV0.out hb)
  have KX1:=Hd (blk_below' KX0.out hb)
  have KR1:=Hd (blk_below' KR0.out hb)
  have HB1:=Hd (HB0.out.trans (hb.mono hz0))
  have hz1:=hb.size
  clear ho hnl2 hb HPUT v0 v1 v2 v3 v4 v5 v6 x0 x1 x2 x3 r0 r1 r2 r3 r4 r5 r6 g0 g1 g2 g3 g4 g5 g6 f0 f1 f2 f3 f4 f5 f6
  obtain ⟨v0,v1,v2,v3,v4,v5,v6⟩:=cells7' KV1.out
  obtain ⟨f0,f1,f2,f3,f4,f5,f6⟩:=free7 KV1.out
  have hlv1:=blk_lt KV1.out
  have hlr1:=blk_lt KR1.out
  go_upto_region 6 with fail
  obtain ⟨w2,hw2⟩:∃ w2:World,w2=w1.setCell ⟨w.heap.size,5,none⟩ (.slice al2 nl2 cl2):=⟨_,rfl⟩
  have hk2:Keeps (fun k=>k=w.heap.size) w1 w2:=by rw [hw2];exact (Keeps.refl (fun k=>k=w.heap.size) w1).setCell ⟨w.heap.size,5,none⟩ _ (fun _=>rfl)
  have KV2:=Hd (show w2.heap[w.heap.size]? = some (.cells #[.int .i64 num,.int .i64 most,.int .i64 epoch,.int .i64 size,.bool shut,.slice al2 nl2 cl2,.slice ad dn cd] 43 (0,0)) by
   rw [hw2]
   simpa using heap_setCell_same w1 w.heap.size 5 _ _ (.slice al2 nl2 cl2) KV1.out)
  have KX2:=Hd ((hk2.block _ (blk_lt KX1.out) (by omega)).trans KX1.out)
  have KR2:=Hd ((hk2.block _ (blk_lt KR1.out) (by omega)).trans KR1.out)
  have HB2:=Hd (show Below w.heap.size w w2 by rw [hw2];exact HB1.out.setCell (Nat.le_refl _) _)
  have HO2:=Hd (ownsRow_keeps HO1.out hk2 (fun g e=>by have:=(HO1.out.lt g e).1;omega))
  rw [←hw2]
  have hz2:w1.heap.size=w2.heap.size:=by rw [hw2];simp
  clear hw2 hk2 v0 v1 v2 v3 v4 v5 v6 f0 f1 f2 f3 f4 f5 f6
  have HRD2:=Hd (show Reads w2 4 (.slice ad dn cd) dn (xs.flatMap NdE.cs) by rw [HDN.out];exact HV.out.rd.row.below HB2.out)
  have hlr2:=blk_lt KR2.out
  have HZE:=Hd hz2
  clear hz2 hz1
  have hw2z:w.heap.size≤w2.heap.size:=HB2.out.size
  obtain ⟨SS,HSD⟩:∃ SS:World→Prop,Hid (SS=fun w'=>w'.heap[w.heap.size]? = some (.cells #[.int .i64 num,.int .i64 most,.int .i64 epoch,.int .i64 size,.bool shut,.slice al2 nl2 cl2,.slice ad dn cd] 43 (0,0))∧w'.heap[w.heap.size+1]? = some (.cells #[.int .u64 key,.int .u32 cookie,.bool gone,.slice xa xn xc] 49 (0,0))):=⟨_,Hd rfl⟩
  refine wp_region_mask0 SS [2,4] [0,0,2,7,0,16,63,127,255] (.op 1 0 (.op 2 2 (.op 4 2 (.two 0 (.two 3 (.op 5 1 (.op 6 1 (.op 7 0 (.op 8 1 .nil)))) 5 (.op 3 1 (.op 6 1 (.op 7 0 (.op 8 1 .nil))))) 5 (.op 0 1 (.op 3 1 (.op 6 1 (.op 7 0 (.op 8 1 .nil))))))))) (by kernel_rfl) (by kernel_rfl) rfl (by kernel_rfl) (by kernel_rfl) ?_ ?_
  (focus (rw [HSD.out];exact ⟨KV2.out,KX2.out⟩));refine stepM0 rfl rfl fun K hK=>?_;go_simp;refine hK _ ?_;clear hK K;refine stepM2 rfl rfl ?_ (fun w1 hS=>?_) fun K hK=>?_;rotate_left;(focus (rw [HSD.out] at hS;obtain ⟨s1,s2⟩:=hS;obtain ⟨y0,y1,y2,y3,y4,y5,y6⟩:=cells7' s1;obtain ⟨z0,z1,z2,z3⟩:=ncells s2;go_simp;rfl));go_simp;refine hK _ ?_;clear hK K;refine stepM2 rfl rfl ?_ (fun w1 hS=>?_) fun K hK=>?_;rotate_left;(focus (rw [HSD.out] at hS;obtain ⟨s1,s2⟩:=hS;obtain ⟨y0,y1,y2,y3,y4,y5,y6⟩:=cells7' s1;obtain ⟨z0,z1,z2,z3⟩:=ncells s2;go_simp;rfl));go_simp;refine hK _ ?_;clear hK K
  refine stepMtwo ?_ ?_ (by kernel_rfl) (by kernel_rfl)
  ·
   refine stepM1S rfl rfl fun K hK=>?_;go_wp2
   refine ⟨by rw [HSD.out];exact (⟨alloc_blk (w:=w2.drew) KV2.out _,alloc_blk (w:=w2.drew) KX2.out _⟩),?_⟩
   refine stepMtwo ?_ ?_ (by kernel_rfl) (by kernel_rfl)
   ·
    refine stepM1S rfl rfl fun K hK=>?_
    (refine wp_append_reads _ _ _ 41 rfl w2.heap.size 49 i0 (.agg #[.int .u64 0,.int .u32 0,.bool false,.slice none 0 0]) 4 40 Tryz.underlying41 HI.out HZ0.out HZ1.out HZ2.out rfl (by decide) (.slice (some ⟨w2.heap.size,0,none⟩) 0 0) 0 [] rfl (World.ownsRow_lit w2.drew #[] 0 (Nat.le_refl _) (by unfold maxLen;omega) rfl) (.slice ad dn cd) dn (xs.flatMap NdE.cs) rfl (HRD2.out.below belo) (NdE.one xs) (by unfold maxLen;omega) (by omega) (by first|omega|(simp;done)|(simp;omega)) ?_;intro v1 w3 hown1 hgrow1 hat1;have hne:∀ j,j≤2→some (w.heap.size+j)≠(Value.slice (some ⟨w2.heap.size,0,none⟩) 0 0).ownBlock:=(fun j hj e=>by simp [Value.ownBlock] at e;omega);have KV3:=Hd ((hgrow1.block (w.heap.size) (by first|omega|(simp;done)|(simp;omega)) (hne 0 (by omega))).trans (alloc_blk (w:=w2.drew) KV2.out _));have KX3:=Hd ((hgrow1.block (w.heap.size+1) (by first|omega|(simp;done)|(simp;omega)) (hne 1 (by omega))).trans (alloc_blk (w:=w2.drew) KX2.out _));have KR3:=Hd ((hgrow1.block (w.heap.size+2) (by first|omega|(simp;done)|(simp;omega)) (hne 2 (by omega))).trans (alloc_blk (w:=w2.drew) KR2.out _));have hz3:=hgrow1.size;simp only [World.size_alloc,World.size_drew] at hz3;have HB3:=Hd (show Below w2.heap.size w2 w3 from Below.grown belo hgrow1 (by first|omega|(simp;done)|(simp;omega)) (fun g e=>by simp [Value.ownBlock] at e;omega));have HOW3:=Hd hown1;clear hgrow1 hown1 hat1 hne;go_wp2)
    refine ⟨by rw [HSD.out];exact (⟨KV3.out,KX3.out⟩),?_⟩
    refine stepM1S rfl rfl fun K hK=>?_;go_wp2
    refine ⟨by rw [HSD.out];exact (⟨alloc_blk KV3.out _,alloc_blk KX3.out _⟩),?_⟩
    refine stepM1 rfl rfl (by kernel_rfl) fun K hK=>?_
    (refine wp_append_lies _ _ _ 41 rfl w2.heap.size 49 i0 (.agg #[.int .u64 0,.int .u32 0,.bool false,.slice none 0 0]) 4 40 Tryz.underlying41 HI.out HZ0.out HZ1.out HZ2.out rfl (by decide) v1 (0+dn) ([] ++ xs.flatMap NdE.cs) rfl (HOW3.out.alloc _) ⟨w3.heap.size,0,none⟩ 1 1 [.int .u64 key,.int .u32 cookie,.bool gone,.slice xa xn xc] rfl rfl (World.news_of_block (cs:=#[.int .u64 key,.int .u32 cookie,.bool gone,.slice xa xn xc]) (t:=49) (fr:=(0,0)) (heap_new w3 _)) (by simp [Value.oneCell']) (by omega) (by unfold maxLen;omega) (by omega) (by first|omega|(simp;done)|(simp;omega)) _ rfl ?_;intro gg cap2 w4 hown2 hgrow2 hat2 hlt2;have hne:∀ j,j≤2→some (w.heap.size+j)≠v1.ownBlock:=(fun j hj e=>by have:=(HOW3.out.lt _ e.symm).1;omega);have KV4:=Hd ((hgrow2.block (w.heap.size) (by first|omega|(simp;done)|(simp;omega)) (hne 0 (by omega))).trans (alloc_blk KV3.out _));have KX4:=Hd ((hgrow2.block (w.heap.size+1) (by first|omega|(simp;done)|(simp;omega)) (hne 1 (by omega))).trans (alloc_blk KX3.out _));have KR4:=Hd ((hgrow2.block (w.heap.size+2) (by first|omega|(simp;done)|(simp;omega)) (hne 2 (by omega))).trans (alloc_blk KR3.out _));have hz4:=hgrow2.size;(try simp only [World.size_alloc] at hz4);have HB4:=Hd (show Below w2.heap.size w2 w4 from Below.grown (HB3.out.alloc (by omega) _) hgrow2 (by first|omega|(simp;done)|(simp;omega)) (fun g e=>(HOW3.out.lt _ e).1));have HOW4:=Hd hown2;clear hgrow2 hown2 hat2 hne;obtain ⟨v0,v1',v2,v3,v4,v5,v6⟩:=cells7' KV4.out;obtain ⟨f0,f1,f2,f3,f4,f5,f6⟩:=free7 KV4.out;have hlv4:=blk_lt KV4.out;go_wp2)
    refine stepM0 rfl rfl fun K hK=>?_;go_simp;refine hK _ ?_;clear hK K;refine stepM1 rfl rfl (by kernel_rfl) fun K hK=>?_;go_wp2
    try refine stepMnil0 ?_
    clear HSD SS
    go_upto_region 8 with fail
    obtain ⟨SZ,hSZ⟩:∃ SZ,SZ=size+NS:=⟨_,rfl⟩
    have HSZ:=Hd hSZ
    obtain ⟨w5,hw5⟩:∃ w5:World,w5=(w4.setCell ⟨w.heap.size,6,none⟩ (.slice (some ⟨gg,0,none⟩) (dn+1) cap2)).setCell ⟨w.heap.size,3,none⟩ (.int .i64 ((size:Int)+(32+(xn:Int)+(PD:Int)))):=⟨_,rfl⟩
    have hk5:Keeps (fun k=>k=w.heap.size) w4 w5:=by rw [hw5];exact ((Keeps.refl (fun k=>k=w.heap.size) w4).setCell ⟨w.heap.size,6,none⟩ _ (fun _=>rfl)).setCell ⟨w.heap.size,3,none⟩ _ (fun _=>rfl)
    have KV5:=Hd (show w5.heap[w.heap.size]? = some (.cells #[.int .i64 num,.int .i64 most,.int .i64 epoch,.int .i64 SZ,.bool shut,.slice al2 nl2 cl2,.slice (some ⟨gg,0,none⟩) (dn+1) cap2] 43 (0,0)) by
     rw [hw5,show (SZ:Int)=(size:Int)+(32+(xn:Int)+(PD:Int)) by omega]
     have h1:(w4.setCell ⟨w.heap.size,6,none⟩ (.slice (some ⟨gg,0,none⟩) (dn+1) cap2)).heap[w.heap.size]? = some (.cells #[.int .i64 num,.int .i64 most,.int .i64 epoch,.int .i64 size,.bool shut,.slice al2 nl2 cl2,.slice (some ⟨gg,0,none⟩) (dn+1) cap2] 43 (0,0)):=by simpa using heap_setCell_same w4 w.heap.size 6 _ _ (.slice (some ⟨gg,0,none⟩) (dn+1) cap2) KV4.out
     simpa using heap_setCell_same _ w.heap.size 3 _ _ (.int .i64 ((size:Int)+(32+(xn:Int)+(PD:Int)))) h1)
    have KR5:=Hd ((hk5.block _ (blk_lt KR4.out) (by omega)).trans KR4.out)
    have hb5:Below w.heap.size w4 w5:=by rw [hw5];exact belo
    rw [←hw5]
    clear hSZ hw5 v0 v1' v2 v3 v4 v5 v6 f0 f1 f2 f3 f4 f5 f6
    obtain ⟨v0,v1',v2,v3,v4,v5,v6⟩:=cells7' KV5.out
    obtain ⟨f0,f1,f2,f3,f4,f5,f6⟩:=free7 KR5.out
    obtain ⟨q0,q1,q2,q3,q4,q5,q6⟩:=cells7' KR5.out
    have hlv5:=blk_lt KV5.out
    have hlr5:=blk_lt KR5.out
    go_wp2
    obtain ⟨wf,hwf⟩:∃ wf,wf=set7i w5 (w.heap.size+2) (.int .i64 num) (.int .i64 most) (.int .i64 epoch) (.int .i64 SZ) (.bool shut) (.slice al2 nl2 cl2) (.slice (some ⟨gg,0,none⟩) (dn+1) cap2):=⟨_,rfl⟩
    have hbf:=set7i_below (w:=w5) (B:=w.heap.size) (b:=w.heap.size+2) (by omega) (.int .i64 num) (.int .i64 most) (.int .i64 epoch) (.int .i64 SZ) (.bool shut) (.slice al2 nl2 cl2) (.slice (some ⟨gg,0,none⟩) (dn+1) cap2)
    have kbf:=store7i (KR5.out) (.int .i64 num) (.int .i64 most) (.int .i64 epoch) (.int .i64 SZ) (.bool shut) (.slice al2 nl2 cl2) (.slice (some ⟨gg,0,none⟩) (dn+1) cap2)
    have hkf:=set7i_keeps w5 (w.heap.size+2) (.int .i64 num) (.int .i64 most) (.int .i64 epoch) (.int .i64 SZ) (.bool shut) (.slice al2 nl2 cl2) (.slice (some ⟨gg,0,none⟩) (dn+1) cap2)
    rw [←hwf] at kbf hbf hkf
    have HBF:=Hd (show Below w.heap.size w wf from ((HB2.out.trans (HB4.out.mono hw2z)).trans hb5).trans hbf)
    have HLF:=Hd (show wf.ownsRow w0.heap.size 132 5 (.slice al2 nl2 cl2) nl2 ((ixPut l ⟨key,size,xn,cookie,gone⟩).flatMap psC) from by
     have h1:=ownsRow_below HO2.out HB4.out
     exact ownsRow_keeps (ownsRow_keeps h1 hk5 (fun g e=>by have:=(h1.lt g e).1;omega)) hkf (fun g e=>by have:=(h1.lt g e).1;omega))
    have HDF:=Hd (show wf.ownsRow w2.heap.size 49 4 (.slice (some ⟨gg,0,none⟩) (dn+1) cap2) (dn+1) ((xs ++ [(⟨⟨key,cookie,gone,data⟩,xa,xc⟩:NdE)]).flatMap NdE.cs) from by
     have h1:=HOW4.out
     have h2:=ownsRow_keeps (ownsRow_keeps h1 hk5 (fun g e=>by have:=(h1.lt g e).1;omega)) hkf (fun g e=>by have:=(h1.lt g e).1;omega)
     rw [Nat.zero_add] at h2
     refine ownsRow_cast h2 rfl ?_
     rw [List.flatMap_append,List.flatMap_cons,List.flatMap_nil,List.append_nil,List.nil_append]
     unfold NdE.cs
     rw [HXN.out])
    unfold set7i at hwf
    rw [←hwf]
    clear hk5 hb5 hwf hbf hkf
    obtain ⟨s0,s1,s2,s3,s4,s5,s6⟩:=cells7' kbf
    refine bodyPost_ret (v:=?_) ?_ rfl ?_
    rotate_left;(focus (simp [results,Tryz.results105,go_sem,s0,s1,s2,s3,s4,s5,s6];exact rfl))
    rw [HE.out,←HSZ.out]
    refine ⟨_,rfl,?_,HBF.out⟩
    have hpos:(posOf size ⟨key,cookie,gone,data⟩)=(⟨key,size,xn,cookie,gone⟩:Ps):=by rw [HXN.out];rfl
    refine ⟨al2,cl2,some ⟨gg,0,none⟩,cap2,xs ++ [⟨⟨key,cookie,gone,data⟩,xa,xc⟩],?_,?_⟩
    ·unfold rvV
     simp only [hpos]
     rw [←HNL2.out,List.length_append,←HDN.out]
     rfl
    ·simp only [hpos]
     refine ⟨?_,fun a0 e=>?_,⟨?_,?_,fun a0 e=>?_,fun y hy=>?_⟩,?_⟩
     ·show Reads wf 5 (.slice al2 (ixPut l ⟨key,size,xn,cookie,gone⟩).length cl2) (ixPut l ⟨key,size,xn,cookie,gone⟩).length _
      rw [←HNL2.out]
      exact reads_of_owns HLF.out
     ·have:=HLF.out.lt a0.block (by rw [e];rfl)
      exact ⟨.inr (by omega),this.2⟩
     ·show (xs ++ [_]).length=(dd ++ [_]).length
      rw [List.length_append,List.length_append,HV.out.rd.len]
      rfl
     ·show Reads wf 4 (.slice (some ⟨gg,0,none⟩) (dd ++ [_]).length cap2) (dd ++ [_]).length _
      rw [List.length_append,←HDN.out]
      exact reads_of_owns HDF.out
     ·have:=HDF.out.lt a0.block (by rw [e];rfl)
      exact ⟨.inr (by omega),this.2⟩
     ·have hy2:NdP wf P y:=by
       rcases List.mem_append.1 hy with hy|hy
       ·exact NdP.below (show NdP w P y from HV.out.rd.ins y hy) HBF.out
       ·obtain rfl:y=_:=List.mem_singleton.1 hy
        exact HX.out.below HBF.out
      exact (hy2.wide (Q:=PNew P w) (fun k hk _=>.inl hk))
     ·rw [List.map_append,HV.out.eq]
      rfl
   ·
    refine stepM1S rfl rfl fun K hK=>?_;go_wp2
    refine ⟨by rw [HSD.out];exact (⟨alloc_blk (alloc_blk (w:=w2.drew) KV2.out _) _,alloc_blk (alloc_blk (w:=w2.drew) KX2.out _) _⟩),?_⟩
    refine stepM1S rfl rfl fun K hK=>?_
    (refine wp_append_reads _ _ _ 41 rfl w2.heap.size 49 i0 (.agg #[.int .u64 0,.int .u32 0,.bool false,.slice none 0 0]) 4 40 Tryz.underlying41 HI.out HZ0.out HZ1.out HZ2.out rfl (by decide) (.slice (some ⟨w2.heap.size,0,none⟩) 0 0) 0 [] rfl ((World.ownsRow_lit w2.drew #[] 0 (Nat.le_refl _) (by unfold maxLen;omega) rfl).alloc _) (.slice ad dn cd) dn (xs.flatMap NdE.cs) rfl (HRD2.out.below belo) (NdE.one xs) (by unfold maxLen;omega) (by omega) (by first|omega|(simp;done)|(simp;omega)) ?_;intro v1 w3 hown1 hgrow1 hat1;have hne:∀ j,j≤2→some (w.heap.size+j)≠(Value.slice (some ⟨w2.heap.size,0,none⟩) 0 0).ownBlock:=(fun j hj e=>by simp [Value.ownBlock] at e;omega);have KV3:=Hd ((hgrow1.block (w.heap.size) (by first|omega|(simp;done)|(simp;omega)) (hne 0 (by omega))).trans (alloc_blk (alloc_blk (w:=w2.drew) KV2.out _) _));have KX3:=Hd ((hgrow1.block (w.heap.size+1) (by first|omega|(simp;done)|(simp;omega)) (hne 1 (by omega))).trans (alloc_blk (alloc_blk (w:=w2.drew) KX2.out _) _));have KR3:=Hd ((hgrow1.block (w.heap.size+2) (by first|omega|(simp;done)|(simp;omega)) (hne 2 (by omega))).trans (alloc_blk (alloc_blk (w:=w2.drew) KR2.out _) _));have hz3:=hgrow1.size;simp only [World.size_alloc,World.size_drew] at hz3;have HB3:=Hd (show Below w2.heap.size w2 w3 from Below.grown belo hgrow1 (by first|omega|(simp;done)|(simp;omega)) (fun g e=>by simp [Value.ownBlock] at e;omega));have HOW3:=Hd hown1;have KT3:=Hd (show w3.heap[w2.heap.size+1]? = some (.cells #[.int .u64 key,.int .u32 cookie,.bool gone,.slice xa xn xc] 49 (0,0)) from (hgrow1.block (w2.heap.size+1) (by first|omega|(simp;done)|(simp;omega)) (by simp [Value.ownBlock])).trans (by repeat (first|(with_reducible refine blk_drew ?_)|(with_reducible refine blk_drewN _ ?_)|((with_reducible refine blk_new _ ?_);(focus (simp;done)))|(with_reducible refine blk_alloc ?_ _))));clear hgrow1 hown1 hat1 hne;go_wp2)
    refine ⟨by rw [HSD.out];exact (⟨KV3.out,KX3.out⟩),?_⟩
    refine stepM1 rfl rfl (by kernel_rfl) fun K hK=>?_
    (refine wp_append_lies _ _ _ 41 rfl w2.heap.size 49 i0 (.agg #[.int .u64 0,.int .u32 0,.bool false,.slice none 0 0]) 4 40 Tryz.underlying41 HI.out HZ0.out HZ1.out HZ2.out rfl (by decide) v1 (0+dn) ([] ++ xs.flatMap NdE.cs) rfl (HOW3.out) ⟨w2.heap.size+1,0,none⟩ 1 1 [.int .u64 key,.int .u32 cookie,.bool gone,.slice xa xn xc] rfl rfl (World.news_of_block (cs:=#[.int .u64 key,.int .u32 cookie,.bool gone,.slice xa xn xc]) (t:=49) (fr:=(0,0)) (KT3.out)) (by simp [Value.oneCell']) (by omega) (by unfold maxLen;omega) (by omega) (by first|omega|(simp;done)|(simp;omega)) _ rfl ?_;intro gg cap2 w4 hown2 hgrow2 hat2 hlt2;have hne:∀ j,j≤2→some (w.heap.size+j)≠v1.ownBlock:=(fun j hj e=>by have:=(HOW3.out.lt _ e.symm).1;omega);have KV4:=Hd ((hgrow2.block (w.heap.size) (by first|omega|(simp;done)|(simp;omega)) (hne 0 (by omega))).trans (KV3.out));have KX4:=Hd ((hgrow2.block (w.heap.size+1) (by first|omega|(simp;done)|(simp;omega)) (hne 1 (by omega))).trans (KX3.out));have KR4:=Hd ((hgrow2.block (w.heap.size+2) (by first|omega|(simp;done)|(simp;omega)) (hne 2 (by omega))).trans (KR3.out));have hz4:=hgrow2.size;(try simp only [World.size_alloc] at hz4);have HB4:=Hd (show Below w2.heap.size w2 w4 from Below.grown (HB3.out) hgrow2 (by first|omega|(simp;done)|(simp;omega)) (fun g e=>(HOW3.out.lt _ e).1));have HOW4:=Hd hown2;clear hgrow2 hown2 hat2 hne;obtain ⟨v0,v1',v2,v3,v4,v5,v6⟩:=cells7' KV4.out;obtain ⟨f0,f1,f2,f3,f4,f5,f6⟩:=free7 KV4.out;have hlv4:=blk_lt KV4.out;go_wp2)
    refine stepM0 rfl rfl fun K hK=>?_;go_simp;refine hK _ ?_;clear hK K;refine stepM1 rfl rfl (by kernel_rfl) fun K hK=>?_;go_wp2
    try refine stepMnil0 ?_
    clear HSD SS
    go_upto_region 8 with fail
    obtain ⟨SZ,hSZ⟩:∃ SZ,SZ=size+NS:=⟨_,rfl⟩
    have HSZ:=Hd hSZ
    obtain ⟨w5,hw5⟩:∃ w5:World,w5=(w4.setCell ⟨w.heap.size,6,none⟩ (.slice (some ⟨gg,0,none⟩) (dn+1) cap2)).setCell ⟨w.heap.size,3,none⟩ (.int .i64 ((size:Int)+(32+(xn:Int)+(PD:Int)))):=⟨_,rfl⟩
    have hk5:Keeps (fun k=>k=w.heap.size) w4 w5:=by rw [hw5];exact ((Keeps.refl (fun k=>k=w.heap.size) w4).setCell ⟨w.heap.size,6,none⟩ _ (fun _=>rfl)).setCell ⟨w.heap.size,3,none⟩ _ (fun _=>rfl)
    have KV5:=Hd (show w5.heap[w.heap.size]? = some (.cells #[.int .i64 num,.int .i64 most,.int .i64 epoch,.int .i64 SZ,.bool shut,.slice al2 nl2 cl2,.slice (some ⟨gg,0,none⟩) (dn+1) cap2] 43 (0,0)) by
     rw [hw5,show (SZ:Int)=(size:Int)+(32+(xn:Int)+(PD:Int)) by omega]
     have h1:(w4.setCell ⟨w.heap.size,6,none⟩ (.slice (some ⟨gg,0,none⟩) (dn+1) cap2)).heap[w.heap.size]? = some (.cells #[.int .i64 num,.int .i64 most,.int .i64 epoch,.int .i64 size,.bool shut,.slice al2 nl2 cl2,.slice (some ⟨gg,0,none⟩) (dn+1) cap2] 43 (0,0)):=by simpa using heap_setCell_same w4 w.heap.size 6 _ _ (.slice (some ⟨gg,0,none⟩) (dn+1) cap2) KV4.out
     simpa using heap_setCell_same _ w.heap.size 3 _ _ (.int .i64 ((size:Int)+(32+(xn:Int)+(PD:Int)))) h1)
    have KR5:=Hd ((hk5.block _ (blk_lt KR4.out) (by omega)).trans KR4.out)
    have hb5:Below w.heap.size w4 w5:=by rw [hw5];exact belo
    rw [←hw5]
    clear hSZ hw5 v0 v1' v2 v3 v4 v5 v6 f0 f1 f2 f3 f4 f5 f6
    obtain ⟨v0,v1',v2,v3,v4,v5,v6⟩:=cells7' KV5.out
    obtain ⟨f0,f1,f2,f3,f4,f5,f6⟩:=free7 KR5.out
    obtain ⟨q0,q1,q2,q3,q4,q5,q6⟩:=cells7' KR5.out
    have hlv5:=blk_lt KV5.out
    have hlr5:=blk_lt KR5.out
    go_wp2
    obtain ⟨wf,hwf⟩:∃ wf,wf=set7i w5 (w.heap.size+2) (.int .i64 num) (.int .i64 most) (.int .i64 epoch) (.int .i64 SZ) (.bool shut) (.slice al2 nl2 cl2) (.slice (some ⟨gg,0,none⟩) (dn+1) cap2):=⟨_,rfl⟩
    have hbf:=set7i_below (w:=w5) (B:=w.heap.size) (b:=w.heap.size+2) (by omega) (.int .i64 num) (.int .i64 most) (.int .i64 epoch) (.int .i64 SZ) (.bool shut) (.slice al2 nl2 cl2) (.slice (some ⟨gg,0,none⟩) (dn+1) cap2)
    have kbf:=store7i (KR5.out) (.int .i64 num) (.int .i64 most) (.int .i64 epoch) (.int .i64 SZ) (.bool shut) (.slice al2 nl2 cl2) (.slice (some ⟨gg,0,none⟩) (dn+1) cap2)
    have hkf:=set7i_keeps w5 (w.heap.size+2) (.int .i64 num) (.int .i64 most) (.int .i64 epoch) (.int .i64 SZ) (.bool shut) (.slice al2 nl2 cl2) (.slice (some ⟨gg,0,none⟩) (dn+1) cap2)
    rw [←hwf] at kbf hbf hkf
    have HBF:=Hd (show Below w.heap.size w wf from ((HB2.out.trans (HB4.out.mono hw2z)).trans hb5).trans hbf)
    have HLF:=Hd (show wf.ownsRow w0.heap.size 132 5 (.slice al2 nl2 cl2) nl2 ((ixPut l ⟨key,size,xn,cookie,gone⟩).flatMap psC) from by
     have h1:=ownsRow_below HO2.out HB4.out
     exact ownsRow_keeps (ownsRow_keeps h1 hk5 (fun g e=>by have:=(h1.lt g e).1;omega)) hkf (fun g e=>by have:=(h1.lt g e).1;omega))
    have HDF:=Hd (show wf.ownsRow w2.heap.size 49 4 (.slice (some ⟨gg,0,none⟩) (dn+1) cap2) (dn+1) ((xs ++ [(⟨⟨key,cookie,gone,data⟩,xa,xc⟩:NdE)]).flatMap NdE.cs) from by
     have h1:=HOW4.out
     have h2:=ownsRow_keeps (ownsRow_keeps h1 hk5 (fun g e=>by have:=(h1.lt g e).1;omega)) hkf (fun g e=>by have:=(h1.lt g e).1;omega)
     rw [Nat.zero_add] at h2
     refine ownsRow_cast h2 rfl ?_
     rw [List.flatMap_append,List.flatMap_cons,List.flatMap_nil,List.append_nil,List.nil_append]
     unfold NdE.cs
     rw [HXN.out])
    unfold set7i at hwf
    rw [←hwf]
    clear hk5 hb5 hwf hbf hkf
    obtain ⟨s0,s1,s2,s3,s4,s5,s6⟩:=cells7' kbf
    refine bodyPost_ret (v:=?_) ?_ rfl ?_
    rotate_left;(focus (simp [results,Tryz.results105,go_sem,s0,s1,s2,s3,s4,s5,s6];exact rfl))
    rw [HE.out,←HSZ.out]
    refine ⟨_,rfl,?_,HBF.out⟩
    have hpos:(posOf size ⟨key,cookie,gone,data⟩)=(⟨key,size,xn,cookie,gone⟩:Ps):=by rw [HXN.out];rfl
    refine ⟨al2,cl2,some ⟨gg,0,none⟩,cap2,xs ++ [⟨⟨key,cookie,gone,data⟩,xa,xc⟩],?_,?_⟩
    ·unfold rvV
     simp only [hpos]
     rw [←HNL2.out,List.length_append,←HDN.out]
     rfl
    ·simp only [hpos]
     refine ⟨?_,fun a0 e=>?_,⟨?_,?_,fun a0 e=>?_,fun y hy=>?_⟩,?_⟩
     ·show Reads wf 5 (.slice al2 (ixPut l ⟨key,size,xn,cookie,gone⟩).length cl2) (ixPut l ⟨key,size,xn,cookie,gone⟩).length _
      rw [←HNL2.out]
      exact reads_of_owns HLF.out
     ·have:=HLF.out.lt a0.block (by rw [e];rfl)
      exact ⟨.inr (by omega),this.2⟩
     ·show (xs ++ [_]).length=(dd ++ [_]).length
      rw [List.length_append,List.length_append,HV.out.rd.len]
      rfl
     ·show Reads wf 4 (.slice (some ⟨gg,0,none⟩) (dd ++ [_]).length cap2) (dd ++ [_]).length _
      rw [List.length_append,←HDN.out]
      exact reads_of_owns HDF.out
     ·have:=HDF.out.lt a0.block (by rw [e];rfl)
      exact ⟨.inr (by omega),this.2⟩
     ·have hy2:NdP wf P y:=by
       rcases List.mem_append.1 hy with hy|hy
       ·exact NdP.below (show NdP w P y from HV.out.rd.ins y hy) HBF.out
       ·obtain rfl:y=_:=List.mem_singleton.1 hy
        exact HX.out.below HBF.out
      exact (hy2.wide (Q:=PNew P w) (fun k hk _=>.inl hk))
     ·rw [List.map_append,HV.out.eq]
      rfl
  ·
   refine stepM1S rfl rfl fun K hK=>?_;go_wp2
   refine ⟨by rw [HSD.out];exact (⟨alloc_blk (w:=w2.drew) KV2.out _,alloc_blk (w:=w2.drew) KX2.out _⟩),?_⟩
   refine stepM1S rfl rfl fun K hK=>?_;go_wp2
   refine ⟨by rw [HSD.out];exact (⟨alloc_blk (alloc_blk (w:=w2.drew) KV2.out _) _,alloc_blk (alloc_blk (w:=w2.drew) KX2.out _) _⟩),?_⟩
   refine stepM1S rfl rfl fun K hK=>?_
   (refine wp_append_reads _ _ _ 41 rfl w2.heap.size 49 i0 (.agg #[.int .u64 0,.int .u32 0,.bool false,.slice none 0 0]) 4 40 Tryz.underlying41 HI.out HZ0.out HZ1.out HZ2.out rfl (by decide) (.slice (some ⟨w2.heap.size+1,0,none⟩) 0 0) 0 [] rfl (own03 (by repeat (first|(with_reducible refine blk_drew ?_)|(with_reducible refine blk_drewN _ ?_)|((with_reducible refine blk_new _ ?_);(focus (simp;done)))|(with_reducible refine blk_alloc ?_ _))) (by omega)) (.slice ad dn cd) dn (xs.flatMap NdE.cs) rfl (HRD2.out.below belo) (NdE.one xs) (by unfold maxLen;omega) (by omega) (by first|omega|(simp;done)|(simp;omega)) ?_;intro v1 w3 hown1 hgrow1 hat1;have hne:∀ j,j≤2→some (w.heap.size+j)≠(Value.slice (some ⟨w2.heap.size+1,0,none⟩) 0 0).ownBlock:=(fun j hj e=>by simp [Value.ownBlock] at e;omega);have KV3:=Hd ((hgrow1.block (w.heap.size) (by first|omega|(simp;done)|(simp;omega)) (hne 0 (by omega))).trans (alloc_blk (alloc_blk (w:=w2.drew) KV2.out _) _));have KX3:=Hd ((hgrow1.block (w.heap.size+1) (by first|omega|(simp;done)|(simp;omega)) (hne 1 (by omega))).trans (alloc_blk (alloc_blk (w:=w2.drew) KX2.out _) _));have KR3:=Hd ((hgrow1.block (w.heap.size+2) (by first|omega|(simp;done)|(simp;omega)) (hne 2 (by omega))).trans (alloc_blk (alloc_blk (w:=w2.drew) KR2.out _) _));have hz3:=hgrow1.size;simp only [World.size_alloc,World.size_drew] at hz3;have HB3:=Hd (show Below w2.heap.size w2 w3 from Below.grown belo hgrow1 (by first|omega|(simp;done)|(simp;omega)) (fun g e=>by simp [Value.ownBlock] at e;omega));have HOW3:=Hd hown1;have KT3:=Hd (show w3.heap[w2.heap.size]? = some (.cells #[.int .u64 key,.int .u32 cookie,.bool gone,.slice xa xn xc] 49 (0,0)) from (hgrow1.block (w2.heap.size) (by first|omega|(simp;done)|(simp;omega)) (by simp [Value.ownBlock])).trans (by repeat (first|(with_reducible refine blk_drew ?_)|(with_reducible refine blk_drewN _ ?_)|((with_reducible refine blk_new _ ?_);(focus (simp;done)))|(with_reducible refine blk_alloc ?_ _))));clear hgrow1 hown1 hat1 hne;go_wp2)
   refine ⟨by rw [HSD.out];exact (⟨KV3.out,KX3.out⟩),?_⟩
   refine stepM1 rfl rfl (by kernel_rfl) fun K hK=>?_
   (refine wp_append_lies _ _ _ 41 rfl w2.heap.size 49 i0 (.agg #[.int .u64 0,.int .u32 0,.bool false,.slice none 0 0]) 4 40 Tryz.underlying41 HI.out HZ0.out HZ1.out HZ2.out rfl (by decide) v1 (0+dn) ([] ++ xs.flatMap NdE.cs) rfl (HOW3.out) ⟨w2.heap.size,0,none⟩ 1 1 [.int .u64 key,.int .u32 cookie,.bool gone,.slice xa xn xc] rfl rfl (World.news_of_block (cs:=#[.int .u64 key,.int .u32 cookie,.bool gone,.slice xa xn xc]) (t:=49) (fr:=(0,0)) (KT3.out)) (by simp [Value.oneCell']) (by omega) (by unfold maxLen;omega) (by omega) (by first|omega|(simp;done)|(simp;omega)) _ rfl ?_;intro gg cap2 w4 hown2 hgrow2 hat2 hlt2;have hne:∀ j,j≤2→some (w.heap.size+j)≠v1.ownBlock:=(fun j hj e=>by have:=(HOW3.out.lt _ e.symm).1;omega);have KV4:=Hd ((hgrow2.block (w.heap.size) (by first|omega|(simp;done)|(simp;omega)) (hne 0 (by omega))).trans (KV3.out));have KX4:=Hd ((hgrow2.block (w.heap.size+1) (by first|omega|(simp;done)|(simp;omega)) (hne 1 (by omega))).trans (KX3.out));have KR4:=Hd ((hgrow2.block (w.heap.size+2) (by first|omega|(simp;done)|(simp;omega)) (hne 2 (by omega))).trans (KR3.out));have hz4:=hgrow2.size;(try simp only [World.size_alloc] at hz4);have HB4:=Hd (show Below w2.heap.size w2 w4 from Below.grown (HB3.out) hgrow2 (by first|omega|(simp;done)|(simp;omega)) (fun g e=>(HOW3.out.lt _ e).1));have HOW4:=Hd hown2;clear hgrow2 hown2 hat2 hne;obtain ⟨v0,v1',v2,v3,v4,v5,v6⟩:=cells7' KV4.out;obtain ⟨f0,f1,f2,f3,f4,f5,f6⟩:=free7 KV4.out;have hlv4:=blk_lt KV4.out;go_wp2)
   refine stepM0 rfl rfl fun K hK=>?_;go_simp;refine hK _ ?_;clear hK K;refine stepM1 rfl rfl (by kernel_rfl) fun K hK=>?_;go_wp2
   try refine stepMnil0 ?_
   clear HSD SS
   go_upto_region 8 with fail
   obtain ⟨SZ,hSZ⟩:∃ SZ,SZ=size+NS:=⟨_,rfl⟩
   have HSZ:=Hd hSZ
   obtain ⟨w5,hw5⟩:∃ w5:World,w5=(w4.setCell ⟨w.heap.size,6,none⟩ (.slice (some ⟨gg,0,none⟩) (dn+1) cap2)).setCell ⟨w.heap.size,3,none⟩ (.int .i64 ((size:Int)+(32+(xn:Int)+(PD:Int)))):=⟨_,rfl⟩
   have hk5:Keeps (fun k=>k=w.heap.size) w4 w5:=by rw [hw5];exact ((Keeps.refl (fun k=>k=w.heap.size) w4).setCell ⟨w.heap.size,6,none⟩ _ (fun _=>rfl)).setCell ⟨w.heap.size,3,none⟩ _ (fun _=>rfl)
   have KV5:=Hd (show w5.heap[w.heap.size]? = some (.cells #[.int .i64 num,.int .i64 most,.int .i64 epoch,.int .i64 SZ,.bool shut,.slice al2 nl2 cl2,.slice (some ⟨gg,0,none⟩) (dn+1) cap2] 43 (0,0)) by
    rw [hw5,show (SZ:Int)=(size:Int)+(32+(xn:Int)+(PD:Int)) by omega]
    have h1:(w4.setCell ⟨w.heap.size,6,none⟩ (.slice (some ⟨gg,0,none⟩) (dn+1) cap2)).heap[w.heap.size]? = some (.cells #[.int .i64 num,.int .i64 most,.int .i64 epoch,.int .i64 size,.bool shut,.slice al2 nl2 cl2,.slice (some ⟨gg,0,none⟩) (dn+1) cap2] 43 (0,0)):=by simpa using heap_setCell_same w4 w.heap.size 6 _ _ (.slice (some ⟨gg,0,none⟩) (dn+1) cap2) KV4.out
    simpa using heap_setCell_same _ w.heap.size 3 _ _ (.int .i64 ((size:Int)+(32+(xn:Int)+(PD:Int)))) h1)
   have KR5:=Hd ((hk5.block _ (blk_lt KR4.out) (by omega)).trans KR4.out)
   have hb5:Below w.heap.size w4 w5:=by rw [hw5];exact belo
   rw [←hw5]
   clear hSZ hw5 v0 v1' v2 v3 v4 v5 v6 f0 f1 f2 f3 f4 f5 f6
   obtain ⟨v0,v1',v2,v3,v4,v5,v6⟩:=cells7' KV5.out
   obtain ⟨f0,f1,f2,f3,f4,f5,f6⟩:=free7 KR5.out
   obtain ⟨q0,q1,q2,q3,q4,q5,q6⟩:=cells7' KR5.out
   have hlv5:=blk_lt KV5.out
   have hlr5:=blk_lt KR5.out
   go_wp2
   obtain ⟨wf,hwf⟩:∃ wf,wf=set7i w5 (w.heap.size+2) (.int .i64 num) (.int .i64 most) (.int .i64 epoch) (.int .i64 SZ) (.bool shut) (.slice al2 nl2 cl2) (.slice (some ⟨gg,0,none⟩) (dn+1) cap2):=⟨_,rfl⟩
   have hbf:=set7i_below (w:=w5) (B:=w.heap.size) (b:=w.heap.size+2) (by omega) (.int .i64 num) (.int .i64 most) (.int .i64 epoch) (.int .i64 SZ) (.bool shut) (.slice al2 nl2 cl2) (.slice (some ⟨gg,0,none⟩) (dn+1) cap2)
   have kbf:=store7i (KR5.out) (.int .i64 num) (.int .i64 most) (.int .i64 epoch) (.int .i64 SZ) (.bool shut) (.slice al2 nl2 cl2) (.slice (some ⟨gg,0,none⟩) (dn+1) cap2)
   have hkf:=set7i_keeps w5 (w.heap.size+2) (.int .i64 num) (.int .i64 most) (.int .i64 epoch) (.int .i64 SZ) (.bool shut) (.slice al2 nl2 cl2) (.slice (some ⟨gg,0,none⟩) (dn+1) cap2)
   rw [←hwf] at kbf hbf hkf
   have HBF:=Hd (show Below w.heap.size w wf from ((HB2.out.trans (HB4.out.mono hw2z)).trans hb5).trans hbf)
   have HLF:=Hd (show wf.ownsRow w0.heap.size 132 5 (.slice al2 nl2 cl2) nl2 ((ixPut l ⟨key,size,xn,cookie,gone⟩).flatMap psC) from by
    have h1:=ownsRow_below HO2.out HB4.out
    exact ownsRow_keeps (ownsRow_keeps h1 hk5 (fun g e=>by have:=(h1.lt g e).1;omega)) hkf (fun g e=>by have:=(h1.lt g e).1;omega))
   have HDF:=Hd (show wf.ownsRow w2.heap.size 49 4 (.slice (some ⟨gg,0,none⟩) (dn+1) cap2) (dn+1) ((xs ++ [(⟨⟨key,cookie,gone,data⟩,xa,xc⟩:NdE)]).flatMap NdE.cs) from by
    have h1:=HOW4.out
    have h2:=ownsRow_keeps (ownsRow_keeps h1 hk5 (fun g e=>by have:=(h1.lt g e).1;omega)) hkf (fun g e=>by have:=(h1.lt g e).1;omega)
    rw [Nat.zero_add] at h2
    refine ownsRow_cast h2 rfl ?_
    rw [List.flatMap_append,List.flatMap_cons,List.flatMap_nil,List.append_nil,List.nil_append]
    unfold NdE.cs
    rw [HXN.out])
   unfold set7i at hwf
   rw [←hwf]
   clear hk5 hb5 hwf hbf hkf
   obtain ⟨s0,s1,s2,s3,s4,s5,s6⟩:=cells7' kbf
   refine bodyPost_ret (v:=?_) ?_ rfl ?_
   rotate_left;(focus (simp [results,Tryz.results105,go_sem,s0,s1,s2,s3,s4,s5,s6];exact rfl))
   rw [HE.out,←HSZ.out]
   refine ⟨_,rfl,?_,HBF.out⟩
   have hpos:(posOf size ⟨key,cookie,gone,data⟩)=(⟨key,size,xn,cookie,gone⟩:Ps):=by rw [HXN.out];rfl
   refine ⟨al2,cl2,some ⟨gg,0,none⟩,cap2,xs ++ [⟨⟨key,cookie,gone,data⟩,xa,xc⟩],?_,?_⟩
   ·unfold rvV
    simp only [hpos]
    rw [←HNL2.out,List.length_append,←HDN.out]
    rfl
   ·simp only [hpos]
    refine ⟨?_,fun a0 e=>?_,⟨?_,?_,fun a0 e=>?_,fun y hy=>?_⟩,?_⟩
    ·show Reads wf 5 (.slice al2 (ixPut l ⟨key,size,xn,cookie,gone⟩).length cl2) (ixPut l ⟨key,size,xn,cookie,gone⟩).length _
     rw [←HNL2.out]
     exact reads_of_owns HLF.out
    ·have:=HLF.out.lt a0.block (by rw [e];rfl)
     exact ⟨.inr (by omega),this.2⟩
    ·show (xs ++ [_]).length=(dd ++ [_]).length
     rw [List.length_append,List.length_append,HV.out.rd.len]
     rfl
    ·show Reads wf 4 (.slice (some ⟨gg,0,none⟩) (dd ++ [_]).length cap2) (dd ++ [_]).length _
     rw [List.length_append,←HDN.out]
     exact reads_of_owns HDF.out
    ·have:=HDF.out.lt a0.block (by rw [e];rfl)
     exact ⟨.inr (by omega),this.2⟩
    ·have hy2:NdP wf P y:=by
      rcases List.mem_append.1 hy with hy|hy
      ·exact NdP.below (show NdP w P y from HV.out.rd.ins y hy) HBF.out
      ·obtain rfl:y=_:=List.mem_singleton.1 hy
       exact HX.out.below HBF.out
     exact (hy2.wide (Q:=PNew P w) (fun k hk _=>.inl hk))
    ·rw [List.map_append,HV.out.eq]
     rfl
theorem rlook_any(P:Nat→Prop)(v:Rv)(al:Option Addr)(cl:Nat)(ad:Option Addr)(cd:Nat)(xs:List NdE)(key cookie:Nat)(w:World)(h:RvAt w P v al cl ad cd xs) :
  Calls Tryz.prog 54 #[rvV v al cl ad cd,.int .u64 key,.int .u32 cookie] w fun e w'=>e=.returned (.int .i64 (v.look key cookie))∧Below w.heap.size w w':=by
 have HNW:=Hd (fun (w0:World) (hb:Below w.heap.size w w0)=>rnewest_any v.num v.most v.epoch v.size v.shut (.slice al v.l.length cl) ad v.d.length cd xs key w0 h.rd.len (h.rd.row.below hb) ⟨_,_,_,rfl⟩)
 have HEQ:=Hd h.eq
 have HLK:=Hd (show v.look key cookie=match lastOf v.d key with|none=>6|some n=>if n.gone=true then 7 else if n.cookie≠cookie then 9 else 0 from rfl)
 obtain ⟨R,hR⟩:∃ R,R=v.look key cookie:=⟨_,rfl⟩
 rw [←hR] at HLK ⊢
 rw [←h.eq] at HLK
 obtain ⟨num,most,epoch,size,shut,l,dd⟩:=v
 unfold rvV
 simp only at HNW ⊢
 obtain ⟨ln,hln⟩:∃ ln,ln=l.length:=⟨_,rfl⟩
 obtain ⟨dn,hdn⟩:∃ dn,dn=dd.length:=⟨_,rfl⟩
 rw [←hln,←hdn] at HNW ⊢
 clear h hR hln hdn HEQ
 go_enter Tryz.func54,Tryz.ntmps54
 go_wp2_with fail
 obtain ⟨w0,hw0⟩:∃ w0:World,w0=w.alloc (.cells #[.int .i64 num,.int .i64 most,.int .i64 epoch,.int .i64 size,.bool shut,.slice al ln cl,.slice ad dn cd] 43):=⟨_,rfl⟩
 have HB0:=Hd (show Below w.heap.size w w0 by rw [hw0];exact belo)
 rw [←hw0]
 clear hw0
 have hz0:=HB0.out.size
 refine (HNW.out w0 HB0.out).mono ?_
 rintro e w1 ⟨r,rfl,hr,hrm,hb⟩
 have HB1:=Hd (HB0.out.trans (hb.mono hz0))
 have hz1:=HB1.out.size
 clear hb hrm
 cases r with
 | none=>
  have HE:=Hd (show R=6 by rw [HLK.out,←hr];rfl)
  clear hr
  unfold ndOV
  simp only [Option.isSome_none]
  go_wp2_with fail
  go_ret
  exact ⟨by rw [HE.out];rfl,HB1.out.alloc hz1 _⟩
 | some x=>
  obtain ⟨⟨xk,xc,xg,xd⟩,xa,xcp⟩:=x
  have HE:=Hd (show R=if xg=true then 7 else if xc≠cookie then 9 else 0 by rw [HLK.out,←hr];rfl)
  clear hr
  unfold ndOV NdE.cs
  simp only [Option.isSome_some]
  cases xg with
  | true=>
   go_wp2_with fail
   go_ret
   exact ⟨by rw [HE.out];rfl,HB1.out.alloc hz1 _⟩
  | false=>
   by_cases hc:xc=cookie
   ·have e1:((xc:Int) != (cookie:Int))=false:=by simp;omega
    have HC:=Hd hc
    clear hc
    go_wp2_with fail
    go_ret
    exact ⟨by rw [HE.out,if_neg (by simp),if_neg (by simp [HC.out])];rfl,HB1.out.alloc hz1 _⟩
   ·have e1:((xc:Int) != (cookie:Int))=true:=by simp;omega
    have HC:=Hd hc
    clear hc
    go_wp2_with fail
    go_ret
    exact ⟨by rw [HE.out,if_neg (by simp),if_pos HC.out];rfl,HB1.out.alloc hz1 _⟩
theorem RvAt.out'{w w':World}{P:Nat→Prop}{v:Rv}{al ad:Option Addr}{cl cd:Nat}{xs:List NdE}(h:RvAt w P v al cl ad cd xs)(hb:Below w.heap.size w w'):RvIn w' (PNew P w) (rvV v al cl ad cd) v:=
 RvIn.wide (P:=P) ⟨al,cl,ad,cd,xs,rfl,h.kp (KP.of hb)⟩ (fun _ hk _=>.inl hk)
theorem rset_any(P:Nat→Prop)(v:Rv)(al:Option Addr)(cl:Nat)(ad:Option Addr)(cd:Nat)(xs:List NdE)(e:Int)(s:Bool)(w:World)(h:RvAt w P v al cl ad cd xs) :
  Calls Tryz.prog 56 #[rvV v al cl ad cd,.int .i64 e,.bool s] w (RWTo w P (v.set e s)):=by
 have HV:=Hd h
 have HSE:=Hd (show v.set e s=if e<0∨2147483647<e then (1,v) else if e<v.epoch then (13,v) else (0,{ v with epoch:=e.toNat,shut:=s }) from rfl)
 obtain ⟨R,hR⟩:∃ R,R=v.set e s:=⟨_,rfl⟩
 rw [←hR] at HSE ⊢
 have HO:=Hd (fun (w':World) (hb:Below w.heap.size w w')=>h.out' hb)
 have HO2:=Hd (show ∀ (w':World) (hb:Below w.heap.size w w') (n:Nat),RvIn w' (PNew P w) (rvV { v with epoch:=n,shut:=s } al cl ad cd) { v with epoch:=n,shut:=s } from fun w' hb n=>(show RvAt w P { v with epoch:=n,shut:=s } al cl ad cd xs from ⟨h.rl,h.bl,h.rd,h.eq⟩).out' hb)
 obtain ⟨num,most,epoch,size,shut,l,dd⟩:=v
 unfold rvV at HO HO2 ⊢
 simp only at HO HO2 HSE ⊢
 obtain ⟨ln,hln⟩:∃ ln,ln=l.length:=⟨_,rfl⟩
 obtain ⟨dn,hdn⟩:∃ dn,dn=dd.length:=⟨_,rfl⟩
 rw [←hln,←hdn] at HO HO2 ⊢
 clear h hR hln hdn
 by_cases h0:e<0
 ·have d0:decide (e<0)=true:=by simpa using h0
  have HE:=Hd (HSE.out.trans (if_pos (.inl h0)))
  go_enter Tryz.func56,Tryz.ntmps56
  go_wp2
  refine bodyPost_ret (v:=?_) ?_ rfl ?_
  rotate_left;(focus (simp [results,Tryz.results56,go_sem];exact rfl))
  rw [HE.out]
  exact ⟨_,rfl,HO.out _ belo,belo⟩
 have d0:decide (e<0)=false:=by simpa using h0
 by_cases h1:2147483647<e
 ·have d1:decide (2147483647<e)=true:=by simpa using h1
  have HE:=Hd (HSE.out.trans (if_pos (.inr h1)))
  go_enter Tryz.func56,Tryz.ntmps56
  go_wp2
  refine bodyPost_ret (v:=?_) ?_ rfl ?_
  rotate_left;(focus (simp [results,Tryz.results56,go_sem];exact rfl))
  rw [HE.out]
  exact ⟨_,rfl,HO.out _ belo,belo⟩
 have d1:decide (2147483647<e)=false:=by simpa using h1
 by_cases h2:e<(epoch:Int)
 ·have d2:decide (e<(epoch:Int))=true:=by simpa using h2
  have HE:=Hd ((HSE.out.trans (if_neg (by omega))).trans (if_pos h2))
  go_enter Tryz.func56,Tryz.ntmps56
  go_wp2
  refine bodyPost_ret (v:=?_) ?_ rfl ?_
  rotate_left;(focus (simp [results,Tryz.results56,go_sem];exact rfl))
  rw [HE.out]
  exact ⟨_,rfl,HO.out _ belo,belo⟩
 have d2:decide (e<(epoch:Int))=false:=by simpa using h2
 have HE:=Hd ((HSE.out.trans (if_neg (by omega))).trans (if_neg h2))
 obtain ⟨n,hn⟩:∃ n:Nat,e=n:=⟨e.toNat,by omega⟩
 subst hn
 rw [show ((n:Int)).toNat=n from rfl] at HE
 go_enter Tryz.func56,Tryz.ntmps56
 go_wp2
 refine bodyPost_ret (v:=?_) ?_ rfl ?_
 rotate_left;(focus (simp [results,Tryz.results56,go_sem];exact rfl))
 rw [HE.out]
 exact ⟨_,rfl,HO2.out _ belo n,belo⟩
def POld (P:Nat→Prop) (w:World) (k:Nat):Prop:=P k∧k<w.heap.size
theorem RvAt.wide{P Q:Nat→Prop}{w:World}{v:Rv}{al ad:Option Addr}{cl cd:Nat}{xs:List NdE}(h:RvAt w P v al cl ad cd xs)(hq:∀ k,P k→k<w.heap.size→Q k):RvAt w Q v al cl ad cd xs:=
 ⟨h.rl,fun a ea=>⟨hq _ (h.bl a ea).1 (h.bl a ea).2,(h.bl a ea).2⟩,h.rd.wide hq,h.eq⟩
theorem RvAt.old{P:Nat→Prop}{w w0:World}{v:Rv}{al ad:Option Addr}{cl cd:Nat}{xs:List NdE}(h:RvAt w P v al cl ad cd xs)(hb:Below w.heap.size w w0):RvAt w0 (POld P w) v al cl ad cd xs:=
 (h.wide (Q:=POld P w) (fun _ hk hs=>⟨hk,hs⟩)).kp (KP.of hb)
theorem RvIn.ret{P:Nat→Prop}{w w0 w1 wf:World}{val:Value}{v:Rv}{R:Nat}(h:RvIn w1 (PNew (POld P w) w0) val v)(hR:w.heap.size≤R)(hR0:R<w0.heap.size)(hk:Keeps (fun k=>k=R) w1 wf):RvIn wf (PNew P w) val v:=by
 have hkp:KP (PNew (POld P w) w0) w1 wf:=Keeps.mono hk (fun k _ e f=>by
  rcases f with ⟨_,f⟩|f <;> omega)
 refine (h.kp hkp).wide (fun k hq _=>?_)
 rcases hq with ⟨f,_⟩|f
 ·exact .inl f
 ·exact .inr (by omega)
theorem rdel_any(P:Nat→Prop)(v:Rv)(al:Option Addr)(cl:Nat)(ad:Option Addr)(cd:Nat)(xs:List NdE)(key cookie:Nat)(w:World)(h:RvAt w P v al cl ad cd xs)(hkey:key<18446744073709551616)(hck:cookie<4294967296)(hs:IxS v.l)(hz:v.size≤1000000000)(hm:v.most≤1000000000)(hf:v.l.length≤4096)(hdn:v.d.length≤1000000) :
  Calls Tryz.prog 53 #[rvV v al cl ad cd,.int .u64 key,.int .u32 cookie] w (RWTo w P (v.del key cookie)):=by
 have HLK:=Hd (fun (w0:World) (hb:Below w.heap.size w w0)=>rlook_any P v al cl ad cd xs key cookie w0 (h.kp (KP.of hb)))
 have HWR:=Hd (fun (w0:World) (hb:Below w.heap.size w w0)=>rwrite_any (POld P w) v al cl ad cd xs ⟨⟨key,cookie,true,[]⟩,none,0⟩ w0 (h.old hb) ⟨⟨hkey,hck,reads_none _ _⟩,fun ad e=>by cases e⟩ hs (by simp) hz hm hf hdn)
 have HO:=Hd (fun (w':World) (hb:Below w.heap.size w w')=>h.out' hb)
 have HSE:=Hd (show v.del key cookie=if v.look key cookie≠0 then (v.look key cookie,v) else if v.shut=true then (10,v) else v.write ⟨key,cookie,true,[]⟩ from rfl)
 obtain ⟨R,hR⟩:∃ R,R=v.del key cookie:=⟨_,rfl⟩
 rw [←hR] at HSE ⊢
 obtain ⟨K,hK⟩:∃ K,K=v.look key cookie:=⟨_,rfl⟩
 rw [←hK] at HSE HLK
 obtain ⟨WR,hWR⟩:∃ WR,WR=v.write ⟨key,cookie,true,[]⟩:=⟨_,rfl⟩
 unfold NdE.cs at HWR
 simp only at HWR
 rw [←hWR] at HSE HWR
 obtain ⟨num,most,epoch,size,shut,l,dd⟩:=v
 unfold rvV at HLK HWR HO ⊢
 simp only at HLK HWR HO HSE ⊢
 obtain ⟨ln,hln⟩:∃ ln,ln=l.length:=⟨_,rfl⟩
 obtain ⟨dn,hdn⟩:∃ dn,dn=dd.length:=⟨_,rfl⟩
 rw [←hln,←hdn] at HLK HWR HO ⊢
 clear h hR hK hWR hln hdn
 go_enter Tryz.func53,Tryz.ntmps53
 go_upto_region 1 with fail
 obtain ⟨w0,hw0⟩:∃ w0:World,w0=(w.alloc (.cells #[.int .i64 num,.int .i64 most,.int .i64 epoch,.int .i64 size,.bool shut,.slice al ln cl,.slice ad dn cd] 43)).alloc (.cells #[.int .i64 0,.int .i64 0,.int .i64 0,.int .i64 0,.bool false,.slice none 0 0,.slice none 0 0] 43):=⟨_,rfl⟩
 have HB0:=Hd (show Below w.heap.size w w0 by rw [hw0];exact belo)
 have KV0:=Hd (show w0.heap[w.heap.size]? = some (.cells #[.int .i64 num,.int .i64 most,.int .i64 epoch,.int .i64 size,.bool shut,.slice al ln cl,.slice ad dn cd] 43 (0,0)) by rw [hw0];exact blk_alloc (heap_new w _) _)
 have KR0:=Hd (show w0.heap[w.heap.size+1]? = some (.cells #[.int .i64 0,.int .i64 0,.int .i64 0,.int .i64 0,.bool false,.slice none 0 0,.slice none 0 0] 43 (0,0)) by rw [hw0];exact blk_new _ (by simp))
 rw [←hw0]
 clear hw0
 have hz0:=HB0.out.size
 obtain ⟨v0,v1,v2,v3,v4,v5,v6⟩:=cells7' KV0.out
 go_wp2_with fail
 refine (HLK.out w0 HB0.out).mono ?_
 rintro e w1 ⟨rfl,hb⟩
 have KV1:=Hd (blk_below' KV0.out hb)
 have KR1:=Hd (blk_below' KR0.out hb)
 have HB1:=Hd (HB0.out.trans (hb.mono hz0))
 have hz1:=hb.size
 clear hb v0 v1 v2 v3 v4 v5 v6
 obtain ⟨v0,v1,v2,v3,v4,v5,v6⟩:=cells7' KV1.out
 obtain ⟨g0,g1,g2,g3,g4,g5,g6⟩:=free7 KR1.out
 obtain ⟨r0,r1,r2,r3,r4,r5,r6⟩:=cells7' KR1.out
 have hl1:=blk_lt KR1.out
 by_cases hk0:K=0
 ·have e1:((K:Int) != 0)=false:=by simp;omega
  cases shut with
  | true=>
   have HE:=Hd ((HSE.out.trans (if_neg (by omega))).trans (if_pos rfl))
   clear hk0
   go_wp2_with fail
   obtain ⟨wx,hwx⟩:∃ wx,wx=set7i w1 (w.heap.size+1) (.int .i64 num) (.int .i64 most) (.int .i64 epoch) (.int .i64 size) (.bool true) (.slice al ln cl) (.slice ad dn cd):=⟨_,rfl⟩
   have HBX:=Hd (show Below w.heap.size w wx by rw [hwx];exact HB1.out.trans (set7i_below (by omega) _ _ _ _ _ _ _))
   have kbx:=store7i (KR1.out) (.int .i64 num) (.int .i64 most) (.int .i64 epoch) (.int .i64 size) (.bool true) (.slice al ln cl) (.slice ad dn cd)
   rw [←hwx] at kbx
   unfold set7i at hwx
   rw [←hwx]
   clear hwx
   obtain ⟨s0,s1,s2,s3,s4,s5,s6⟩:=cells7' kbx
   refine bodyPost_ret (v:=?_) ?_ rfl ?_
   rotate_left;(focus (simp [results,Tryz.results53,go_sem,s0,s1,s2,s3,s4,s5,s6];exact rfl))
   rw [HE.out]
   exact ⟨_,rfl,HO.out _ HBX.out,HBX.out⟩
  | false=>
   have HE:=Hd ((HSE.out.trans (if_neg (by omega))).trans (if_neg (by simp)))
   clear hk0
   go_wp2_with fail
   refine (HWR.out w1 HB1.out).mono ?_
   rintro e w2 ⟨val,rfl,hin,hb⟩
   obtain ⟨N2,W2⟩:=WR
   have hin0:=hin
   obtain ⟨al2,cl2,ad2,cd2,xs2,rfl,-⟩:=hin0
   have HIN:=Hd hin
   clear hin
   obtain ⟨num2,most2,epoch2,size2,shut2,l2,dd2⟩:=W2
   unfold rvV at HIN ⊢
   simp only at HIN ⊢
   have KR2:=Hd (blk_below' KR1.out hb)
   have HB2:=Hd (HB1.out.trans (hb.mono (by omega)))
   obtain ⟨ln2,hln2⟩:∃ ln2,ln2=l2.length:=⟨_,rfl⟩
   obtain ⟨dn2,hdn2⟩:∃ dn2,dn2=dd2.length:=⟨_,rfl⟩
   rw [←hln2,←hdn2] at HIN ⊢
   have hz2:=hb.size
   clear hb hln2 hdn2 v0 v1 v2 v3 v4 v5 v6 g0 g1 g2 g3 g4 g5 g6 r0 r1 r2 r3 r4 r5 r6
   obtain ⟨g0,g1,g2,g3,g4,g5,g6⟩:=free7 KR2.out
   obtain ⟨r0,r1,r2,r3,r4,r5,r6⟩:=cells7' KR2.out
   have hl2:=blk_lt KR2.out
   go_wp2_with fail
   obtain ⟨wx,hwx⟩:∃ wx,wx=set7i w2 (w.heap.size+1) (.int .i64 num2) (.int .i64 most2) (.int .i64 epoch2) (.int .i64 size2) (.bool shut2) (.slice al2 ln2 cl2) (.slice ad2 dn2 cd2):=⟨_,rfl⟩
   have HBX:=Hd (show Below w.heap.size w wx by rw [hwx];exact HB2.out.trans (set7i_below (by omega) _ _ _ _ _ _ _))
   have hkx:=set7i_keeps w2 (w.heap.size+1) (.int .i64 num2) (.int .i64 most2) (.int .i64 epoch2) (.int .i64 size2) (.bool shut2) (.slice al2 ln2 cl2) (.slice ad2 dn2 cd2)
   have kbx:=store7i (KR2.out) (.int .i64 num2) (.int .i64 most2) (.int .i64 epoch2) (.int .i64 size2) (.bool shut2) (.slice al2 ln2 cl2) (.slice ad2 dn2 cd2)
   rw [←hwx] at kbx hkx
   unfold set7i at hwx
   rw [←hwx]
   clear hwx
   obtain ⟨s0,s1,s2,s3,s4,s5,s6⟩:=cells7' kbx
   refine bodyPost_ret (v:=?_) ?_ rfl ?_
   rotate_left;(focus (simp [results,Tryz.results53,go_sem,s0,s1,s2,s3,s4,s5,s6];exact rfl))
   rw [HE.out]
   exact ⟨_,rfl,HIN.out.ret (by omega) hl1 hkx,HBX.out⟩
 ·have e1:((K:Int) != 0)=true:=by simp;omega
  have HE:=Hd (HSE.out.trans (if_pos hk0))
  clear hk0
  go_wp2_with fail
  obtain ⟨wx,hwx⟩:∃ wx,wx=set7i w1 (w.heap.size+1) (.int .i64 num) (.int .i64 most) (.int .i64 epoch) (.int .i64 size) (.bool shut) (.slice al ln cl) (.slice ad dn cd):=⟨_,rfl⟩
  have HBX:=Hd (show Below w.heap.size w wx by rw [hwx];exact HB1.out.trans (set7i_below (by omega) _ _ _ _ _ _ _))
  have kbx:=store7i (KR1.out) (.int .i64 num) (.int .i64 most) (.int .i64 epoch) (.int .i64 size) (.bool shut) (.slice al ln cl) (.slice ad dn cd)
  rw [←hwx] at kbx
  unfold set7i at hwx
  rw [←hwx]
  clear hwx
  obtain ⟨s0,s1,s2,s3,s4,s5,s6⟩:=cells7' kbx
  refine bodyPost_ret (v:=?_) ?_ rfl ?_
  rotate_left;(focus (simp [results,Tryz.results53,go_sem,s0,s1,s2,s3,s4,s5,s6];exact rfl))
  rw [HE.out]
  exact ⟨_,rfl,HO.out _ HBX.out,HBX.out⟩
theorem NdP.old{P:Nat→Prop}{w w0:World}{x:NdE}(h:NdP w P x)(hb:Below w.heap.size w w0):NdP w0 (POld P w) x:=
 (h.wide (Q:=POld P w) (fun _ hk hs=>⟨hk,hs⟩)).kp (KP.of hb)
theorem rput9_any(P:Nat→Prop)(v:Rv)(al:Option Addr)(cl:Nat)(ad:Option Addr)(cd:Nat)(xs:List NdE)(x:NdE)(w:World)(h:RvAt w P v al cl ad cd xs)(hx:NdP w P x)(hdl:x.n.data.length≤1000000000)(hs:IxS v.l)(hz:v.size≤1000000000)(hm:v.most≤1000000000)(hf:v.l.length≤4096)(hdn:v.d.length≤1000000) :
  Calls Tryz.prog 52 #[rvV v al cl ad cd,.agg x.cs.toArray] w (RWTo w P (v.put x.n)):=by
 have HCK:=Hd (fun w0:World=>rcheck_any x hdl w0)
 have HNW:=Hd (fun (w0:World) (hb:Below w.heap.size w w0)=>rnewest_any v.num v.most v.epoch v.size v.shut (.slice al v.l.length cl) ad v.d.length cd xs x.n.key w0 h.rd.len (h.rd.row.below hb) ⟨_,_,_,rfl⟩)
 have HWR:=Hd (fun (w0:World) (hb:Below w.heap.size w w0) (hd:x.n.data.length≤100000)=>rwrite_any (POld P w) v al cl ad cd xs x w0 (h.old hb) (hx.old hb) hs hd hz hm hf hdn)
 have HO:=Hd (fun (w':World) (hb:Below w.heap.size w w')=>h.out' hb)
 have HCD:=Hd (show ndCheck x.n=0→x.n.data.length≤100000 from fun e=>by
  unfold ndCheck at e
  split at e
  ·omega
  ·split at e <;> omega)
 have HSE:=Hd (show v.put x.n=if x.n.gone=true then (1,v) else if ndCheck x.n≠0 then (ndCheck x.n,v) else if v.shut=true then (10,v) else match lastOf v.d x.n.key with|some o=>(if o.gone=true then 7 else 8,v)|none=>v.write x.n from rfl)
 obtain ⟨R,hR⟩:∃ R,R=v.put x.n:=⟨_,rfl⟩
 rw [←hR] at HSE ⊢
 obtain ⟨K,hK⟩:∃ K,K=ndCheck x.n:=⟨_,rfl⟩
 rw [←hK] at HSE HCK HCD
 obtain ⟨WR,hWR⟩:∃ WR,WR=v.write x.n:=⟨_,rfl⟩
 rw [←hWR] at HSE HWR
 rw [←h.eq] at HSE
 have hnd:NdE.cs x=[.int .u64 x.n.key,.int .u32 x.n.cookie,.bool x.n.gone,.slice x.a x.n.data.length x.c]:=rfl
 rw [hnd] at HCK HWR ⊢
 obtain ⟨⟨key,cookie,gone,data⟩,xa,xc⟩:=x
 obtain ⟨num,most,epoch,size,shut,l,dd⟩:=v
 unfold rvV at HWR HO ⊢
 simp only at HCK HNW HWR HO HSE HCD ⊢
 obtain ⟨ln,hln⟩:∃ ln,ln=l.length:=⟨_,rfl⟩
 obtain ⟨dn,hdn2⟩:∃ dn,dn=dd.length:=⟨_,rfl⟩
 obtain ⟨xn,hxn⟩:∃ xn,xn=data.length:=⟨_,rfl⟩
 rw [←hln,←hdn2] at HNW HWR HO ⊢
 rw [←hxn] at HCK HWR HCD ⊢
 clear h hR hK hWR hln hdn2 hx hxn hnd
 go_enter Tryz.func52,Tryz.ntmps52
 go_upto_region 1 with fail
 obtain ⟨w0,hw0⟩:∃ w0:World,w0=((w.alloc (.cells #[.int .i64 num,.int .i64 most,.int .i64 epoch,.int .i64 size,.bool shut,.slice al ln cl,.slice ad dn cd] 43)).alloc (.cells #[.int .u64 key,.int .u32 cookie,.bool gone,.slice xa xn xc] 49)).alloc (.cells #[.int .i64 0,.int .i64 0,.int .i64 0,.int .i64 0,.bool false,.slice none 0 0,.slice none 0 0] 43):=⟨_,rfl⟩
 have HB0:=Hd (show Below w.heap.size w w0 by rw [hw0];exact belo)
 have KV0:=Hd (show w0.heap[w.heap.size]? = some (.cells #[.int .i64 num,.int .i64 most,.int .i64 epoch,.int .i64 size,.bool shut,.slice al ln cl,.slice ad dn cd] 43 (0,0)) by rw [hw0];exact blk_alloc (blk_alloc (heap_new w _) _) _)
 have KX0:=Hd (show w0.heap[w.heap.size+1]? = some (.cells #[.int .u64 key,.int .u32 cookie,.bool gone,.slice xa xn xc] 49 (0,0)) by rw [hw0];exact blk_alloc (blk_new _ (by simp)) _)
 have KR0:=Hd (show w0.heap[w.heap.size+2]? = some (.cells #[.int .i64 0,.int .i64 0,.int .i64 0,.int .i64 0,.bool false,.slice none 0 0,.slice none 0 0] 43 (0,0)) by rw [hw0];exact blk_new _ (by simp))
 rw [←hw0,show w.heap.size+1+1=w.heap.size+2 from rfl]
 clear hw0
 have hz0:=HB0.out.size
 obtain ⟨v0,v1,v2,v3,v4,v5,v6⟩:=cells7' KV0.out
 obtain ⟨x0,x1,x2,x3⟩:=ncells KX0.out
 obtain ⟨r0,r1,r2,r3,r4,r5,r6⟩:=cells7' KR0.out
 obtain ⟨g0,g1,g2,g3,g4,g5,g6⟩:=free7 KR0.out
 have hl0:=blk_lt KR0.out
 cases gone with
 | true=>
  have HE:=Hd (HSE.out.trans (if_pos rfl))
  go_wp2_with fail
  obtain ⟨wx,hwx⟩:∃ wx,wx=set7i w0 (w.heap.size+2) (.int .i64 num) (.int .i64 most) (.int .i64 epoch) (.int .i64 size) (.bool shut) (.slice al ln cl) (.slice ad dn cd):=⟨_,rfl⟩
  have HBX:=Hd (show Below w.heap.size w wx by rw [hwx];exact HB0.out.trans (set7i_below (by omega) _ _ _ _ _ _ _))
  have kbx:=store7i (KR0.out) (.int .i64 num) (.int .i64 most) (.int .i64 epoch) (.int .i64 size) (.bool shut) (.slice al ln cl) (.slice ad dn cd)
  rw [←hwx] at kbx
  unfold set7i at hwx
  rw [←hwx]
  clear hwx
  obtain ⟨s0,s1,s2,s3,s4,s5,s6⟩:=cells7' kbx
  refine bodyPost_ret (v:=?_) ?_ rfl ?_
  rotate_left;(focus (simp [results,Tryz.results52,go_sem,s0,s1,s2,s3,s4,s5,s6];exact rfl))
  rw [HE.out]
  exact ⟨_,rfl,HO.out _ HBX.out,HBX.out⟩
 | false=>
  replace HSE:=Hd (HSE.out.trans (if_neg (by simp)))
  go_upto_region 3 with fail
  go_wp2_with fail
  refine (HCK.out w0).mono ?_
  rintro e w1 ⟨rfl,hb⟩
  have KV1:=Hd (blk_below' KV0.out hb)
  have KX1:=Hd (blk_below' KX0.out hb)
  have KR1:=Hd (blk_below' KR0.out hb)
  have HB1:=Hd (HB0.out.trans (hb.mono hz0))
  have hz1:=hb.size
  clear hb v0 v1 v2 v3 v4 v5 v6 x0 x1 x2 x3 r0 r1 r2 r3 r4 r5 r6 g0 g1 g2 g3 g4 g5 g6
  obtain ⟨v0,v1,v2,v3,v4,v5,v6⟩:=cells7' KV1.out
  obtain ⟨x0,x1,x2,x3⟩:=ncells KX1.out
  obtain ⟨r0,r1,r2,r3,r4,r5,r6⟩:=cells7' KR1.out
  obtain ⟨g0,g1,g2,g3,g4,g5,g6⟩:=free7 KR1.out
  have hl1:=blk_lt KR1.out
  by_cases hk0:K=0
  case neg=>
   have e1:((K:Int) != 0)=true:=by simp;omega
   have HE:=Hd (HSE.out.trans (if_pos hk0))
   clear hk0
   go_wp2_with fail
   obtain ⟨wx,hwx⟩:∃ wx,wx=set7i w1 (w.heap.size+2) (.int .i64 num) (.int .i64 most) (.int .i64 epoch) (.int .i64 size) (.bool shut) (.slice al ln cl) (.slice ad dn cd):=⟨_,rfl⟩
   have HBX:=Hd (show Below w.heap.size w wx by rw [hwx];exact HB1.out.trans (set7i_below (by omega) _ _ _ _ _ _ _))
   have kbx:=store7i (KR1.out) (.int .i64 num) (.int .i64 most) (.int .i64 epoch) (.int .i64 size) (.bool shut) (.slice al ln cl) (.slice ad dn cd)
   rw [←hwx] at kbx
   unfold set7i at hwx
   rw [←hwx]
   clear hwx
   obtain ⟨s0,s1,s2,s3,s4,s5,s6⟩:=cells7' kbx
   refine bodyPost_ret (v:=?_) ?_ rfl ?_
   rotate_left;(focus (simp [results,Tryz.results52,go_sem,s0,s1,s2,s3,s4,s5,s6];exact rfl))
   rw [HE.out]
   exact ⟨_,rfl,HO.out _ HBX.out,HBX.out⟩
  case pos=>
  have e1:((K:Int) != 0)=false:=by simp;omega
  have hxn:=HCD.out hk0
  replace HSE:=Hd (HSE.out.trans (if_neg (by omega)))
  clear hk0
  cases shut with
  | true=>
   have HE:=Hd (HSE.out.trans (if_pos rfl))
   go_wp2_with fail
   obtain ⟨wx,hwx⟩:∃ wx,wx=set7i w1 (w.heap.size+2) (.int .i64 num) (.int .i64 most) (.int .i64 epoch) (.int .i64 size) (.bool true) (.slice al ln cl) (.slice ad dn cd):=⟨_,rfl⟩
   have HBX:=Hd (show Below w.heap.size w wx by rw [hwx];exact HB1.out.trans (set7i_below (by omega) _ _ _ _ _ _ _))
   have kbx:=store7i (KR1.out) (.int .i64 num) (.int .i64 most) (.int .i64 epoch) (.int .i64 size) (.bool true) (.slice al ln cl) (.slice ad dn cd)
   rw [←hwx] at kbx
   unfold set7i at hwx
   rw [←hwx]
   clear hwx
   obtain ⟨s0,s1,s2,s3,s4,s5,s6⟩:=cells7' kbx
   refine bodyPost_ret (v:=?_) ?_ rfl ?_
   rotate_left;(focus (simp [results,Tryz.results52,go_sem,s0,s1,s2,s3,s4,s5,s6];exact rfl))
   rw [HE.out]
   exact ⟨_,rfl,HO.out _ HBX.out,HBX.out⟩
  | false=>
  replace HSE:=Hd (HSE.out.trans (if_neg (by simp)))
  go_upto_region 8 with fail
  go_wp2_with fail
  refine (HNW.out w1 HB1.out).mono ?_
  rintro e w2 ⟨r,rfl,hr,hrm,hb⟩
  have KV2:=Hd (blk_below' KV1.out hb)
  have KX2:=Hd (blk_below' KX1.out hb)
  have KR2:=Hd (blk_below' KR1.out hb)
  have HB2:=Hd (HB1.out.trans (hb.mono (by omega)))
  have hz2:=hb.size
  clear hb hrm v0 v1 v2 v3 v4 v5 v6 x0 x1 x2 x3 r0 r1 r2 r3 r4 r5 r6 g0 g1 g2 g3 g4 g5 g6
  rw [←hr] at HSE
  clear hr
  cases r with
  | none=>
   have HE:=Hd (show R=WR from HSE.out)
   unfold ndOV
   simp only [Option.isSome_none]
   obtain ⟨w3,hw3⟩:∃ w3:World,w3=w2.alloc (.cells #[.int .u64 0,.int .u32 0,.bool false,.slice none 0 0] 49):=⟨_,rfl⟩
   have HB3:=Hd (show Below w.heap.size w w3 by rw [hw3];exact HB2.out.alloc (by omega) _)
   have KV3:=Hd (show w3.heap[w.heap.size]? = some (.cells #[.int .i64 num,.int .i64 most,.int .i64 epoch,.int .i64 size,.bool false,.slice al ln cl,.slice ad dn cd] 43 (0,0)) by rw [hw3];exact blk_alloc KV2.out _)
   have KX3:=Hd (show w3.heap[w.heap.size+1]? = some (.cells #[.int .u64 key,.int .u32 cookie,.bool false,.slice xa xn xc] 49 (0,0)) by rw [hw3];exact blk_alloc KX2.out _)
   have KR3:=Hd (show w3.heap[w.heap.size+2]? = some (.cells #[.int .i64 0,.int .i64 0,.int .i64 0,.int .i64 0,.bool false,.slice none 0 0,.slice none 0 0] 43 (0,0)) by rw [hw3];exact blk_alloc KR2.out _)
   obtain ⟨v0,v1,v2,v3,v4,v5,v6⟩:=cells7' KV3.out
   obtain ⟨x0,x1,x2,x3⟩:=ncells KX3.out
   have hl3:=blk_lt KR3.out
   go_upto_region 9 with fail
   rw [←hw3]
   clear hw3
   go_wp2_with fail
   refine (HWR.out w3 HB3.out hxn).mono ?_
   rintro e w4 ⟨val,rfl,hin,hb⟩
   obtain ⟨N2,W2⟩:=WR
   have hin0:=hin
   obtain ⟨al2,cl2,ad2,cd2,xs2,rfl,-⟩:=hin0
   have HIN:=Hd hin
   clear hin
   obtain ⟨num2,most2,epoch2,size2,shut2,l2,dd2⟩:=W2
   unfold rvV at HIN ⊢
   simp only at HIN ⊢
   have KR4:=Hd (blk_below' KR3.out hb)
   have HB4:=Hd (HB3.out.trans (hb.mono HB3.out.size))
   obtain ⟨ln2,hln2⟩:∃ ln2,ln2=l2.length:=⟨_,rfl⟩
   obtain ⟨dn2,hdn2⟩:∃ dn2,dn2=dd2.length:=⟨_,rfl⟩
   rw [←hln2,←hdn2] at HIN ⊢
   have hz4:=hb.size
   clear hb hln2 hdn2 v0 v1 v2 v3 v4 v5 v6 x0 x1 x2 x3
   obtain ⟨g0,g1,g2,g3,g4,g5,g6⟩:=free7 KR4.out
   obtain ⟨r0,r1,r2,r3,r4,r5,r6⟩:=cells7' KR4.out
   have hl4:=blk_lt KR4.out
   go_wp2_with fail
   obtain ⟨wx,hwx⟩:∃ wx,wx=set7i w4 (w.heap.size+2) (.int .i64 num2) (.int .i64 most2) (.int .i64 epoch2) (.int .i64 size2) (.bool shut2) (.slice al2 ln2 cl2) (.slice ad2 dn2 cd2):=⟨_,rfl⟩
   have HBX:=Hd (show Below w.heap.size w wx by rw [hwx];exact HB4.out.trans (set7i_below (by omega) _ _ _ _ _ _ _))
   have hkx:=set7i_keeps w4 (w.heap.size+2) (.int .i64 num2) (.int .i64 most2) (.int .i64 epoch2) (.int .i64 size2) (.bool shut2) (.slice al2 ln2 cl2) (.slice ad2 dn2 cd2)
   have kbx:=store7i (KR4.out) (.int .i64 num2) (.int .i64 most2) (.int .i64 epoch2) (.int .i64 size2) (.bool shut2) (.slice al2 ln2 cl2) (.slice ad2 dn2 cd2)
   rw [←hwx] at kbx hkx
   unfold set7i at hwx
   rw [←hwx]
   clear hwx
   obtain ⟨s0,s1,s2,s3,s4,s5,s6⟩:=cells7' kbx
   refine bodyPost_ret (v:=?_) ?_ rfl ?_
   rotate_left;(focus (simp [results,Tryz.results52,go_sem,s0,s1,s2,s3,s4,s5,s6];exact rfl))
   rw [HE.out]
   exact ⟨_,rfl,HIN.out.ret (by omega) hl3 hkx,HBX.out⟩
  | some y=>
   obtain ⟨⟨yk,yc,yg,yd⟩,ya,ycp⟩:=y
   replace HSE:=Hd (show R=(if yg=true then 7 else 8,_) from HSE.out)
   unfold ndOV NdE.cs
   simp only [Option.isSome_some]
   obtain ⟨w3,hw3⟩:∃ w3:World,w3=w2.alloc (.cells #[.int .u64 yk,.int .u32 yc,.bool yg,.slice ya yd.length ycp] 49):=⟨_,rfl⟩
   have HB3:=Hd (show Below w.heap.size w w3 by rw [hw3];exact HB2.out.alloc (by omega) _)
   have KV3:=Hd (show w3.heap[w.heap.size]? = some (.cells #[.int .i64 num,.int .i64 most,.int .i64 epoch,.int .i64 size,.bool false,.slice al ln cl,.slice ad dn cd] 43 (0,0)) by rw [hw3];exact blk_alloc KV2.out _)
   have KR3:=Hd (show w3.heap[w.heap.size+2]? = some (.cells #[.int .i64 0,.int .i64 0,.int .i64 0,.int .i64 0,.bool false,.slice none 0 0,.slice none 0 0] 43 (0,0)) by rw [hw3];exact blk_alloc KR2.out _)
   have KY3:=Hd (show w3.heap[w2.heap.size]? = some (.cells #[.int .u64 yk,.int .u32 yc,.bool yg,.slice ya yd.length ycp] 49 (0,0)) by rw [hw3];exact heap_new w2 _)
   obtain ⟨v0,v1,v2,v3,v4,v5,v6⟩:=cells7' KV3.out
   obtain ⟨y0,y1,y2,y3⟩:=ncells KY3.out
   obtain ⟨r0,r1,r2,r3,r4,r5,r6⟩:=cells7' KR3.out
   obtain ⟨g0,g1,g2,g3,g4,g5,g6⟩:=free7 KR3.out
   have hl3:=blk_lt KR3.out
   go_upto_region 9 with fail
   rw [←hw3]
   clear hw3
   cases yg with
   | true=>
    have HE:=Hd HSE.out
    go_wp2_with fail
    obtain ⟨wx,hwx⟩:∃ wx,wx=set7i w3 (w.heap.size+2) (.int .i64 num) (.int .i64 most) (.int .i64 epoch) (.int .i64 size) (.bool false) (.slice al ln cl) (.slice ad dn cd):=⟨_,rfl⟩
    have HBX:=Hd (show Below w.heap.size w wx by rw [hwx];exact HB3.out.trans (set7i_below (by omega) _ _ _ _ _ _ _))
    have kbx:=store7i (KR3.out) (.int .i64 num) (.int .i64 most) (.int .i64 epoch) (.int .i64 size) (.bool false) (.slice al ln cl) (.slice ad dn cd)
    rw [←hwx] at kbx
    unfold set7i at hwx
    rw [←hwx]
    clear hwx
    obtain ⟨s0,s1,s2,s3,s4,s5,s6⟩:=cells7' kbx
    refine bodyPost_ret (v:=?_) ?_ rfl ?_
    rotate_left;(focus (simp [results,Tryz.results52,go_sem,s0,s1,s2,s3,s4,s5,s6];exact rfl))
    rw [HE.out]
    exact ⟨_,rfl,HO.out _ HBX.out,HBX.out⟩
   | false=>
    have HE:=Hd HSE.out
    go_wp2_with fail
    obtain ⟨wx,hwx⟩:∃ wx,wx=set7i w3 (w.heap.size+2) (.int .i64 num) (.int .i64 most) (.int .i64 epoch) (.int .i64 size) (.bool false) (.slice al ln cl) (.slice ad dn cd):=⟨_,rfl⟩
    have HBX:=Hd (show Below w.heap.size w wx by rw [hwx];exact HB3.out.trans (set7i_below (by omega) _ _ _ _ _ _ _))
    have kbx:=store7i (KR3.out) (.int .i64 num) (.int .i64 most) (.int .i64 epoch) (.int .i64 size) (.bool false) (.slice al ln cl) (.slice ad dn cd)
    rw [←hwx] at kbx
    unfold set7i at hwx
    rw [←hwx]
    clear hwx
    obtain ⟨s0,s1,s2,s3,s4,s5,s6⟩:=cells7' kbx
    refine bodyPost_ret (v:=?_) ?_ rfl ?_
    rotate_left;(focus (simp [results,Tryz.results52,go_sem,s0,s1,s2,s3,s4,s5,s6];exact rfl))
    rw [HE.out]
    exact ⟨_,rfl,HO.out _ HBX.out,HBX.out⟩
def DoTo (w:World) (P:Nat→Prop) (r:Nat×Rv) (N:Option Nd) (K:List Ps) (e:Ending) (w':World):Prop:=
 ∃ val nv kv y,e=.returned (.tuple #[val,nv,kv,.int .i64 r.1])∧RvIn w' (PNew P w) val r.2∧Below w.heap.size w w'∧nv=ndOV y∧y.map NdE.n=N∧(∀ x,y=some x→NdArg w' x)∧Reads w' 5 kv K.length (K.flatMap psC)
theorem acells{w:World}{b:Nat}{v0 v1 v2 v3 v4 v5:Value}{t:TypeId}(h:w.heap[b]? = some (.cells #[v0,v1,v2,v3,v4,v5] t (0,0))):w.cell? ⟨b,0,none⟩=some v0∧w.cell? ⟨b,1,none⟩=some v1∧w.cell? ⟨b,2,none⟩=some v2∧w.cell? ⟨b,3,none⟩=some v3∧w.cell? ⟨b,4,none⟩=some v4∧w.cell? ⟨b,5,none⟩=some v5:=by
 refine ⟨?_,?_,?_,?_,?_,?_⟩ <;> (rw [cell_of_row w b _ _ _ _ h];rfl)
theorem set7_drew{w:World}{b k:Nat}{x:Obj}{u0 u1 u2 u3 u4 u5 u6:Value}(h:w.heap[k]? = some x)(hne:k≠b):(((((((w.setCell ⟨b,0,none⟩ u0).setCell ⟨b,1,none⟩ u1).setCell ⟨b,2,none⟩ u2).setCell ⟨b,3,none⟩ u3).setCell ⟨b,4,none⟩ u4).setCell ⟨b,5,none⟩ u5).setCell ⟨b,6,none⟩ u6).drew.heap[k]? = some x:=by
 have hk:=(set7i_keeps w b u0 u1 u2 u3 u4 u5 u6).block k (blk_lt h) hne
 unfold set7i at hk
 exact blk_drew (hk.trans h)
theorem RvIn.ret2{P:Nat→Prop}{w w0 w1 w2 w3 w4 wf:World}{val:Value}{v:Rv}{R S:Nat}(h:RvIn w1 (PNew (POld P w) w0) val v)(hR:w.heap.size≤R)(hR0:R<w0.heap.size)(hS:w.heap.size≤S)(hS0:S<w0.heap.size)(hk2:Keeps (fun k=>k=R) w1 w2)(hk3:Keeps (fun k=>k=R) w2 w3)(hk4:Keeps (fun k=>k=S) w3 w4)(hwf:Keeps (fun _=>False) w4 wf:=by exact (Keeps.refl _ _).drew):RvIn wf (PNew P w) val v:=by
 have hq:∀ k,PNew (POld P w) w0 k→k≠R∧k≠S:=fun k e=>by
  rcases e with ⟨_,f⟩|f <;> omega
 have hkp:KP (PNew (POld P w) w0) w1 wf:=((Keeps.mono hk2 (fun k _ e f=>(hq k f).1 e)).trans (Keeps.mono hk3 (fun k _ e f=>(hq k f).1 e)) (fun _ _ e=>e)).trans ((Keeps.mono hk4 (fun k _ e f=>(hq k f).2 e)).trans (Keeps.mono hwf (fun _ _ e=>e.elim)) (fun _ _ e=>e)) (fun _ _ e=>e)
 refine (h.kp hkp).wide (fun k hq _=>?_)
 rcases hq with ⟨f,_⟩|f
 ·exact .inl f
 ·exact .inr (by omega)
theorem rdo0(P:Nat→Prop)(v:Rv)(al:Option Addr)(cl:Nat)(ad:Option Addr)(cd:Nat)(xs:List NdE)(m:Int)(x:NdE)(w:World)(h:RvAt w P v al cl ad cd xs)(hx:NdP w P x)(hdl:x.n.data.length≤1000000000)(hs:IxS v.l)(hz:v.size≤1000000000)(hm:v.most≤1000000000)(hf:v.l.length≤4096)(hdn:v.d.length≤1000000) :
  Calls Tryz.prog 17 #[rvV v al cl ad cd,.agg #[.int .i64 0,.int .i64 m,.int .u64 x.n.key,.int .u32 x.n.cookie,.bool x.n.gone,.slice x.a x.n.data.length x.c]] w (DoTo w P (v.put x.n) none []):=by
 have HCALL:=Hd (fun (w0:World) (hb:Below w.heap.size w w0)=>rput9_any (POld P w) v al cl ad cd xs x w0 (h.old hb) (hx.old hb) hdl hs hz hm hf hdn)
 have HO:=Hd (fun (w':World) (hb:Below w.heap.size w w')=>h.out' hb)
 obtain ⟨R,hR⟩:∃ R,R=v.put x.n:=⟨_,rfl⟩
 rw [←hR] at HCALL ⊢
 have hnd:NdE.cs x=[.int .u64 x.n.key,.int .u32 x.n.cookie,.bool x.n.gone,.slice x.a x.n.data.length x.c]:=rfl
 rw [hnd] at HCALL
 clear hR
 obtain ⟨⟨key,cookie,gone,data⟩,xa,xc⟩:=x
 obtain ⟨num,most,epoch,size,shut,l,dd⟩:=v
 unfold rvV at HCALL HO ⊢
 simp only at HCALL HO ⊢
 obtain ⟨ln,hln⟩:∃ ln,ln=l.length:=⟨_,rfl⟩
 obtain ⟨dn,hdn2⟩:∃ dn,dn=dd.length:=⟨_,rfl⟩
 obtain ⟨xn,hxn⟩:∃ xn,xn=data.length:=⟨_,rfl⟩
 rw [←hln,←hdn2] at HCALL HO ⊢
 rw [←hxn] at HCALL ⊢
 clear h hln hdn2 hx hxn
 go_enter Tryz.func17,Tryz.ntmps17
 go_upto_region 2 with fail
 obtain ⟨w0,hw0⟩:∃ w0:World,w0=((((w.alloc (.cells #[.int .i64 num,.int .i64 most,.int .i64 epoch,.int .i64 size,.bool shut,.slice al ln cl,.slice ad dn cd] 43)).alloc (.cells #[.int .i64 0,.int .i64 m,.int .u64 key,.int .u32 cookie,.bool gone,.slice xa xn xc] 53)).alloc (.cells #[.int .i64 0,.int .i64 0,.int .i64 0,.int .i64 0,.bool false,.slice none 0 0,.slice none 0 0] 43)).alloc (.cells #[.int .u64 0,.int .u32 0,.bool false,.slice none 0 0] 49)).alloc (.cells #[.int .u64 0,.int .u32 0,.bool false,.slice none 0 0] 49):=⟨_,rfl⟩
 have HB0:=Hd (show Below w.heap.size w w0 by rw [hw0];exact belo)
 have KV0:=Hd (show w0.heap[w.heap.size]? = some (.cells #[.int .i64 num,.int .i64 most,.int .i64 epoch,.int .i64 size,.bool shut,.slice al ln cl,.slice ad dn cd] 43 (0,0)) by rw [hw0];exact blk_alloc (blk_alloc (blk_alloc (blk_alloc (heap_new w _) _) _) _) _)
 have KA0:=Hd (show w0.heap[w.heap.size+1]? = some (.cells #[.int .i64 0,.int .i64 m,.int .u64 key,.int .u32 cookie,.bool gone,.slice xa xn xc] 53 (0,0)) by rw [hw0];exact blk_alloc (blk_alloc (blk_alloc (blk_new _ (by simp)) _) _) _)
 have KR0:=Hd (show w0.heap[w.heap.size+2]? = some (.cells #[.int .i64 0,.int .i64 0,.int .i64 0,.int .i64 0,.bool false,.slice none 0 0,.slice none 0 0] 43 (0,0)) by rw [hw0];exact blk_alloc (blk_alloc (blk_new _ (by simp)) _) _)
 have KN0:=Hd (show w0.heap[w.heap.size+3]? = some (.cells #[.int .u64 0,.int .u32 0,.bool false,.slice none 0 0] 49 (0,0)) by rw [hw0];exact blk_alloc (blk_new _ (by simp)) _)
 have KE0:=Hd (show w0.heap[w.heap.size+4]? = some (.cells #[.int .u64 0,.int .u32 0,.bool false,.slice none 0 0] 49 (0,0)) by rw [hw0];exact blk_new _ (by simp))
 rw [←hw0,show w.heap.size+1+1=w.heap.size+2 from rfl,show w.heap.size+2+1=w.heap.size+3 from rfl,show w.heap.size+3+1=w.heap.size+4 from rfl]
 clear hw0
 have hz0:=HB0.out.size
 obtain ⟨v0,v1,v2,v3,v4,v5,v6⟩:=cells7' KV0.out
 obtain ⟨a0,a1,a2,a3,a4,a5⟩:=acells KA0.out
 have hl0:=blk_lt KE0.out
 go_wp2_with fail
 refine (HCALL.out w0 HB0.out).mono ?_
 rintro e w1 ⟨val,rfl,hin,hb⟩
 obtain ⟨N2,W2⟩:=R
 have hin0:=hin
 obtain ⟨al2,cl2,ad2,cd2,xs2,rfl,-⟩:=hin0
 have HIN:=Hd hin
 clear hin
 obtain ⟨num2,most2,epoch2,size2,shut2,l2,dd2⟩:=W2
 unfold rvV at HIN ⊢
 simp only at HIN ⊢
 obtain ⟨ln2,hln2⟩:∃ ln2,ln2=l2.length:=⟨_,rfl⟩
 obtain ⟨dn2,hdn2⟩:∃ dn2,dn2=dd2.length:=⟨_,rfl⟩
 rw [←hln2,←hdn2] at HIN ⊢
 clear hln2 hdn2 v0 v1 v2 v3 v4 v5 v6 a0 a1 a2 a3 a4 a5
 have hz1:=hb.size
 obtain ⟨w2,hw2⟩:∃ w2:World,w2=w1.alloc (.cells #[.int .i64 num2,.int .i64 most2,.int .i64 epoch2,.int .i64 size2,.bool shut2,.slice al2 ln2 cl2,.slice ad2 dn2 cd2] 43):=⟨_,rfl⟩
 have HB2:=Hd (show Below w.heap.size w w2 by rw [hw2];exact (HB0.out.trans (hb.mono hz0)).alloc (by omega) _)
 have KR2:=Hd (show w2.heap[w.heap.size+2]? = some (.cells #[.int .i64 0,.int .i64 0,.int .i64 0,.int .i64 0,.bool false,.slice none 0 0,.slice none 0 0] 43 (0,0)) by rw [hw2];exact blk_alloc (blk_below' KR0.out hb) _)
 have KN2:=Hd (show w2.heap[w.heap.size+3]? = some (.cells #[.int .u64 0,.int .u32 0,.bool false,.slice none 0 0] 49 (0,0)) by rw [hw2];exact blk_alloc (blk_below' KN0.out hb) _)
 have KE2:=Hd (show w2.heap[w.heap.size+4]? = some (.cells #[.int .u64 0,.int .u32 0,.bool false,.slice none 0 0] 49 (0,0)) by rw [hw2];exact blk_alloc (blk_below' KE0.out hb) _)
 have KT2:=Hd (show w2.heap[w1.heap.size]? = some (.cells #[.int .i64 num2,.int .i64 most2,.int .i64 epoch2,.int .i64 size2,.bool shut2,.slice al2 ln2 cl2,.slice ad2 dn2 cd2] 43 (0,0)) by rw [hw2];exact heap_new w1 _)
 have hk2:Keeps (fun k=>k=w.heap.size+2) w1 w2:=by rw [hw2];exact (Keeps.refl _ w1).alloc _
 have HK2:=Hd hk2
 clear hk2 hb
 obtain ⟨t0,t1,t2,t3,t4,t5,t6⟩:=cells7' KT2.out
 obtain ⟨r0,r1,r2,r3,r4,r5,r6⟩:=cells7' KR2.out
 obtain ⟨g0,g1,g2,g3,g4,g5,g6⟩:=free7 KR2.out
 obtain ⟨n0,n1,n2,n3⟩:=ncells KN2.out
 obtain ⟨o0,o1,o2,o3⟩:=nfree KN2.out
 obtain ⟨y0,y1,y2,y3⟩:=ncells KE2.out
 have hle:=blk_lt KE2.out
 have hlr:=blk_lt KR2.out
 have hlk:=blk_lt KN2.out
 go_upto_region 5 with fail
 rw [←hw2]
 clear hw2
 obtain ⟨B,hB⟩:∃ B,B=w1.heap.size:=⟨_,rfl⟩
 have KB:=Hd (show w2.heap[B]? = some (.cells #[.int .i64 num2,.int .i64 most2,.int .i64 epoch2,.int .i64 size2,.bool shut2,.slice al2 ln2 cl2,.slice ad2 dn2 cd2] 43 (0,0)) by rw [hB];exact KT2.out)
 have KB2:=Hd (show w2.heap[w1.heap.size]? = some (.cells #[.int .i64 num2,.int .i64 most2,.int .i64 epoch2,.int .i64 size2,.bool shut2,.slice al2 ln2 cl2,.slice ad2 dn2 cd2] 43 (0,0)) from KT2.out)
 have hBl:=blk_lt KB.out
 have hBn:B≠w.heap.size+2:=by omega
 obtain ⟨SS,HSD⟩:∃ SS:World→Prop,Hid (SS=fun w'=>w'.heap[w.heap.size+4]? = some (.cells #[.int .u64 0,.int .u32 0,.bool false,.slice none 0 0] 49 (0,0))∧w'.heap[w1.heap.size]? = some (.cells #[.int .i64 num2,.int .i64 most2,.int .i64 epoch2,.int .i64 size2,.bool shut2,.slice al2 ln2 cl2,.slice ad2 dn2 cd2] 43 (0,0))):=⟨_,Hd rfl⟩
 refine wp_region_order0 SS [0,1] [(0,2),(1,2),(2,0),(3,1),(4,1),(5,0),(6,0)] (by kernel_rfl) (by kernel_rfl) rfl (by kernel_rfl) ?_ ?_
 (focus (rw [HSD.out];exact ⟨KE2.out,hB ▸ KB.out⟩));refine stepE2 rfl rfl ?_ (fun w1 hS=>?_) fun K hK=>?_;rotate_left;(focus (rw [HSD.out] at hS;obtain ⟨hS1,hS2⟩:=hS;obtain ⟨z0,z1,z2,z3⟩:=ncells hS1;obtain ⟨z4,z5,z6,z7,z8,z9,z10⟩:=cells7' hS2;go_simp;rfl));go_simp;refine hK _ ?_;clear hK K;refine stepE2 rfl rfl ?_ (fun w1 hS=>?_) fun K hK=>?_;rotate_left;(focus (rw [HSD.out] at hS;obtain ⟨hS1,hS2⟩:=hS;obtain ⟨z0,z1,z2,z3⟩:=ncells hS1;obtain ⟨z4,z5,z6,z7,z8,z9,z10⟩:=cells7' hS2;go_simp;rfl));go_simp;refine hK _ ?_;clear hK K;refine stepE0 rfl rfl fun K hK=>?_;go_simp;refine hK _ ?_;clear hK K;refine stepE1S rfl rfl fun K hK=>?_;go_wp2
 refine ⟨by rw [HSD.out];exact ((by show _∧_;exact ⟨set7_drew KE2.out (by omega),set7_drew KB2.out (by omega)⟩)),?_⟩
 refine stepE1 rfl rfl (by kernel_rfl) fun K hK=>?_;go_wp2;(iterate 2 refine stepE0 rfl rfl fun K hK=>?_;go_simp;refine hK _ ?_;clear hK K)
 try refine stepEnil0 ?_
 clear HSD SS
 go_wp2
 obtain ⟨w3,hw3⟩:∃ w3,w3=set7i w2 (w.heap.size+2) (.int .i64 num2) (.int .i64 most2) (.int .i64 epoch2) (.int .i64 size2) (.bool shut2) (.slice al2 ln2 cl2) (.slice ad2 dn2 cd2):=⟨_,rfl⟩
 have hb3:=set7i_below (w:=w2) (B:=w.heap.size) (b:=w.heap.size+2) (by omega) (.int .i64 num2) (.int .i64 most2) (.int .i64 epoch2) (.int .i64 size2) (.bool shut2) (.slice al2 ln2 cl2) (.slice ad2 dn2 cd2)
 have k3:=store7i (KR2.out) (.int .i64 num2) (.int .i64 most2) (.int .i64 epoch2) (.int .i64 size2) (.bool shut2) (.slice al2 ln2 cl2) (.slice ad2 dn2 cd2)
 have hk3:=set7i_keeps w2 (w.heap.size+2) (.int .i64 num2) (.int .i64 most2) (.int .i64 epoch2) (.int .i64 size2) (.bool shut2) (.slice al2 ln2 cl2) (.slice ad2 dn2 cd2)
 have n3:w3.heap[w.heap.size+3]? = some (.cells #[.int .u64 0,.int .u32 0,.bool false,.slice none 0 0] 49 (0,0)):=by rw [hw3];exact (hk3.block _ hlk (by omega)).trans KN2.out
 rw [←hw3] at hb3 k3 hk3
 obtain ⟨w4,hw4⟩:∃ w4,w4=set4 w3 (w.heap.size+3) (.int .u64 0) (.int .u32 0) (.bool false) (.slice none 0 0):=⟨_,rfl⟩
 have hb4:=set4_below (w:=w3) (B:=w.heap.size) (b:=w.heap.size+3) (by omega) (.int .u64 0) (.int .u32 0) (.bool false) (.slice none 0 0)
 have k4:=store4 n3 (.int .u64 0) (.int .u32 0) (.bool false) (.slice none 0 0)
 have hk4:=set4_keeps w3 (w.heap.size+3) (.int .u64 0) (.int .u32 0) (.bool false) (.slice none 0 0)
 have k34:w4.heap[w.heap.size+2]? = _:=hw4 ▸ (hk4.block _ (blk_lt k3) (by omega)).trans k3
 rw [←hw4] at hb4 k4 hk4
 have HBX:=Hd ((HB2.out.trans hb3).trans hb4)
 unfold set7i at hw3
 unfold set4 at hw4
 rw [hw3] at hw4
 rw [←hw4]
 clear hw3 hw4 hb3 hb4
 obtain ⟨s0,s1,s2,s3,s4,s5,s6⟩:=cells7' (blk_drew k34)
 obtain ⟨m0,m1,m2,m3⟩:=ncells (blk_drew k4)
 refine bodyPost_ret (v:=?_) ?_ rfl ?_
 rotate_left;(focus (simp [results,Tryz.results17,go_sem,s0,s1,s2,s3,s4,s5,s6,m0,m1,m2,m3];exact rfl))
 have hin1:=HIN.out.ret2 (w:=w) (wf:=w4.drew) (by omega) (by omega) (by omega) (by omega) HK2.out hk3 hk4
 exact ⟨_,_,_,none,rfl,hin1,HBX.out.drew,rfl,rfl,(fun x e=>by cases e),reads_none _ _⟩
theorem rdo1(P:Nat→Prop)(v:Rv)(al:Option Addr)(cl:Nat)(ad:Option Addr)(cd:Nat)(xs:List NdE)(m:Int)(x:NdE)(w:World)(h:RvAt w P v al cl ad cd xs)(hx:NdP w P x)(hdl:x.n.data.length≤1000000000)(hs:IxS v.l)(hz:v.size≤1000000000)(hm:v.most≤1000000000)(hf:v.l.length≤4096)(hdn:v.d.length≤1000000) :
  Calls Tryz.prog 17 #[rvV v al cl ad cd,.agg #[.int .i64 1,.int .i64 m,.int .u64 x.n.key,.int .u32 x.n.cookie,.bool x.n.gone,.slice x.a x.n.data.length x.c]] w (DoTo w P (v.del x.n.key x.n.cookie) none []):=by
 have HCALL:=Hd (fun (w0:World) (hb:Below w.heap.size w w0)=>rdel_any (POld P w) v al cl ad cd xs x.n.key x.n.cookie w0 (h.old hb) hx.1.key hx.1.cookie hs hz hm hf hdn)
 have HO:=Hd (fun (w':World) (hb:Below w.heap.size w w')=>h.out' hb)
 obtain ⟨R,hR⟩:∃ R,R=v.del x.n.key x.n.cookie:=⟨_,rfl⟩
 rw [←hR] at HCALL ⊢
 clear hR
 obtain ⟨⟨key,cookie,gone,data⟩,xa,xc⟩:=x
 obtain ⟨num,most,epoch,size,shut,l,dd⟩:=v
 unfold rvV at HCALL HO ⊢
 simp only at HCALL HO ⊢
 obtain ⟨ln,hln⟩:∃ ln,ln=l.length:=⟨_,rfl⟩
 obtain ⟨dn,hdn2⟩:∃ dn,dn=dd.length:=⟨_,rfl⟩
 obtain ⟨xn,hxn⟩:∃ xn,xn=data.length:=⟨_,rfl⟩
 rw [←hln,←hdn2] at HCALL HO ⊢
 rw [←hxn]
 clear h hln hdn2 hx hxn
 go_enter Tryz.func17,Tryz.ntmps17
 go_upto_region 2 with fail
 obtain ⟨w0,hw0⟩:∃ w0:World,w0=((((w.alloc (.cells #[.int .i64 num,.int .i64 most,.int .i64 epoch,.int .i64 size,.bool shut,.slice al ln cl,.slice ad dn cd] 43)).alloc (.cells #[.int .i64 1,.int .i64 m,.int .u64 key,.int .u32 cookie,.bool gone,.slice xa xn xc] 53)).alloc (.cells #[.int .i64 0,.int .i64 0,.int .i64 0,.int .i64 0,.bool false,.slice none 0 0,.slice none 0 0] 43)).alloc (.cells #[.int .u64 0,.int .u32 0,.bool false,.slice none 0 0] 49)).alloc (.cells #[.int .u64 0,.int .u32 0,.bool false,.slice none 0 0] 49):=⟨_,rfl⟩
 have HB0:=Hd (show Below w.heap.size w w0 by rw [hw0];exact belo)
 have KV0:=Hd (show w0.heap[w.heap.size]? = some (.cells #[.int .i64 num,.int .i64 most,.int .i64 epoch,.int .i64 size,.bool shut,.slice al ln cl,.slice ad dn cd] 43 (0,0)) by rw [hw0];exact blk_alloc (blk_alloc (blk_alloc (blk_alloc (heap_new w _) _) _) _) _)
 have KA0:=Hd (show w0.heap[w.heap.size+1]? = some (.cells #[.int .i64 1,.int .i64 m,.int .u64 key,.int .u32 cookie,.bool gone,.slice xa xn xc] 53 (0,0)) by rw [hw0];exact blk_alloc (blk_alloc (blk_alloc (blk_new _ (by simp)) _) _) _)
 have KR0:=Hd (show w0.heap[w.heap.size+2]? = some (.cells #[.int .i64 0,.int .i64 0,.int .i64 0,.int .i64 0,.bool false,.slice none 0 0,.slice none 0 0] 43 (0,0)) by rw [hw0];exact blk_alloc (blk_alloc (blk_new _ (by simp)) _) _)
 have KN0:=Hd (show w0.heap[w.heap.size+3]? = some (.cells #[.int .u64 0,.int .u32 0,.bool false,.slice none 0 0] 49 (0,0)) by rw [hw0];exact blk_alloc (blk_new _ (by simp)) _)
 have KE0:=Hd (show w0.heap[w.heap.size+4]? = some (.cells #[.int .u64 0,.int .u32 0,.bool false,.slice none 0 0] 49 (0,0)) by rw [hw0];exact blk_new _ (by simp))
 rw [←hw0,show w.heap.size+1+1=w.heap.size+2 from rfl,show w.heap.size+2+1=w.heap.size+3 from rfl,show w.heap.size+3+1=w.heap.size+4 from rfl]
 clear hw0
 have hz0:=HB0.out.size
 obtain ⟨v0,v1,v2,v3,v4,v5,v6⟩:=cells7' KV0.out
 obtain ⟨a0,a1,a2,a3,a4,a5⟩:=acells KA0.out
 have hl0:=blk_lt KE0.out
 go_wp2_with fail
 refine (HCALL.out w0 HB0.out).mono ?_
 rintro e w1 ⟨val,rfl,hin,hb⟩
 obtain ⟨N2,W2⟩:=R
 have hin0:=hin
 obtain ⟨al2,cl2,ad2,cd2,xs2,rfl,-⟩:=hin0
 have HIN:=Hd hin
 clear hin
 obtain ⟨num2,most2,epoch2,size2,shut2,l2,dd2⟩:=W2
 unfold rvV at HIN ⊢
 simp only at HIN ⊢
 obtain ⟨ln2,hln2⟩:∃ ln2,ln2=l2.length:=⟨_,rfl⟩
 obtain ⟨dn2,hdn2⟩:∃ dn2,dn2=dd2.length:=⟨_,rfl⟩
 rw [←hln2,←hdn2] at HIN ⊢
 clear hln2 hdn2 v0 v1 v2 v3 v4 v5 v6 a0 a1 a2 a3 a4 a5
 have hz1:=hb.size
 obtain ⟨w2,hw2⟩:∃ w2:World,w2=w1.alloc (.cells #[.int .i64 num2,.int .i64 most2,.int .i64 epoch2,.int .i64 size2,.bool shut2,.slice al2 ln2 cl2,.slice ad2 dn2 cd2] 43):=⟨_,rfl⟩
 have HB2:=Hd (show Below w.heap.size w w2 by rw [hw2];exact (HB0.out.trans (hb.mono hz0)).alloc (by omega) _)
 have KR2:=Hd (show w2.heap[w.heap.size+2]? = some (.cells #[.int .i64 0,.int .i64 0,.int .i64 0,.int .i64 0,.bool false,.slice none 0 0,.slice none 0 0] 43 (0,0)) by rw [hw2];exact blk_alloc (blk_below' KR0.out hb) _)
 have KN2:=Hd (show w2.heap[w.heap.size+3]? = some (.cells #[.int .u64 0,.int .u32 0,.bool false,.slice none 0 0] 49 (0,0)) by rw [hw2];exact blk_alloc (blk_below' KN0.out hb) _)
 have KE2:=Hd (show w2.heap[w.heap.size+4]? = some (.cells #[.int .u64 0,.int .u32 0,.bool false,.slice none 0 0] 49 (0,0)) by rw [hw2];exact blk_alloc (blk_below' KE0.out hb) _)
 have KT2:=Hd (show w2.heap[w1.heap.size]? = some (.cells #[.int .i64 num2,.int .i64 most2,.int .i64 epoch2,.int .i64 size2,.bool shut2,.slice al2 ln2 cl2,.slice ad2 dn2 cd2] 43 (0,0)) by rw [hw2];exact heap_new w1 _)
 have hk2:Keeps (fun k=>k=w.heap.size+2) w1 w2:=by rw [hw2];exact (Keeps.refl _ w1).alloc _
 have HK2:=Hd hk2
 clear hk2 hb
 obtain ⟨t0,t1,t2,t3,t4,t5,t6⟩:=cells7' KT2.out
 obtain ⟨r0,r1,r2,r3,r4,r5,r6⟩:=cells7' KR2.out
 obtain ⟨g0,g1,g2,g3,g4,g5,g6⟩:=free7 KR2.out
 obtain ⟨n0,n1,n2,n3⟩:=ncells KN2.out
 obtain ⟨o0,o1,o2,o3⟩:=nfree KN2.out
 obtain ⟨y0,y1,y2,y3⟩:=ncells KE2.out
 have hle:=blk_lt KE2.out
 have hlr:=blk_lt KR2.out
 have hlk:=blk_lt KN2.out
 go_upto_region 8 with fail
 rw [←hw2]
 clear hw2
 obtain ⟨B,hB⟩:∃ B,B=w1.heap.size:=⟨_,rfl⟩
 have KB:=Hd (show w2.heap[B]? = some (.cells #[.int .i64 num2,.int .i64 most2,.int .i64 epoch2,.int .i64 size2,.bool shut2,.slice al2 ln2 cl2,.slice ad2 dn2 cd2] 43 (0,0)) by rw [hB];exact KT2.out)
 have KB2:=Hd (show w2.heap[w1.heap.size]? = some (.cells #[.int .i64 num2,.int .i64 most2,.int .i64 epoch2,.int .i64 size2,.bool shut2,.slice al2 ln2 cl2,.slice ad2 dn2 cd2] 43 (0,0)) from KT2.out)
 have hBl:=blk_lt KB.out
 have hBn:B≠w.heap.size+2:=by omega
 obtain ⟨SS,HSD⟩:∃ SS:World→Prop,Hid (SS=fun w'=>w'.heap[w.heap.size+4]? = some (.cells #[.int .u64 0,.int .u32 0,.bool false,.slice none 0 0] 49 (0,0))∧w'.heap[w1.heap.size]? = some (.cells #[.int .i64 num2,.int .i64 most2,.int .i64 epoch2,.int .i64 size2,.bool shut2,.slice al2 ln2 cl2,.slice ad2 dn2 cd2] 43 (0,0))):=⟨_,Hd rfl⟩
 refine wp_region_order0 SS [0,1] [(0,2),(1,2),(2,0),(3,1),(4,1),(5,0),(6,0)] (by kernel_rfl) (by kernel_rfl) rfl (by kernel_rfl) ?_ ?_
 (focus (rw [HSD.out];exact ⟨KE2.out,hB ▸ KB.out⟩));refine stepE2 rfl rfl ?_ (fun w1 hS=>?_) fun K hK=>?_;rotate_left;(focus (rw [HSD.out] at hS;obtain ⟨hS1,hS2⟩:=hS;obtain ⟨z0,z1,z2,z3⟩:=ncells hS1;obtain ⟨z4,z5,z6,z7,z8,z9,z10⟩:=cells7' hS2;go_simp;rfl));go_simp;refine hK _ ?_;clear hK K;refine stepE2 rfl rfl ?_ (fun w1 hS=>?_) fun K hK=>?_;rotate_left;(focus (rw [HSD.out] at hS;obtain ⟨hS1,hS2⟩:=hS;obtain ⟨z0,z1,z2,z3⟩:=ncells hS1;obtain ⟨z4,z5,z6,z7,z8,z9,z10⟩:=cells7' hS2;go_simp;rfl));go_simp;refine hK _ ?_;clear hK K;refine stepE0 rfl rfl fun K hK=>?_;go_simp;refine hK _ ?_;clear hK K;refine stepE1S rfl rfl fun K hK=>?_;go_wp2
 refine ⟨by rw [HSD.out];exact ((by show _∧_;exact ⟨set7_drew KE2.out (by omega),set7_drew KB2.out (by omega)⟩)),?_⟩
 refine stepE1 rfl rfl (by kernel_rfl) fun K hK=>?_;go_wp2;(iterate 2 refine stepE0 rfl rfl fun K hK=>?_;go_simp;refine hK _ ?_;clear hK K)
 try refine stepEnil0 ?_
 clear HSD SS
 go_wp2
 obtain ⟨w3,hw3⟩:∃ w3,w3=set7i w2 (w.heap.size+2) (.int .i64 num2) (.int .i64 most2) (.int .i64 epoch2) (.int .i64 size2) (.bool shut2) (.slice al2 ln2 cl2) (.slice ad2 dn2 cd2):=⟨_,rfl⟩
 have hb3:=set7i_below (w:=w2) (B:=w.heap.size) (b:=w.heap.size+2) (by omega) (.int .i64 num2) (.int .i64 most2) (.int .i64 epoch2) (.int .i64 size2) (.bool shut2) (.slice al2 ln2 cl2) (.slice ad2 dn2 cd2)
 have k3:=store7i (KR2.out) (.int .i64 num2) (.int .i64 most2) (.int .i64 epoch2) (.int .i64 size2) (.bool shut2) (.slice al2 ln2 cl2) (.slice ad2 dn2 cd2)
 have hk3:=set7i_keeps w2 (w.heap.size+2) (.int .i64 num2) (.int .i64 most2) (.int .i64 epoch2) (.int .i64 size2) (.bool shut2) (.slice al2 ln2 cl2) (.slice ad2 dn2 cd2)
 have n3:w3.heap[w.heap.size+3]? = some (.cells #[.int .u64 0,.int .u32 0,.bool false,.slice none 0 0] 49 (0,0)):=by rw [hw3];exact (hk3.block _ hlk (by omega)).trans KN2.out
 rw [←hw3] at hb3 k3 hk3
 obtain ⟨w4,hw4⟩:∃ w4,w4=set4 w3 (w.heap.size+3) (.int .u64 0) (.int .u32 0) (.bool false) (.slice none 0 0):=⟨_,rfl⟩
 have hb4:=set4_below (w:=w3) (B:=w.heap.size) (b:=w.heap.size+3) (by omega) (.int .u64 0) (.int .u32 0) (.bool false) (.slice none 0 0)
 have k4:=store4 n3 (.int .u64 0) (.int .u32 0) (.bool false) (.slice none 0 0)
 have hk4:=set4_keeps w3 (w.heap.size+3) (.int .u64 0) (.int .u32 0) (.bool false) (.slice none 0 0)
 have k34:w4.heap[w.heap.size+2]? = _:=hw4 ▸ (hk4.block _ (blk_lt k3) (by omega)).trans k3
 rw [←hw4] at hb4 k4 hk4
 have HBX:=Hd ((HB2.out.trans hb3).trans hb4)
 unfold set7i at hw3
 unfold set4 at hw4
 rw [hw3] at hw4
 rw [←hw4]
 clear hw3 hw4 hb3 hb4
 obtain ⟨s0,s1,s2,s3,s4,s5,s6⟩:=cells7' (blk_drew k34)
 obtain ⟨m0,m1,m2,m3⟩:=ncells (blk_drew k4)
 refine bodyPost_ret (v:=?_) ?_ rfl ?_
 rotate_left;(focus (simp [results,Tryz.results17,go_sem,s0,s1,s2,s3,s4,s5,s6,m0,m1,m2,m3];exact rfl))
 have hin1:=HIN.out.ret2 (w:=w) (wf:=w4.drew) (by omega) (by omega) (by omega) (by omega) HK2.out hk3 hk4
 exact ⟨_,_,_,none,rfl,hin1,HBX.out.drew,rfl,rfl,(fun x e=>by cases e),reads_none _ _⟩
theorem rdo4(P:Nat→Prop)(v:Rv)(al:Option Addr)(cl:Nat)(ad:Option Addr)(cd:Nat)(xs:List NdE)(m:Int)(x:NdE)(w:World)(h:RvAt w P v al cl ad cd xs)(hx:NdP w P x)(hdl:x.n.data.length≤1000000000)(hs:IxS v.l)(hz:v.size≤1000000000)(hm:v.most≤1000000000)(hf:v.l.length≤4096)(hdn:v.d.length≤1000000) :
  Calls Tryz.prog 17 #[rvV v al cl ad cd,.agg #[.int .i64 4,.int .i64 m,.int .u64 x.n.key,.int .u32 x.n.cookie,.bool x.n.gone,.slice x.a x.n.data.length x.c]] w (DoTo w P (v.set m x.n.gone) none []):=by
 have HCALL:=Hd (fun (w0:World) (hb:Below w.heap.size w w0)=>rset_any (POld P w) v al cl ad cd xs m x.n.gone w0 (h.old hb))
 have HO:=Hd (fun (w':World) (hb:Below w.heap.size w w')=>h.out' hb)
 obtain ⟨R,hR⟩:∃ R,R=v.set m x.n.gone:=⟨_,rfl⟩
 rw [←hR] at HCALL ⊢
 clear hR
 obtain ⟨⟨key,cookie,gone,data⟩,xa,xc⟩:=x
 obtain ⟨num,most,epoch,size,shut,l,dd⟩:=v
 unfold rvV at HCALL HO ⊢
 simp only at HCALL HO ⊢
 obtain ⟨ln,hln⟩:∃ ln,ln=l.length:=⟨_,rfl⟩
 obtain ⟨dn,hdn2⟩:∃ dn,dn=dd.length:=⟨_,rfl⟩
 obtain ⟨xn,hxn⟩:∃ xn,xn=data.length:=⟨_,rfl⟩
 rw [←hln,←hdn2] at HCALL HO ⊢
 rw [←hxn]
 clear h hln hdn2 hx hxn
 go_enter Tryz.func17,Tryz.ntmps17
 go_upto_region 2 with fail
 obtain ⟨w0,hw0⟩:∃ w0:World,w0=((((w.alloc (.cells #[.int .i64 num,.int .i64 most,.int .i64 epoch,.int .i64 size,.bool shut,.slice al ln cl,.slice ad dn cd] 43)).alloc (.cells #[.int .i64 4,.int .i64 m,.int .u64 key,.int .u32 cookie,.bool gone,.slice xa xn xc] 53)).alloc (.cells #[.int .i64 0,.int .i64 0,.int .i64 0,.int .i64 0,.bool false,.slice none 0 0,.slice none 0 0] 43)).alloc (.cells #[.int .u64 0,.int .u32 0,.bool false,.slice none 0 0] 49)).alloc (.cells #[.int .u64 0,.int .u32 0,.bool false,.slice none 0 0] 49):=⟨_,rfl⟩
 have HB0:=Hd (show Below w.heap.size w w0 by rw [hw0];exact belo)
 have KV0:=Hd (show w0.heap[w.heap.size]? = some (.cells #[.int .i64 num,.int .i64 most,.int .i64 epoch,.int .i64 size,.bool shut,.slice al ln cl,.slice ad dn cd] 43 (0,0)) by rw [hw0];exact blk_alloc (blk_alloc (blk_alloc (blk_alloc (heap_new w _) _) _) _) _)
 have KA0:=Hd (show w0.heap[w.heap.size+1]? = some (.cells #[.int .i64 4,.int .i64 m,.int .u64 key,.int .u32 cookie,.bool gone,.slice xa xn xc] 53 (0,0)) by rw [hw0];exact blk_alloc (blk_alloc (blk_alloc (blk_new _ (by simp)) _) _) _)
 have KR0:=Hd (show w0.heap[w.heap.size+2]? = some (.cells #[.int .i64 0,.int .i64 0,.int .i64 0,.int .i64 0,.bool false,.slice none 0 0,.slice none 0 0] 43 (0,0)) by rw [hw0];exact blk_alloc (blk_alloc (blk_new _ (by simp)) _) _)
 have KN0:=Hd (show w0.heap[w.heap.size+3]? = some (.cells #[.int .u64 0,.int .u32 0,.bool false,.slice none 0 0] 49 (0,0)) by rw [hw0];exact blk_alloc (blk_new _ (by simp)) _)
 have KE0:=Hd (show w0.heap[w.heap.size+4]? = some (.cells #[.int .u64 0,.int .u32 0,.bool false,.slice none 0 0] 49 (0,0)) by rw [hw0];exact blk_new _ (by simp))
 rw [←hw0,show w.heap.size+1+1=w.heap.size+2 from rfl,show w.heap.size+2+1=w.heap.size+3 from rfl,show w.heap.size+3+1=w.heap.size+4 from rfl]
 clear hw0
 have hz0:=HB0.out.size
 obtain ⟨v0,v1,v2,v3,v4,v5,v6⟩:=cells7' KV0.out
 obtain ⟨a0,a1,a2,a3,a4,a5⟩:=acells KA0.out
 have hl0:=blk_lt KE0.out
 go_wp2_with fail
 refine (HCALL.out w0 HB0.out).mono ?_
 rintro e w1 ⟨val,rfl,hin,hb⟩
 obtain ⟨N2,W2⟩:=R
 have hin0:=hin
 obtain ⟨al2,cl2,ad2,cd2,xs2,rfl,-⟩:=hin0
 have HIN:=Hd hin
 clear hin
 obtain ⟨num2,most2,epoch2,size2,shut2,l2,dd2⟩:=W2
 unfold rvV at HIN ⊢
 simp only at HIN ⊢
 obtain ⟨ln2,hln2⟩:∃ ln2,ln2=l2.length:=⟨_,rfl⟩
 obtain ⟨dn2,hdn2⟩:∃ dn2,dn2=dd2.length:=⟨_,rfl⟩
 rw [←hln2,←hdn2] at HIN ⊢
 clear hln2 hdn2 v0 v1 v2 v3 v4 v5 v6 a0 a1 a2 a3 a4 a5
 have hz1:=hb.size
 obtain ⟨w2,hw2⟩:∃ w2:World,w2=w1.alloc (.cells #[.int .i64 num2,.int .i64 most2,.int .i64 epoch2,.int .i64 size2,.bool shut2,.slice al2 ln2 cl2,.slice ad2 dn2 cd2] 43):=⟨_,rfl⟩
 have HB2:=Hd (show Below w.heap.size w w2 by rw [hw2];exact (HB0.out.trans (hb.mono hz0)).alloc (by omega) _)
 have KR2:=Hd (show w2.heap[w.heap.size+2]? = some (.cells #[.int .i64 0,.int .i64 0,.int .i64 0,.int .i64 0,.bool false,.slice none 0 0,.slice none 0 0] 43 (0,0)) by rw [hw2];exact blk_alloc (blk_below' KR0.out hb) _)
 have KN2:=Hd (show w2.heap[w.heap.size+3]? = some (.cells #[.int .u64 0,.int .u32 0,.bool false,.slice none 0 0] 49 (0,0)) by rw [hw2];exact blk_alloc (blk_below' KN0.out hb) _)
 have KE2:=Hd (show w2.heap[w.heap.size+4]? = some (.cells #[.int .u64 0,.int .u32 0,.bool false,.slice none 0 0] 49 (0,0)) by rw [hw2];exact blk_alloc (blk_below' KE0.out hb) _)
 have KT2:=Hd (show w2.heap[w1.heap.size]? = some (.cells #[.int .i64 num2,.int .i64 most2,.int .i64 epoch2,.int .i64 size2,.bool shut2,.slice al2 ln2 cl2,.slice ad2 dn2 cd2] 43 (0,0)) by rw [hw2];exact heap_new w1 _)
 have hk2:Keeps (fun k=>k=w.heap.size+2) w1 w2:=by rw [hw2];exact (Keeps.refl _ w1).alloc _
 have HK2:=Hd hk2
 clear hk2 hb
 obtain ⟨t0,t1,t2,t3,t4,t5,t6⟩:=cells7' KT2.out
 obtain ⟨r0,r1,r2,r3,r4,r5,r6⟩:=cells7' KR2.out
 obtain ⟨g0,g1,g2,g3,g4,g5,g6⟩:=free7 KR2.out
 obtain ⟨n0,n1,n2,n3⟩:=ncells KN2.out
 obtain ⟨o0,o1,o2,o3⟩:=nfree KN2.out
 obtain ⟨y0,y1,y2,y3⟩:=ncells KE2.out
 have hle:=blk_lt KE2.out
 have hlr:=blk_lt KR2.out
 have hlk:=blk_lt KN2.out
 go_upto_region 25 with fail
 rw [←hw2]
 clear hw2
 obtain ⟨B,hB⟩:∃ B,B=w1.heap.size:=⟨_,rfl⟩
 have KB:=Hd (show w2.heap[B]? = some (.cells #[.int .i64 num2,.int .i64 most2,.int .i64 epoch2,.int .i64 size2,.bool shut2,.slice al2 ln2 cl2,.slice ad2 dn2 cd2] 43 (0,0)) by rw [hB];exact KT2.out)
 have KB2:=Hd (show w2.heap[w1.heap.size]? = some (.cells #[.int .i64 num2,.int .i64 most2,.int .i64 epoch2,.int .i64 size2,.bool shut2,.slice al2 ln2 cl2,.slice ad2 dn2 cd2] 43 (0,0)) from KT2.out)
 have hBl:=blk_lt KB.out
 have hBn:B≠w.heap.size+2:=by omega
 obtain ⟨SS,HSD⟩:∃ SS:World→Prop,Hid (SS=fun w'=>w'.heap[w.heap.size+4]? = some (.cells #[.int .u64 0,.int .u32 0,.bool false,.slice none 0 0] 49 (0,0))∧w'.heap[w1.heap.size]? = some (.cells #[.int .i64 num2,.int .i64 most2,.int .i64 epoch2,.int .i64 size2,.bool shut2,.slice al2 ln2 cl2,.slice ad2 dn2 cd2] 43 (0,0))):=⟨_,Hd rfl⟩
 refine wp_region_order0 SS [0,1] [(0,2),(1,2),(2,0),(3,1),(4,1),(5,0),(6,0)] (by kernel_rfl) (by kernel_rfl) rfl (by kernel_rfl) ?_ ?_
 (focus (rw [HSD.out];exact ⟨KE2.out,hB ▸ KB.out⟩));refine stepE2 rfl rfl ?_ (fun w1 hS=>?_) fun K hK=>?_;rotate_left;(focus (rw [HSD.out] at hS;obtain ⟨hS1,hS2⟩:=hS;obtain ⟨z0,z1,z2,z3⟩:=ncells hS1;obtain ⟨z4,z5,z6,z7,z8,z9,z10⟩:=cells7' hS2;go_simp;rfl));go_simp;refine hK _ ?_;clear hK K;refine stepE2 rfl rfl ?_ (fun w1 hS=>?_) fun K hK=>?_;rotate_left;(focus (rw [HSD.out] at hS;obtain ⟨hS1,hS2⟩:=hS;obtain ⟨z0,z1,z2,z3⟩:=ncells hS1;obtain ⟨z4,z5,z6,z7,z8,z9,z10⟩:=cells7' hS2;go_simp;rfl));go_simp;refine hK _ ?_;clear hK K;refine stepE0 rfl rfl fun K hK=>?_;go_simp;refine hK _ ?_;clear hK K;refine stepE1S rfl rfl fun K hK=>?_;go_wp2
 refine ⟨by rw [HSD.out];exact ((by show _∧_;exact ⟨set7_drew KE2.out (by omega),set7_drew KB2.out (by omega)⟩)),?_⟩
 refine stepE1 rfl rfl (by kernel_rfl) fun K hK=>?_;go_wp2;(iterate 2 refine stepE0 rfl rfl fun K hK=>?_;go_simp;refine hK _ ?_;clear hK K)
 try refine stepEnil0 ?_
 clear HSD SS
 go_wp2
 obtain ⟨w3,hw3⟩:∃ w3,w3=set7i w2 (w.heap.size+2) (.int .i64 num2) (.int .i64 most2) (.int .i64 epoch2) (.int .i64 size2) (.bool shut2) (.slice al2 ln2 cl2) (.slice ad2 dn2 cd2):=⟨_,rfl⟩
 have hb3:=set7i_below (w:=w2) (B:=w.heap.size) (b:=w.heap.size+2) (by omega) (.int .i64 num2) (.int .i64 most2) (.int .i64 epoch2) (.int .i64 size2) (.bool shut2) (.slice al2 ln2 cl2) (.slice ad2 dn2 cd2)
 have k3:=store7i (KR2.out) (.int .i64 num2) (.int .i64 most2) (.int .i64 epoch2) (.int .i64 size2) (.bool shut2) (.slice al2 ln2 cl2) (.slice ad2 dn2 cd2)
 have hk3:=set7i_keeps w2 (w.heap.size+2) (.int .i64 num2) (.int .i64 most2) (.int .i64 epoch2) (.int .i64 size2) (.bool shut2) (.slice al2 ln2 cl2) (.slice ad2 dn2 cd2)
 have n3:w3.heap[w.heap.size+3]? = some (.cells #[.int .u64 0,.int .u32 0,.bool false,.slice none 0 0] 49 (0,0)):=by rw [hw3];exact (hk3.block _ hlk (by omega)).trans KN2.out
 rw [←hw3] at hb3 k3 hk3
 obtain ⟨w4,hw4⟩:∃ w4,w4=set4 w3 (w.heap.size+3) (.int .u64 0) (.int .u32 0) (.bool false) (.slice none 0 0):=⟨_,rfl⟩
 have hb4:=set4_below (w:=w3) (B:=w.heap.size) (b:=w.heap.size+3) (by omega) (.int .u64 0) (.int .u32 0) (.bool false) (.slice none 0 0)
 have k4:=store4 n3 (.int .u64 0) (.int .u32 0) (.bool false) (.slice none 0 0)
 have hk4:=set4_keeps w3 (w.heap.size+3) (.int .u64 0) (.int .u32 0) (.bool false) (.slice none 0 0)
 have k34:w4.heap[w.heap.size+2]? = _:=hw4 ▸ (hk4.block _ (blk_lt k3) (by omega)).trans k3
 rw [←hw4] at hb4 k4 hk4
 have HBX:=Hd ((HB2.out.trans hb3).trans hb4)
 unfold set7i at hw3
 unfold set4 at hw4
 rw [hw3] at hw4
 rw [←hw4]
 clear hw3 hw4 hb3 hb4
 obtain ⟨s0,s1,s2,s3,s4,s5,s6⟩:=cells7' (blk_drew k34)
 obtain ⟨m0,m1,m2,m3⟩:=ncells (blk_drew k4)
 refine bodyPost_ret (v:=?_) ?_ rfl ?_
 rotate_left;(focus (simp [results,Tryz.results17,go_sem,s0,s1,s2,s3,s4,s5,s6,m0,m1,m2,m3];exact rfl))
 have hin1:=HIN.out.ret2 (w:=w) (wf:=w4.drew) (by omega) (by omega) (by omega) (by omega) HK2.out hk3 hk4
 exact ⟨_,_,_,none,rfl,hin1,HBX.out.drew,rfl,rfl,(fun x e=>by cases e),reads_none _ _⟩
theorem rdoE(P:Nat→Prop)(v:Rv)(al:Option Addr)(cl:Nat)(ad:Option Addr)(cd:Nat)(xs:List NdE)(kd m:Int)(x:NdE)(w:World)(hk0:kd≠0)(hk1:kd≠1)(hk2:kd≠2)(hk3:kd≠3)(hk4:kd≠4)(h:RvAt w P v al cl ad cd xs)(hx:NdP w P x)(hdl:x.n.data.length≤1000000000)(hs:IxS v.l)(hz:v.size≤1000000000)(hm:v.most≤1000000000)(hf:v.l.length≤4096)(hdn:v.d.length≤1000000) :
  Calls Tryz.prog 17 #[rvV v al cl ad cd,.agg #[.int .i64 kd,.int .i64 m,.int .u64 x.n.key,.int .u32 x.n.cookie,.bool x.n.gone,.slice x.a x.n.data.length x.c]] w (DoTo w P ((0,v)) none []):=by
 have HO:=Hd (fun (w':World) (hb:Below w.heap.size w w')=>h.out' hb)
 obtain ⟨⟨key,cookie,gone,data⟩,xa,xc⟩:=x
 obtain ⟨num,most,epoch,size,shut,l,dd⟩:=v
 unfold rvV at HO ⊢
 simp only at HO ⊢
 obtain ⟨ln,hln⟩:∃ ln,ln=l.length:=⟨_,rfl⟩
 obtain ⟨dn,hdn2⟩:∃ dn,dn=dd.length:=⟨_,rfl⟩
 obtain ⟨xn,hxn⟩:∃ xn,xn=data.length:=⟨_,rfl⟩
 rw [←hln,←hdn2] at HO ⊢
 rw [←hxn]
 clear h hln hdn2 hx hxn
 have e0:(kd == 0)=false:=by simp;omega
 have f0:decide (kd=0)=false:=by simp;omega
 have e1:(kd == 1)=false:=by simp;omega
 have f1:decide (kd=1)=false:=by simp;omega
 have e2:(kd == 2)=false:=by simp;omega
 have f2:decide (kd=2)=false:=by simp;omega
 have e3:(kd == 3)=false:=by simp;omega
 have f3:decide (kd=3)=false:=by simp;omega
 have e4:(kd == 4)=false:=by simp;omega
 have f4:decide (kd=4)=false:=by simp;omega
 clear hk0 hk1 hk2 hk3 hk4
 go_enter Tryz.func17,Tryz.ntmps17
 go_upto_region 2 with fail
 obtain ⟨w0,hw0⟩:∃ w0:World,w0=((((w.alloc (.cells #[.int .i64 num,.int .i64 most,.int .i64 epoch,.int .i64 size,.bool shut,.slice al ln cl,.slice ad dn cd] 43)).alloc (.cells #[.int .i64 kd,.int .i64 m,.int .u64 key,.int .u32 cookie,.bool gone,.slice xa xn xc] 53)).alloc (.cells #[.int .i64 0,.int .i64 0,.int .i64 0,.int .i64 0,.bool false,.slice none 0 0,.slice none 0 0] 43)).alloc (.cells #[.int .u64 0,.int .u32 0,.bool false,.slice none 0 0] 49)).alloc (.cells #[.int .u64 0,.int .u32 0,.bool false,.slice none 0 0] 49):=⟨_,rfl⟩
 have HB0:=Hd (show Below w.heap.size w w0 by rw [hw0];exact belo)
 have KV0:=Hd (show w0.heap[w.heap.size]? = some (.cells #[.int .i64 num,.int .i64 most,.int .i64 epoch,.int .i64 size,.bool shut,.slice al ln cl,.slice ad dn cd] 43 (0,0)) by rw [hw0];exact blk_alloc (blk_alloc (blk_alloc (blk_alloc (heap_new w _) _) _) _) _)
 have KA0:=Hd (show w0.heap[w.heap.size+1]? = some (.cells #[.int .i64 kd,.int .i64 m,.int .u64 key,.int .u32 cookie,.bool gone,.slice xa xn xc] 53 (0,0)) by rw [hw0];exact blk_alloc (blk_alloc (blk_alloc (blk_new _ (by simp)) _) _) _)
 have KR0:=Hd (show w0.heap[w.heap.size+2]? = some (.cells #[.int .i64 0,.int .i64 0,.int .i64 0,.int .i64 0,.bool false,.slice none 0 0,.slice none 0 0] 43 (0,0)) by rw [hw0];exact blk_alloc (blk_alloc (blk_new _ (by simp)) _) _)
 have KN0:=Hd (show w0.heap[w.heap.size+3]? = some (.cells #[.int .u64 0,.int .u32 0,.bool false,.slice none 0 0] 49 (0,0)) by rw [hw0];exact blk_alloc (blk_new _ (by simp)) _)
 have KE0:=Hd (show w0.heap[w.heap.size+4]? = some (.cells #[.int .u64 0,.int .u32 0,.bool false,.slice none 0 0] 49 (0,0)) by rw [hw0];exact blk_new _ (by simp))
 rw [←hw0,show w.heap.size+1+1=w.heap.size+2 from rfl,show w.heap.size+2+1=w.heap.size+3 from rfl,show w.heap.size+3+1=w.heap.size+4 from rfl]
 clear hw0
 have hz0:=HB0.out.size
 obtain ⟨v0,v1,v2,v3,v4,v5,v6⟩:=cells7' KV0.out
 obtain ⟨a0,a1,a2,a3,a4,a5⟩:=acells KA0.out
 have hl0:=blk_lt KE0.out
 obtain ⟨r0,r1,r2,r3,r4,r5,r6⟩:=cells7' KR0.out
 obtain ⟨g0,g1,g2,g3,g4,g5,g6⟩:=free7 KR0.out
 obtain ⟨n0,n1,n2,n3⟩:=ncells KN0.out
 obtain ⟨o0,o1,o2,o3⟩:=nfree KN0.out
 obtain ⟨y0,y1,y2,y3⟩:=ncells KE0.out
 have hle:=blk_lt KE0.out
 have hlr:=blk_lt KR0.out
 have hlk:=blk_lt KN0.out
 go_upto_region 26 with fail
 obtain ⟨B,hB⟩:∃ B,B=w.heap.size:=⟨_,rfl⟩
 have KB:=Hd (show w0.heap[B]? = some (.cells #[.int .i64 num,.int .i64 most,.int .i64 epoch,.int .i64 size,.bool shut,.slice al ln cl,.slice ad dn cd] 43 (0,0)) by rw [hB];exact KV0.out)
 have KB2:=Hd (show w0.heap[w.heap.size]? = some (.cells #[.int .i64 num,.int .i64 most,.int .i64 epoch,.int .i64 size,.bool shut,.slice al ln cl,.slice ad dn cd] 43 (0,0)) from KV0.out)
 have hBl:=blk_lt KB.out
 have hBn:B≠w.heap.size+2:=by omega
 obtain ⟨SS,HSD⟩:∃ SS:World→Prop,Hid (SS=fun w'=>w'.heap[w.heap.size+4]? = some (.cells #[.int .u64 0,.int .u32 0,.bool false,.slice none 0 0] 49 (0,0))∧w'.heap[w.heap.size]? = some (.cells #[.int .i64 num,.int .i64 most,.int .i64 epoch,.int .i64 size,.bool shut,.slice al ln cl,.slice ad dn cd] 43 (0,0))):=⟨_,Hd rfl⟩
 refine wp_region_order0 SS [0,1] [(0,2),(1,2),(2,1),(3,1),(4,0),(5,0)] (by kernel_rfl) (by kernel_rfl) rfl (by kernel_rfl) ?_ ?_
 (focus (rw [HSD.out];exact ⟨KE0.out,hB ▸ KB.out⟩));refine stepE2 rfl rfl ?_ (fun w1 hS=>?_) fun K hK=>?_;rotate_left;(focus (rw [HSD.out] at hS;obtain ⟨hS1,hS2⟩:=hS;obtain ⟨z0,z1,z2,z3⟩:=ncells hS1;obtain ⟨z4,z5,z6,z7,z8,z9,z10⟩:=cells7' hS2;go_simp;rfl));go_simp;refine hK _ ?_;clear hK K;refine stepE2 rfl rfl ?_ (fun w1 hS=>?_) fun K hK=>?_;rotate_left;(focus (rw [HSD.out] at hS;obtain ⟨hS1,hS2⟩:=hS;obtain ⟨z0,z1,z2,z3⟩:=ncells hS1;obtain ⟨z4,z5,z6,z7,z8,z9,z10⟩:=cells7' hS2;go_simp;rfl));go_simp;refine hK _ ?_;clear hK K;refine stepE1S rfl rfl fun K hK=>?_;go_wp2
 refine ⟨by rw [HSD.out];exact ((by show _∧_;exact ⟨set7_drew KE0.out (by omega),set7_drew KB2.out (by omega)⟩)),?_⟩
 refine stepE1 rfl rfl (by kernel_rfl) fun K hK=>?_;go_wp2;(iterate 2 refine stepE0 rfl rfl fun K hK=>?_;go_simp;refine hK _ ?_;clear hK K)
 try refine stepEnil0 ?_
 clear HSD SS
 go_wp2
 obtain ⟨w3,hw3⟩:∃ w3,w3=set7i w0 (w.heap.size+2) (.int .i64 num) (.int .i64 most) (.int .i64 epoch) (.int .i64 size) (.bool shut) (.slice al ln cl) (.slice ad dn cd):=⟨_,rfl⟩
 have hb3:=set7i_below (w:=w0) (B:=w.heap.size) (b:=w.heap.size+2) (by omega) (.int .i64 num) (.int .i64 most) (.int .i64 epoch) (.int .i64 size) (.bool shut) (.slice al ln cl) (.slice ad dn cd)
 have k3:=store7i (KR0.out) (.int .i64 num) (.int .i64 most) (.int .i64 epoch) (.int .i64 size) (.bool shut) (.slice al ln cl) (.slice ad dn cd)
 have hk3:=set7i_keeps w0 (w.heap.size+2) (.int .i64 num) (.int .i64 most) (.int .i64 epoch) (.int .i64 size) (.bool shut) (.slice al ln cl) (.slice ad dn cd)
 have n3:w3.heap[w.heap.size+3]? = some (.cells #[.int .u64 0,.int .u32 0,.bool false,.slice none 0 0] 49 (0,0)):=by rw [hw3];exact (hk3.block _ hlk (by omega)).trans KN0.out
 rw [←hw3] at hb3 k3 hk3
 obtain ⟨w4,hw4⟩:∃ w4,w4=set4 w3 (w.heap.size+3) (.int .u64 0) (.int .u32 0) (.bool false) (.slice none 0 0):=⟨_,rfl⟩
 have hb4:=set4_below (w:=w3) (B:=w.heap.size) (b:=w.heap.size+3) (by omega) (.int .u64 0) (.int .u32 0) (.bool false) (.slice none 0 0)
 have k4:=store4 n3 (.int .u64 0) (.int .u32 0) (.bool false) (.slice none 0 0)
 have hk4:=set4_keeps w3 (w.heap.size+3) (.int .u64 0) (.int .u32 0) (.bool false) (.slice none 0 0)
 have k34:w4.heap[w.heap.size+2]? = _:=hw4 ▸ (hk4.block _ (blk_lt k3) (by omega)).trans k3
 rw [←hw4] at hb4 k4 hk4
 have HBX:=Hd ((HB0.out.trans hb3).trans hb4)
 unfold set7i at hw3
 unfold set4 at hw4
 rw [hw3] at hw4
 rw [←hw4]
 clear hw3 hw4 hb3 hb4
 obtain ⟨s0,s1,s2,s3,s4,s5,s6⟩:=cells7' (blk_drew k34)
 obtain ⟨m0,m1,m2,m3⟩:=ncells (blk_drew k4)
 refine bodyPost_ret (v:=?_) ?_ rfl ?_
 rotate_left;(focus (simp [results,Tryz.results17,go_sem,s0,s1,s2,s3,s4,s5,s6,m0,m1,m2,m3];exact rfl))
 exact ⟨_,_,_,none,rfl,HO.out _ HBX.out.drew,HBX.out.drew,rfl,rfl,(fun x e=>by cases e),reads_none _ _⟩
theorem rdo2(P:Nat→Prop)(v:Rv)(al:Option Addr)(cl:Nat)(ad:Option Addr)(cd:Nat)(xs:List NdE)(m:Int)(x:NdE)(w:World)(h:RvAt w P v al cl ad cd xs) :
  Calls Tryz.prog 17 #[rvV v al cl ad cd,.agg #[.int .i64 2,.int .i64 m,.int .u64 x.n.key,.int .u32 x.n.cookie,.bool x.n.gone,.slice x.a x.n.data.length x.c]] w (DoTo w P (v.look x.n.key x.n.cookie,v) (if v.look x.n.key x.n.cookie=0 then lastOf v.d x.n.key else none) []):=by
 have HLK:=Hd (fun (w0:World) (hb:Below w.heap.size w w0)=>rlook_any P v al cl ad cd xs x.n.key x.n.cookie w0 (h.kp (KP.of hb)))
 have HNW:=Hd (fun (w0:World) (hb:Below w.heap.size w w0)=>rnewest_any v.num v.most v.epoch v.size v.shut (.slice al v.l.length cl) ad v.d.length cd xs x.n.key w0 h.rd.len (h.rd.row.below hb) ⟨_,_,_,rfl⟩)
 have HO:=Hd (fun (w':World) (hb:Below w.heap.size w w')=>h.out' hb)
 have HIN:=Hd (fun (w':World) (hb:Below w.heap.size w w') (y:NdE) (hy:y∈xs)=>(NdP.below (show NdP w P y from h.rd.ins y hy) hb).1)
 have HSM:=Hd (show v.look x.n.key x.n.cookie=0→lastOf v.d x.n.key≠none from fun e0 e1=>by
  unfold Rv.look at e0
  rw [e1] at e0
  cases e0)
 obtain ⟨K,hK⟩:∃ K,K=v.look x.n.key x.n.cookie:=⟨_,rfl⟩
 rw [←hK] at HLK HSM ⊢
 obtain ⟨L,hL⟩:∃ L,L=lastOf v.d x.n.key:=⟨_,rfl⟩
 rw [h.eq,←hL] at HNW
 rw [←hL] at HSM ⊢
 obtain ⟨F,hF⟩:∃ F,F=(if K=0 then L else none):=⟨_,rfl⟩
 rw [←hF]
 have HF:=Hd hF
 clear hK hL hF
 obtain ⟨⟨key,cookie,gone,data⟩,xa,xc⟩:=x
 obtain ⟨num,most,epoch,size,shut,l,dd⟩:=v
 unfold rvV at HLK HO ⊢
 simp only at HLK HNW HO ⊢
 obtain ⟨ln,hln⟩:∃ ln,ln=l.length:=⟨_,rfl⟩
 obtain ⟨dn,hdn2⟩:∃ dn,dn=dd.length:=⟨_,rfl⟩
 obtain ⟨xn,hxn⟩:∃ xn,xn=data.length:=⟨_,rfl⟩
 rw [←hln,←hdn2] at HLK HNW HO ⊢
 rw [←hxn]
 clear h hln hdn2 hxn
 go_enter Tryz.func17,Tryz.ntmps17
 go_upto_region 2 with fail
 obtain ⟨w0,hw0⟩:∃ w0:World,w0=((((w.alloc (.cells #[.int .i64 num,.int .i64 most,.int .i64 epoch,.int .i64 size,.bool shut,.slice al ln cl,.slice ad dn cd] 43)).alloc (.cells #[.int .i64 2,.int .i64 m,.int .u64 key,.int .u32 cookie,.bool gone,.slice xa xn xc] 53)).alloc (.cells #[.int .i64 0,.int .i64 0,.int .i64 0,.int .i64 0,.bool false,.slice none 0 0,.slice none 0 0] 43)).alloc (.cells #[.int .u64 0,.int .u32 0,.bool false,.slice none 0 0] 49)).alloc (.cells #[.int .u64 0,.int .u32 0,.bool false,.slice none 0 0] 49):=⟨_,rfl⟩
 have HB0:=Hd (show Below w.heap.size w w0 by rw [hw0];exact belo)
 have KV0:=Hd (show w0.heap[w.heap.size]? = some (.cells #[.int .i64 num,.int .i64 most,.int .i64 epoch,.int .i64 size,.bool shut,.slice al ln cl,.slice ad dn cd] 43 (0,0)) by rw [hw0];exact blk_alloc (blk_alloc (blk_alloc (blk_alloc (heap_new w _) _) _) _) _)
 have KA0:=Hd (show w0.heap[w.heap.size+1]? = some (.cells #[.int .i64 2,.int .i64 m,.int .u64 key,.int .u32 cookie,.bool gone,.slice xa xn xc] 53 (0,0)) by rw [hw0];exact blk_alloc (blk_alloc (blk_alloc (blk_new _ (by simp)) _) _) _)
 have KR0:=Hd (show w0.heap[w.heap.size+2]? = some (.cells #[.int .i64 0,.int .i64 0,.int .i64 0,.int .i64 0,.bool false,.slice none 0 0,.slice none 0 0] 43 (0,0)) by rw [hw0];exact blk_alloc (blk_alloc (blk_new _ (by simp)) _) _)
 have KN0:=Hd (show w0.heap[w.heap.size+3]? = some (.cells #[.int .u64 0,.int .u32 0,.bool false,.slice none 0 0] 49 (0,0)) by rw [hw0];exact blk_alloc (blk_new _ (by simp)) _)
 have KE0:=Hd (show w0.heap[w.heap.size+4]? = some (.cells #[.int .u64 0,.int .u32 0,.bool false,.slice none 0 0] 49 (0,0)) by rw [hw0];exact blk_new _ (by simp))
 rw [←hw0,show w.heap.size+1+1=w.heap.size+2 from rfl,show w.heap.size+2+1=w.heap.size+3 from rfl,show w.heap.size+3+1=w.heap.size+4 from rfl]
 clear hw0
 have hz0:=HB0.out.size
 obtain ⟨v0,v1,v2,v3,v4,v5,v6⟩:=cells7' KV0.out
 obtain ⟨a0,a1,a2,a3,a4,a5⟩:=acells KA0.out
 have hl0:=blk_lt KE0.out
 go_wp2_with fail
 refine (HLK.out w0 HB0.out).mono ?_
 rintro e w1 ⟨rfl,hb⟩
 have KV1:=Hd (blk_below' KV0.out hb)
 have KA1:=Hd (blk_below' KA0.out hb)
 have KR1:=Hd (blk_below' KR0.out hb)
 have KN1:=Hd (blk_below' KN0.out hb)
 have KE1:=Hd (blk_below' KE0.out hb)
 have HB1:=Hd (HB0.out.trans (hb.mono hz0))
 have hz1:=hb.size
 clear hb v0 v1 v2 v3 v4 v5 v6 a0 a1 a2 a3 a4 a5
 by_cases hk0:K=0
 case neg=>
  have e1:((K:Int) != 0)=true:=by simp;omega
  have HE:=Hd (HF.out.trans (if_neg hk0))
  clear hk0
  obtain ⟨r0,r1,r2,r3,r4,r5,r6⟩:=cells7' KR1.out
  obtain ⟨g0,g1,g2,g3,g4,g5,g6⟩:=free7 KR1.out
  obtain ⟨n0,n1,n2,n3⟩:=ncells KN1.out
  obtain ⟨o0,o1,o2,o3⟩:=nfree KN1.out
  obtain ⟨y0,y1,y2,y3⟩:=ncells KE1.out
  have hle:=blk_lt KE1.out
  have hlr:=blk_lt KR1.out
  have hlk:=blk_lt KN1.out
  go_upto_region 12 with fail
  obtain ⟨SS,HSD⟩:∃ SS:World→Prop,Hid (SS=fun w'=>w'.heap[w.heap.size+4]? = some (.cells #[.int .u64 0,.int .u32 0,.bool false,.slice none 0 0] 49 (0,0))∧w'.heap[w.heap.size]? = some (.cells #[.int .i64 num,.int .i64 most,.int .i64 epoch,.int .i64 size,.bool shut,.slice al ln cl,.slice ad dn cd] 43 (0,0))):=⟨_,Hd rfl⟩
  refine wp_region_order0 SS [0,1] [(0,2),(1,2),(2,0),(3,1),(4,1),(5,0),(6,0)] (by kernel_rfl) (by kernel_rfl) rfl (by kernel_rfl) ?_ ?_
  (focus (rw [HSD.out];exact ⟨KE1.out,KV1.out⟩));refine stepE2 rfl rfl ?_ (fun w1 hS=>?_) fun K hK=>?_;rotate_left;(focus (rw [HSD.out] at hS;obtain ⟨hS1,hS2⟩:=hS;obtain ⟨z0,z1,z2,z3⟩:=ncells hS1;obtain ⟨z4,z5,z6,z7,z8,z9,z10⟩:=cells7' hS2;go_simp;rfl));go_simp;refine hK _ ?_;clear hK K;refine stepE2 rfl rfl ?_ (fun w1 hS=>?_) fun K hK=>?_;rotate_left;(focus (rw [HSD.out] at hS;obtain ⟨hS1,hS2⟩:=hS;obtain ⟨z0,z1,z2,z3⟩:=ncells hS1;obtain ⟨z4,z5,z6,z7,z8,z9,z10⟩:=cells7' hS2;go_simp;rfl));go_simp;refine hK _ ?_;clear hK K;refine stepE0 rfl rfl fun K hK=>?_;go_simp;refine hK _ ?_;clear hK K;refine stepE1S rfl rfl fun K hK=>?_;go_wp2
  refine ⟨by rw [HSD.out];exact ((by show _∧_;exact ⟨set7_drew KE1.out (by omega),set7_drew KV1.out (by omega)⟩)),?_⟩
  refine stepE1 rfl rfl (by kernel_rfl) fun K hK=>?_;go_wp2;(iterate 2 refine stepE0 rfl rfl fun K hK=>?_;go_simp;refine hK _ ?_;clear hK K)
  try refine stepEnil0 ?_
  clear HSD SS
  go_wp2
  obtain ⟨w3,hw3⟩:∃ w3,w3=set7i w1 (w.heap.size+2) (.int .i64 num) (.int .i64 most) (.int .i64 epoch) (.int .i64 size) (.bool shut) (.slice al ln cl) (.slice ad dn cd):=⟨_,rfl⟩
  have hb3:=set7i_below (w:=w1) (B:=w.heap.size) (b:=w.heap.size+2) (by omega) (.int .i64 num) (.int .i64 most) (.int .i64 epoch) (.int .i64 size) (.bool shut) (.slice al ln cl) (.slice ad dn cd)
  have k3:=store7i (KR1.out) (.int .i64 num) (.int .i64 most) (.int .i64 epoch) (.int .i64 size) (.bool shut) (.slice al ln cl) (.slice ad dn cd)
  have hk3:=set7i_keeps w1 (w.heap.size+2) (.int .i64 num) (.int .i64 most) (.int .i64 epoch) (.int .i64 size) (.bool shut) (.slice al ln cl) (.slice ad dn cd)
  have n3:w3.heap[w.heap.size+3]? = some (.cells #[.int .u64 0,.int .u32 0,.bool false,.slice none 0 0] 49 (0,0)):=by rw [hw3];exact (hk3.block _ hlk (by omega)).trans KN1.out
  rw [←hw3] at hb3 k3 hk3
  obtain ⟨w4,hw4⟩:∃ w4,w4=set4 w3 (w.heap.size+3) (.int .u64 0) (.int .u32 0) (.bool false) (.slice none 0 0):=⟨_,rfl⟩
  have hb4:=set4_below (w:=w3) (B:=w.heap.size) (b:=w.heap.size+3) (by omega) (.int .u64 0) (.int .u32 0) (.bool false) (.slice none 0 0)
  have k4:=store4 n3 (.int .u64 0) (.int .u32 0) (.bool false) (.slice none 0 0)
  have hk4:=set4_keeps w3 (w.heap.size+3) (.int .u64 0) (.int .u32 0) (.bool false) (.slice none 0 0)
  have k34:w4.heap[w.heap.size+2]? = _:=hw4 ▸ (hk4.block _ (blk_lt k3) (by omega)).trans k3
  rw [←hw4] at hb4 k4 hk4
  have HBX:=Hd ((HB1.out.trans hb3).trans hb4)
  unfold set7i at hw3
  unfold set4 at hw4
  rw [hw3] at hw4
  rw [←hw4]
  clear hw3 hw4 hb3 hb4
  obtain ⟨s0,s1,s2,s3,s4,s5,s6⟩:=cells7' (blk_drew k34)
  obtain ⟨m0,m1,m2,m3⟩:=ncells (blk_drew k4)
  refine bodyPost_ret (v:=?_) ?_ rfl ?_
  rotate_left;(focus (simp [results,Tryz.results17,go_sem,s0,s1,s2,s3,s4,s5,s6,m0,m1,m2,m3];exact rfl))
  rw [HE.out]
  exact ⟨_,_,_,none,rfl,HO.out _ HBX.out.drew,HBX.out.drew,rfl,rfl,(fun x e=>by cases e),reads_none _ _⟩
 case pos=>
  have e1:((K:Int) != 0)=false:=by simp;omega
  have HE:=Hd (HF.out.trans (if_pos hk0))
  have hsm:=HSM.out hk0
  have HK0:=Hd hk0
  clear hk0
  obtain ⟨v0,v1,v2,v3,v4,v5,v6⟩:=cells7' KV1.out
  obtain ⟨a0,a1,a2,a3,a4,a5⟩:=acells KA1.out
  go_upto_region 13 with fail
  go_wp2_with fail
  refine (HNW.out w1 HB1.out).mono ?_
  rintro e w2 ⟨r,rfl,hr,hrm,hb⟩
  cases r with
  | none=>exact absurd hr.symm hsm
  | some y=>
  have HR:=Hd hr
  have hmem:=hrm y rfl
  have HY:=Hd (fun (w':World) (hb:Below w.heap.size w w')=>HIN.out w' hb y hmem)
  clear hr hrm hmem hsm v0 v1 v2 v3 v4 v5 v6 a0 a1 a2 a3 a4 a5
  obtain ⟨⟨yk,yc,yg,yd⟩,ya,ycp⟩:=y
  unfold ndOV NdE.cs
  simp only [Option.isSome_some]
  have hz2:=hb.size
  have HB1':=Hd (HB1.out.trans (hb.mono HB1.out.size))
  obtain ⟨w5,hw5⟩:∃ w5:World,w5=w2.alloc (.cells #[.int .u64 yk,.int .u32 yc,.bool yg,.slice ya yd.length ycp] 49):=⟨_,rfl⟩
  have HB5:=Hd (show Below w.heap.size w w5 by rw [hw5];exact HB1'.out.alloc HB1'.out.size _)
  have KV5:=Hd (show w5.heap[w.heap.size]? = some (.cells #[.int .i64 num,.int .i64 most,.int .i64 epoch,.int .i64 size,.bool shut,.slice al ln cl,.slice ad dn cd] 43 (0,0)) by rw [hw5];exact blk_alloc (blk_below' KV1.out hb) _)
  have KR5:=Hd (show w5.heap[w.heap.size+2]? = some (.cells #[.int .i64 0,.int .i64 0,.int .i64 0,.int .i64 0,.bool false,.slice none 0 0,.slice none 0 0] 43 (0,0)) by rw [hw5];exact blk_alloc (blk_below' KR1.out hb) _)
  have KN5:=Hd (show w5.heap[w.heap.size+3]? = some (.cells #[.int .u64 0,.int .u32 0,.bool false,.slice none 0 0] 49 (0,0)) by rw [hw5];exact blk_alloc (blk_below' KN1.out hb) _)
  have KY5:=Hd (show w5.heap[w2.heap.size]? = some (.cells #[.int .u64 yk,.int .u32 yc,.bool yg,.slice ya yd.length ycp] 49 (0,0)) by rw [hw5];exact heap_new w2 _)
  have hl1:=blk_lt KE1.out
  clear hb
  go_upto_region 14 with fail
  rw [←hw5]
  clear hw5
  obtain ⟨r0,r1,r2,r3,r4,r5,r6⟩:=cells7' KR5.out
  obtain ⟨g0,g1,g2,g3,g4,g5,g6⟩:=free7 KR5.out
  obtain ⟨n0,n1,n2,n3⟩:=ncells KN5.out
  obtain ⟨o0,o1,o2,o3⟩:=nfree KN5.out
  obtain ⟨y0,y1,y2,y3⟩:=ncells KY5.out
  have hle:=blk_lt KY5.out
  have hlr:=blk_lt KR5.out
  have hlk:=blk_lt KN5.out
  obtain ⟨SS,HSD⟩:∃ SS:World→Prop,Hid (SS=fun w'=>w'.heap[w2.heap.size]? = some (.cells #[.int .u64 yk,.int .u32 yc,.bool yg,.slice ya yd.length ycp] 49 (0,0))∧w'.heap[w.heap.size]? = some (.cells #[.int .i64 num,.int .i64 most,.int .i64 epoch,.int .i64 size,.bool shut,.slice al ln cl,.slice ad dn cd] 43 (0,0))):=⟨_,Hd rfl⟩
  refine wp_region_order0 SS [0,1] [(0,2),(1,2),(2,1),(3,1),(4,0),(5,0)] (by kernel_rfl) (by kernel_rfl) rfl (by kernel_rfl) ?_ ?_
  (focus (rw [HSD.out];exact ⟨KY5.out,KV5.out⟩));refine stepE2 rfl rfl ?_ (fun w1 hS=>?_) fun K hK=>?_;rotate_left;(focus (rw [HSD.out] at hS;obtain ⟨hS1,hS2⟩:=hS;obtain ⟨z0,z1,z2,z3⟩:=ncells hS1;obtain ⟨z4,z5,z6,z7,z8,z9,z10⟩:=cells7' hS2;go_simp;rfl));go_simp;refine hK _ ?_;clear hK K;refine stepE2 rfl rfl ?_ (fun w1 hS=>?_) fun K hK=>?_;rotate_left;(focus (rw [HSD.out] at hS;obtain ⟨hS1,hS2⟩:=hS;obtain ⟨z0,z1,z2,z3⟩:=ncells hS1;obtain ⟨z4,z5,z6,z7,z8,z9,z10⟩:=cells7' hS2;go_simp;rfl));go_simp;refine hK _ ?_;clear hK K;refine stepE1S rfl rfl fun K hK=>?_;go_wp2
  refine ⟨by rw [HSD.out];exact ((by show _∧_;exact ⟨set7_drew KY5.out (by omega),set7_drew KV5.out (by omega)⟩)),?_⟩
  refine stepE1 rfl rfl (by kernel_rfl) fun K hK=>?_;go_wp2;(iterate 2 refine stepE0 rfl rfl fun K hK=>?_;go_simp;refine hK _ ?_;clear hK K)
  try refine stepEnil0 ?_
  clear HSD SS
  go_wp2
  obtain ⟨w3,hw3⟩:∃ w3,w3=set7i w5 (w.heap.size+2) (.int .i64 num) (.int .i64 most) (.int .i64 epoch) (.int .i64 size) (.bool shut) (.slice al ln cl) (.slice ad dn cd):=⟨_,rfl⟩
  have hb3:=set7i_below (w:=w5) (B:=w.heap.size) (b:=w.heap.size+2) (by omega) (.int .i64 num) (.int .i64 most) (.int .i64 epoch) (.int .i64 size) (.bool shut) (.slice al ln cl) (.slice ad dn cd)
  have k3:=store7i (KR5.out) (.int .i64 num) (.int .i64 most) (.int .i64 epoch) (.int .i64 size) (.bool shut) (.slice al ln cl) (.slice ad dn cd)
  have hk3:=set7i_keeps w5 (w.heap.size+2) (.int .i64 num) (.int .i64 most) (.int .i64 epoch) (.int .i64 size) (.bool shut) (.slice al ln cl) (.slice ad dn cd)
  have n3:w3.heap[w.heap.size+3]? = some (.cells #[.int .u64 0,.int .u32 0,.bool false,.slice none 0 0] 49 (0,0)):=by rw [hw3];exact (hk3.block _ hlk (by omega)).trans KN5.out
  rw [←hw3] at hb3 k3 hk3
  obtain ⟨w4,hw4⟩:∃ w4,w4=set4 w3 (w.heap.size+3) (.int .u64 yk) (.int .u32 yc) (.bool yg) (.slice ya yd.length ycp):=⟨_,rfl⟩
  have hb4:=set4_below (w:=w3) (B:=w.heap.size) (b:=w.heap.size+3) (by omega) (.int .u64 yk) (.int .u32 yc) (.bool yg) (.slice ya yd.length ycp)
  have k4:=store4 n3 (.int .u64 yk) (.int .u32 yc) (.bool yg) (.slice ya yd.length ycp)
  have hk4:=set4_keeps w3 (w.heap.size+3) (.int .u64 yk) (.int .u32 yc) (.bool yg) (.slice ya yd.length ycp)
  have k34:w4.heap[w.heap.size+2]? = _:=hw4 ▸ (hk4.block _ (blk_lt k3) (by omega)).trans k3
  rw [←hw4] at hb4 k4 hk4
  have HBX:=Hd ((HB5.out.trans hb3).trans hb4)
  unfold set7i at hw3
  unfold set4 at hw4
  rw [hw3] at hw4
  rw [←hw4]
  clear hw3 hw4 hb3 hb4
  obtain ⟨s0,s1,s2,s3,s4,s5,s6⟩:=cells7' (blk_drew k34)
  obtain ⟨m0,m1,m2,m3⟩:=ncells (blk_drew k4)
  refine bodyPost_ret (v:=?_) ?_ rfl ?_
  rotate_left;(focus (simp [results,Tryz.results17,go_sem,s0,s1,s2,s3,s4,s5,s6,m0,m1,m2,m3];exact rfl))
  rw [HE.out,show K=0 from HK0.out]
  exact ⟨_,_,_,some ⟨⟨yk,yc,yg,yd⟩,ya,ycp⟩,rfl,HO.out _ HBX.out.drew,HBX.out.drew,rfl,HR.out,(fun x e=>by cases e;exact HY.out _ HBX.out.drew),reads_none _ _⟩
end Go.Proofs.YtfpjfoajonbndaaGreatDoor
