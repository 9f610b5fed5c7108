import Derived.Test.YtfpjfoajonbndaaGreatDoorCh21
import Derived.Test.YtfpjfoajonbndaaGreatDoorCh14
import Derived.Test.YtfpjfoajonbndaaGreatDoorCh20
import Derived.Test.YtfpjfoajonbndaaGreatDoorCh16
import Derived.Test.YtfpjfoajonbndaaGreatDoorChShipTake
namespace Go.Proofs.YtfpjfoajonbndaaGreatDoor
set_option maxHeartbeats 8000000
set_option maxRecDepth 100000
open Go.RowKit
set_option maxRecDepth 100000
set_option maxHeartbeats 8000000
open Go.RowKit
def far9 (l:List ActE):Bool:=decide (60<l.length) || l.any fun e=>decide (300<e.x.n.data.length)
theorem far9_no{l:List ActE}(h:far9 l=false):l.length≤60∧∀ e∈l,e.x.n.data.length≤300:=by
 unfold far9 at h
 simp only [Bool.or_eq_false_iff,decide_eq_false_iff_not,List.any_eq_false,decide_eq_true_eq] at h
 exact ⟨by omega,fun e he=>by have:=h.2 e he;omega⟩
theorem far9_any(a:Option Addr)(n c:Nat)(l:List ActE)(w:World)(hn:l.length=n)(h:Reads w 6 (.slice a n c) n (l.flatMap ActE.cs)) :
  Calls Tryz.prog 10 #[.slice a n c] w fun e w'=>e=.returned (.bool (far9 l))∧w=w':=by
 have HN:=Hd hn
 have HR:=Hd h
 have hmx:=h.le
 unfold maxLen at hmx
 obtain ⟨F,hF⟩:∃ F,F=far9 l:=⟨_,rfl⟩
 have HF:=Hd hF
 rw [←hF]
 clear hn h hF
 by_cases hbig:60<n
 ·have HE:=Hd (show F=true by rw [HF.out];unfold far9;rw [HN.out,decide_eq_true hbig];rfl)
  have h1:decide ((60:Int)<(n:Int))=true:=by simp;omega
  have h2:decide (60<n)=true:=by simp;omega
  clear hbig
  go_enter Tryz.func10,Tryz.ntmps10
  go_wp2_with fail
  go_ret
  exact ⟨by rw [HE.out];rfl,rfl⟩
 have h1:decide ((60:Int)<(n:Int))=false:=by simp;omega
 have h2:decide (60<n)=false:=by simp;omega
 go_enter Tryz.func10,Tryz.ntmps10
 go_wp2_with fail
 go_loopw [3] (fun i wr=>∃ k:Nat,k≤n∧i=.int .i64 k∧w=wr∧∀ j x,j<k→l[j]? = some x→x.x.n.data.length≤300) (fun i _=>n - (intOf i).toNat)
 case atStart=>exact ⟨0,Nat.zero_le _,rfl,(by first|trivial|rfl),fun j x hj=>absurd hj (Nat.not_lt_zero j)⟩
 case round=>
  obtain ⟨k,hk,rfl,rfl,hno⟩:=hrel
  have HNO:=Hd hno
  clear hno
  by_cases hlt:k<n
  ·obtain ⟨x,hx⟩:∃ x,l[k]? = some x:=⟨_,List.getElem?_eq_getElem (by rw [HN.out];exact hlt)⟩
   obtain ⟨b,o,c',e,hb,q0,q1,q2,q3,q4,q5⟩:=act9_cells HR.out hx (by omega)
   obtain ⟨rfl,-,rfl⟩:=sl_inj e
   have HX:=Hd hx
   have hj0:(0:Int)≤(k:Int):=by omega
   have hj1:(k:Int)<(n:Int):=by omega
   clear hx e q0 q1 q2 q3 q4
   obtain ⟨D,hD⟩:∃ D,D=x.x.n.data.length:=⟨_,rfl⟩
   rw [←hD] at q5
   have HD:=Hd hD
   clear hD
   by_cases he:300<D
   ·have h3:decide ((300:Int)<(D:Int))=true:=by simp;omega
    have h4:decide (300<D)=true:=by simp;omega
    have HE:=Hd (show F=true by
     rw [HF.out]
     unfold far9
     rw [Bool.or_eq_true]
     exact .inr (List.any_eq_true.2 ⟨x,List.mem_of_getElem? HX.out,by rw [←HD.out];exact h4⟩))
    clear he
    go_wp2_with fail
    go_ret
    exact ⟨by rw [HE.out];rfl,rfl⟩
   ·have h3:decide ((300:Int)<(D:Int))=false:=by simp;omega
    have h4:decide (300<D)=false:=by simp;omega
    have HE:=Hd he
    clear he
    go_wp2_with fail
    go_roundw
    case rel=>exact ⟨k+1,by omega,by go_num,(by first|trivial|rfl),fun j y hj hy=>by
     by_cases hjk:j=k
     ·rw [hjk,HX.out] at hy
      cases hy
      have:=HE.out
      have:=HD.out
      omega
     ·exact HNO.out j y (by omega) hy⟩
    case measure=>simp [intOf];omega
  ·have hj1:¬ (k:Int)<(n:Int):=by omega
   have hj2:decide ((k:Int)<(n:Int))=false:=by simp;omega
   have hj3:decide (k<n)=false:=by simp;omega
   have HE:=Hd (show F=false by
    rw [HF.out]
    unfold far9
    rw [Bool.or_eq_false_iff]
    refine ⟨by rw [HN.out];exact h2,?_⟩
    rw [List.any_eq_false]
    intro x hx
    obtain ⟨j,hj⟩:=List.getElem?_of_mem hx
    have hjn:j<l.length:=(List.getElem?_eq_some_iff.1 hj).1
    have:=HNO.out j x (by rw [HN.out] at hjn;omega) hj
    simp
    omega)
   go_wp2_with fail
   go_ret
   exact ⟨by rw [HE.out];rfl,rfl⟩
theorem ldoE(vp:Nat)(kd m:Int)(x:NdE)(w:World)(hk0:kd≠0)(hk1:kd≠1)(hk2:kd≠2)(hk3:kd≠3)(hk4:kd≠4) :
  Calls Tryz.prog 21 #[(.pointer (some ⟨vp,0,none⟩)),.agg #[.int .i64 kd,.int .i64 m,.int .u64 x.n.key,.int .u32 x.n.cookie,.bool x.n.gone,.slice x.a x.n.data.length x.c]] w fun e w'=>e=.returned (.tuple #[.agg #[.int .u64 0,.int .u32 0,.bool false,.slice none 0 0],.slice none 0 0,.int .i64 0])∧Below w.heap.size w w':=by
 obtain ⟨⟨key,cookie,gone,data⟩,xa,xc⟩:=x
 simp only
 have e0:(kd == 0)=false:=by simp;omega
 have e1:(kd == 1)=false:=by simp;omega
 have e2:(kd == 2)=false:=by simp;omega
 have e3:(kd == 3)=false:=by simp;omega
 have e4:(kd == 4)=false:=by simp;omega
 have f0:decide (kd=0)=false:=by simp;omega
 have f1:decide (kd=1)=false:=by simp;omega
 have f2:decide (kd=2)=false:=by simp;omega
 have f3:decide (kd=3)=false:=by simp;omega
 have f4:decide (kd=4)=false:=by simp;omega
 clear hk0 hk1 hk2 hk3 hk4
 go_enter Tryz.func21,Tryz.ntmps21
 go_upto_region 1 with fail
 obtain ⟨w0,hw0⟩:∃ w0:World,w0=(w.alloc (.cells #[.int .i64 kd,.int .i64 m,.int .u64 key,.int .u32 cookie,.bool gone,.slice xa data.length xc] 53)).alloc (.cells #[.int .u64 0,.int .u32 0,.bool false,.slice none 0 0] 60):=⟨_,rfl⟩
 have HB0:=Hd (show Below w.heap.size w w0 by rw [hw0];exact belo)
 have KA0:=Hd (show w0.heap[w.heap.size]? = some (.cells #[.int .i64 kd,.int .i64 m,.int .u64 key,.int .u32 cookie,.bool gone,.slice xa data.length xc] 53 (0,0)) by rw [hw0];exact blk_alloc (heap_new w _) _)
 have KN0:=Hd (show w0.heap[w.heap.size+1]? = some (.cells #[.int .u64 0,.int .u32 0,.bool false,.slice none 0 0] 60 (0,0)) by rw [hw0];exact blk_new _ (by simp))
 rw [←hw0]
 clear hw0
 obtain ⟨a0,a1,a2,a3,a4,a5⟩:=acells KA0.out
 obtain ⟨n0,n1,n2,n3⟩:=ncells KN0.out
 obtain ⟨o0,o1,o2,o3⟩:=nfree KN0.out
 have hl0:=blk_lt KN0.out
 go_wp2_with fail
 obtain ⟨wx,hwx⟩:∃ wx,wx=set4 w0 (w.heap.size+1) (.int .u64 0) (.int .u32 0) (.bool false) (.slice none 0 0):=⟨_,rfl⟩
 have HBX:=Hd (show Below w.heap.size w wx by rw [hwx];exact HB0.out.trans (set4_below (by omega) _ _ _ _))
 have kbx:=store4 (KN0.out) (.int .u64 0) (.int .u32 0) (.bool false) (.slice none 0 0)
 rw [←hwx] at kbx
 unfold set4 at hwx
 rw [←hwx]
 clear hwx
 obtain ⟨s0,s1,s2,s3⟩:=ncells kbx
 refine bodyPost_ret (v:=?_) ?_ rfl ?_
 rotate_left;(focus (simp [results,Tryz.results21,go_sem,s0,s1,s2,s3];exact rfl))
 exact ⟨rfl,HBX.out⟩
def nd0:Nd:=⟨0,0,false,[]⟩
def LDoTo (w:World) (vp dp:Nat) (P:Nat→Prop) (K:Nat) (c:Nat) (d:Dk) (v:Vl) (N:Nd) (L:List Ps) (e:Ending) (w':World):Prop:=
 ∃ vd kv,e=.returned (.tuple #[.agg #[.int .u64 N.key,.int .u32 N.cookie,.bool N.gone,vd],kv,.int .i64 c])∧VTo w w' vp dp P K d v∧Reads w' 1 vd N.data.length (N.data.map bv)∧Reads w' 5 kv L.length (L.flatMap psC)
def PLaid (P:Nat→Prop) (w w0:World) (k:Nat):Prop:=P k∨(w.heap.size≤k∧k<w0.heap.size)
theorem VTo.ret{w w0 w1 wf:World}{vp dp K:Nat}{P:Nat→Prop}{d:Dk}{v:Vl}{R:Nat}(hb:Below w.heap.size w w0)(h:VTo w0 w1 vp dp (PLaid P w w0) K d v)(hP:∀ k,P k→k<w.heap.size)(hR:w.heap.size≤R)(hR0:R<w0.heap.size)(hk:Keeps (fun k=>k=R) w1 wf):VTo w wf vp dp P K d v:=by
 have h1:VS wf vp dp (PLaid P w w0) K d v:=VS.keeps h.1 hk (fun k _ e=>.inr (by omega))
 refine ⟨VS.later h1 (Below.refl _ _) (fun k e=>.inl (.inl e)),?_⟩
 refine (KP.of hb).trans ((KP.mono h.2 (fun k _ e=>.inl e)).trans (Keeps.mono hk (fun k _ e f=>?_)))
 have:=hP k f
 omega
theorem ldo0{vp dp K:Nat}{P:Nat→Prop}{d:Dk}{v:Vl}(m:Int)(x:NdE)(w:World)(h:VS w vp dp P K d v)(hP:∀ k,P k→k<w.heap.size)(hx:NdArg w x)(hd:x.n.data.length≤1000000000)(hc17:(v.put d x.n).1≤17) :
  Calls Tryz.prog 21 #[(.pointer (some ⟨vp,0,none⟩)),.agg #[.int .i64 0,.int .i64 m,.int .u64 x.n.key,.int .u32 x.n.cookie,.bool x.n.gone,.slice x.a x.n.data.length x.c]] w (LDoTo w vp dp P K (v.put d x.n).1 (v.put d x.n).2.1 (v.put d x.n).2.2 nd0 []):=by
 have HPT:=Hd (fun (w0:World) (hb:Below w.heap.size w w0)=>put_vs (h.later (R:=PLaid P w w0) hb (fun k e=>e.imp id (fun e=>e.1))) (fun k e=>e.elim (fun e=>Nat.lt_of_lt_of_le (hP k e) hb.size) (fun e=>e.2)) x.n x.a x.c hx.key hx.cookie hd (hx.data.below hb))
 have HP:=Hd hP
 obtain ⟨L,hL⟩:∃ L,L=v.put d x.n:=⟨_,rfl⟩
 rw [←hL] at HPT hc17 ⊢
 obtain ⟨C,D2,V2⟩:=L
 have HC:=Hd (show C≤17 from hc17)
 clear h hP hx hL hc17
 obtain ⟨⟨key,cookie,gone,data⟩,xa,xc⟩:=x
 unfold ndV at HPT
 simp only at HPT ⊢
 go_enter Tryz.func21,Tryz.ntmps21
 go_upto_region 1 with fail
 obtain ⟨w0,hw0⟩:∃ w0:World,w0=(w.alloc (.cells #[.int .i64 0,.int .i64 m,.int .u64 key,.int .u32 cookie,.bool gone,.slice xa data.length xc] 53)).alloc (.cells #[.int .u64 0,.int .u32 0,.bool false,.slice none 0 0] 60):=⟨_,rfl⟩
 have HB0:=Hd (show Below w.heap.size w w0 by rw [hw0];exact belo)
 have KA0:=Hd (show w0.heap[w.heap.size]? = some (.cells #[.int .i64 0,.int .i64 m,.int .u64 key,.int .u32 cookie,.bool gone,.slice xa data.length xc] 53 (0,0)) by rw [hw0];exact blk_alloc (heap_new w _) _)
 have KN0:=Hd (show w0.heap[w.heap.size+1]? = some (.cells #[.int .u64 0,.int .u32 0,.bool false,.slice none 0 0] 60 (0,0)) by rw [hw0];exact blk_new _ (by simp))
 rw [←hw0]
 clear hw0
 obtain ⟨a0,a1,a2,a3,a4,a5⟩:=acells KA0.out
 obtain ⟨n0,n1,n2,n3⟩:=ncells KN0.out
 obtain ⟨o0,o1,o2,o3⟩:=nfree KN0.out
 have hl0:=blk_lt KN0.out
 have hcode:=HC.out
 go_wp2_with fail
 refine (HPT.out w0 HB0.out).mono ?_
 rintro e w1 ⟨rfl,ht⟩
 have HT:=Hd ht
 clear a0 a1 a2 a3 a4 a5 n0 n1 n2 n3 o0 o1 o2 o3
 have KN1:=Hd (show w1.heap[w.heap.size+1]? = _ from (ht.2.blk KN0.out (.inr ⟨by omega,hl0⟩)))
 clear ht
 obtain ⟨n0,n1,n2,n3⟩:=ncells KN1.out
 obtain ⟨o0,o1,o2,o3⟩:=nfree KN1.out
 go_wp2_with fail
 refine (code_any C (by omega) (by omega) _).mono ?_
 rintro e w' ⟨rfl,rfl⟩
 go_wp2_with fail
 obtain ⟨wx,hwx⟩:∃ wx,wx=set4 w1 (w.heap.size+1) (.int .u64 0) (.int .u32 0) (.bool false) (.slice none 0 0):=⟨_,rfl⟩
 have hkx:=set4_keeps w1 (w.heap.size+1) (.int .u64 0) (.int .u32 0) (.bool false) (.slice none 0 0)
 have kbx:=store4 (KN1.out) (.int .u64 0) (.int .u32 0) (.bool false) (.slice none 0 0)
 rw [←hwx] at kbx hkx
 unfold set4 at hwx
 rw [←hwx]
 clear hwx
 obtain ⟨s0,s1,s2,s3⟩:=ncells kbx
 refine bodyPost_ret (v:=?_) ?_ rfl ?_
 rotate_left;(focus (simp [results,Tryz.results21,go_sem,s0,s1,s2,s3];exact rfl))
 exact ⟨_,_,rfl,VTo.ret HB0.out HT.out HP.out (by omega) hl0 hkx,reads_none _ _,reads_none _ _⟩
theorem ldo1{vp dp K:Nat}{P:Nat→Prop}{d:Dk}{v:Vl}(m:Int)(x:NdE)(w:World)(h:VS w vp dp P K d v)(hP:∀ k,P k→k<w.heap.size)(hx:NdArg w x)(hc17:(v.del d x.n.key x.n.cookie).1≤17) :
  Calls Tryz.prog 21 #[(.pointer (some ⟨vp,0,none⟩)),.agg #[.int .i64 1,.int .i64 m,.int .u64 x.n.key,.int .u32 x.n.cookie,.bool x.n.gone,.slice x.a x.n.data.length x.c]] w (LDoTo w vp dp P K (v.del d x.n.key x.n.cookie).1 (v.del d x.n.key x.n.cookie).2.1 (v.del d x.n.key x.n.cookie).2.2 nd0 []):=by
 have HPT:=Hd (fun (w0:World) (hb:Below w.heap.size w w0)=>del_vs (h.later (R:=PLaid P w w0) hb (fun k e=>e.imp id (fun e=>e.1))) (fun k e=>e.elim (fun e=>Nat.lt_of_lt_of_le (hP k e) hb.size) (fun e=>e.2)) x.n.key x.n.cookie hx.key hx.cookie)
 have HP:=Hd hP
 obtain ⟨L,hL⟩:∃ L,L=v.del d x.n.key x.n.cookie:=⟨_,rfl⟩
 rw [←hL] at HPT hc17 ⊢
 obtain ⟨C,D2,V2⟩:=L
 have HC:=Hd (show C≤17 from hc17)
 clear h hP hx hL hc17
 obtain ⟨⟨key,cookie,gone,data⟩,xa,xc⟩:=x
 simp only at HPT ⊢
 go_enter Tryz.func21,Tryz.ntmps21
 go_upto_region 1 with fail
 obtain ⟨w0,hw0⟩:∃ w0:World,w0=(w.alloc (.cells #[.int .i64 1,.int .i64 m,.int .u64 key,.int .u32 cookie,.bool gone,.slice xa data.length xc] 53)).alloc (.cells #[.int .u64 0,.int .u32 0,.bool false,.slice none 0 0] 60):=⟨_,rfl⟩
 have HB0:=Hd (show Below w.heap.size w w0 by rw [hw0];exact belo)
 have KA0:=Hd (show w0.heap[w.heap.size]? = some (.cells #[.int .i64 1,.int .i64 m,.int .u64 key,.int .u32 cookie,.bool gone,.slice xa data.length xc] 53 (0,0)) by rw [hw0];exact blk_alloc (heap_new w _) _)
 have KN0:=Hd (show w0.heap[w.heap.size+1]? = some (.cells #[.int .u64 0,.int .u32 0,.bool false,.slice none 0 0] 60 (0,0)) by rw [hw0];exact blk_new _ (by simp))
 rw [←hw0]
 clear hw0
 obtain ⟨a0,a1,a2,a3,a4,a5⟩:=acells KA0.out
 obtain ⟨n0,n1,n2,n3⟩:=ncells KN0.out
 obtain ⟨o0,o1,o2,o3⟩:=nfree KN0.out
 have hl0:=blk_lt KN0.out
 have hcode:=HC.out
 go_wp2_with fail
 refine (HPT.out w0 HB0.out).mono ?_
 rintro e w1 ⟨rfl,ht⟩
 have HT:=Hd ht
 clear a0 a1 a2 a3 a4 a5 n0 n1 n2 n3 o0 o1 o2 o3
 have KN1:=Hd (show w1.heap[w.heap.size+1]? = _ from (ht.2.blk KN0.out (.inr ⟨by omega,hl0⟩)))
 clear ht
 obtain ⟨n0,n1,n2,n3⟩:=ncells KN1.out
 obtain ⟨o0,o1,o2,o3⟩:=nfree KN1.out
 go_wp2_with fail
 refine (code_any C (by omega) (by omega) _).mono ?_
 rintro e w' ⟨rfl,rfl⟩
 go_wp2_with fail
 obtain ⟨wx,hwx⟩:∃ wx,wx=set4 w1 (w.heap.size+1) (.int .u64 0) (.int .u32 0) (.bool false) (.slice none 0 0):=⟨_,rfl⟩
 have hkx:=set4_keeps w1 (w.heap.size+1) (.int .u64 0) (.int .u32 0) (.bool false) (.slice none 0 0)
 have kbx:=store4 (KN1.out) (.int .u64 0) (.int .u32 0) (.bool false) (.slice none 0 0)
 rw [←hwx] at kbx hkx
 unfold set4 at hwx
 rw [←hwx]
 clear hwx
 obtain ⟨s0,s1,s2,s3⟩:=ncells kbx
 refine bodyPost_ret (v:=?_) ?_ rfl ?_
 rotate_left;(focus (simp [results,Tryz.results21,go_sem,s0,s1,s2,s3];exact rfl))
 exact ⟨_,_,rfl,VTo.ret HB0.out HT.out HP.out (by omega) hl0 hkx,reads_none _ _,reads_none _ _⟩
theorem ldo4{vp dp K:Nat}{P:Nat→Prop}{d:Dk}{v:Vl}(m:Int)(x:NdE)(w:World)(h:VS w vp dp P K d v)(hP:∀ k,P k→k<w.heap.size)(hK:K+4<1099511627776)(hc17:(v.set d m x.n.gone).1≤17) :
  Calls Tryz.prog 21 #[(.pointer (some ⟨vp,0,none⟩)),.agg #[.int .i64 4,.int .i64 m,.int .u64 x.n.key,.int .u32 x.n.cookie,.bool x.n.gone,.slice x.a x.n.data.length x.c]] w (LDoTo w vp dp P (K+4) (v.set d m x.n.gone).1 (v.set d m x.n.gone).2.1 (v.set d m x.n.gone).2.2 nd0 []):=by
 have HPT:=Hd (fun (w0:World) (hb:Below w.heap.size w w0)=>set_vs (h.later (R:=PLaid P w w0) hb (fun k e=>e.imp id (fun e=>e.1))) (fun k e=>e.elim (fun e=>Nat.lt_of_lt_of_le (hP k e) hb.size) (fun e=>e.2)) hK m x.n.gone)
 have HP:=Hd hP
 obtain ⟨L,hL⟩:∃ L,L=v.set d m x.n.gone:=⟨_,rfl⟩
 rw [←hL] at HPT hc17 ⊢
 obtain ⟨C,D2,V2⟩:=L
 have HC:=Hd (show C≤17 from hc17)
 clear h hP hL hc17
 obtain ⟨⟨key,cookie,gone,data⟩,xa,xc⟩:=x
 simp only at HPT ⊢
 go_enter Tryz.func21,Tryz.ntmps21
 go_upto_region 1 with fail
 obtain ⟨w0,hw0⟩:∃ w0:World,w0=(w.alloc (.cells #[.int .i64 4,.int .i64 m,.int .u64 key,.int .u32 cookie,.bool gone,.slice xa data.length xc] 53)).alloc (.cells #[.int .u64 0,.int .u32 0,.bool false,.slice none 0 0] 60):=⟨_,rfl⟩
 have HB0:=Hd (show Below w.heap.size w w0 by rw [hw0];exact belo)
 have KA0:=Hd (show w0.heap[w.heap.size]? = some (.cells #[.int .i64 4,.int .i64 m,.int .u64 key,.int .u32 cookie,.bool gone,.slice xa data.length xc] 53 (0,0)) by rw [hw0];exact blk_alloc (heap_new w _) _)
 have KN0:=Hd (show w0.heap[w.heap.size+1]? = some (.cells #[.int .u64 0,.int .u32 0,.bool false,.slice none 0 0] 60 (0,0)) by rw [hw0];exact blk_new _ (by simp))
 rw [←hw0]
 clear hw0
 obtain ⟨a0,a1,a2,a3,a4,a5⟩:=acells KA0.out
 obtain ⟨n0,n1,n2,n3⟩:=ncells KN0.out
 obtain ⟨o0,o1,o2,o3⟩:=nfree KN0.out
 have hl0:=blk_lt KN0.out
 have hcode:=HC.out
 go_wp2_with fail
 refine (HPT.out w0 HB0.out).mono ?_
 rintro e w1 ⟨rfl,ht⟩
 have HT:=Hd ht
 clear a0 a1 a2 a3 a4 a5 n0 n1 n2 n3 o0 o1 o2 o3
 have KN1:=Hd (show w1.heap[w.heap.size+1]? = _ from (ht.2.blk KN0.out (.inr ⟨by omega,hl0⟩)))
 clear ht
 obtain ⟨n0,n1,n2,n3⟩:=ncells KN1.out
 obtain ⟨o0,o1,o2,o3⟩:=nfree KN1.out
 go_wp2_with fail
 refine (code_any C (by omega) (by omega) _).mono ?_
 rintro e w' ⟨rfl,rfl⟩
 go_wp2_with fail
 obtain ⟨wx,hwx⟩:∃ wx,wx=set4 w1 (w.heap.size+1) (.int .u64 0) (.int .u32 0) (.bool false) (.slice none 0 0):=⟨_,rfl⟩
 have hkx:=set4_keeps w1 (w.heap.size+1) (.int .u64 0) (.int .u32 0) (.bool false) (.slice none 0 0)
 have kbx:=store4 (KN1.out) (.int .u64 0) (.int .u32 0) (.bool false) (.slice none 0 0)
 rw [←hwx] at kbx hkx
 unfold set4 at hwx
 rw [←hwx]
 clear hwx
 obtain ⟨s0,s1,s2,s3⟩:=ncells kbx
 refine bodyPost_ret (v:=?_) ?_ rfl ?_
 rotate_left;(focus (simp [results,Tryz.results21,go_sem,s0,s1,s2,s3];exact rfl))
 exact ⟨_,_,rfl,VTo.ret HB0.out HT.out HP.out (by omega) hl0 hkx,reads_none _ _,reads_none _ _⟩
theorem Rv.write_17(v:Rv)(n:Nd):(v.write n).1≤17:=by
 unfold Rv.write
 split <;> simp
theorem Rv.look_17(v:Rv)(k c:Nat):v.look k c≤17:=by
 unfold Rv.look
 split
 ·omega
 ·split
  ·omega
  ·split <;> omega
theorem Rv.put_17(v:Rv)(n:Nd):(v.put n).1≤17:=by
 unfold Rv.put
 split
 ·simp
 ·split
  ·unfold ndCheck
   simp only
   split
   ·omega
   ·split <;> omega
  ·split
   ·simp
   ·split
    ·simp only
     split <;> omega
    ·exact v.write_17 n
theorem Rv.del_17(v:Rv)(k c:Nat):(v.del k c).1≤17:=by
 unfold Rv.del
 split
 ·exact v.look_17 k c
 ·split
  ·simp
  ·exact v.write_17 _
theorem Rv.set_17(v:Rv)(e:Int)(s:Bool):(v.set e s).1≤17:=by
 unfold Rv.set
 split
 ·simp
 ·split <;> simp
theorem Rv.act_17(v:Rv)(a:VAct):(v.act a).1≤17:=by
 unfold Rv.act
 split
 ·exact v.put_17 _
 ·split
  ·exact v.del_17 _ _
  ·split
   ·exact v.look_17 _ _
   ·split
    ·simp
    ·split
     ·exact v.set_17 _ _
     ·simp
theorem ldo2{vp dp K:Nat}{P:Nat→Prop}{d:Dk}{v:Vl}(m:Int)(x:NdE)(w:World)(h:VS w vp dp P K d v)(hp:∀ p∈v.idx,p.len≤4096∧p.off≤1000000000)(ht:(v.get d x.n.key x.n.cookie).2.1=false)(hc17:(v.get d x.n.key x.n.cookie).1≤17) :
  Calls Tryz.prog 21 #[(.pointer (some ⟨vp,0,none⟩)),.agg #[.int .i64 2,.int .i64 m,.int .u64 x.n.key,.int .u32 x.n.cookie,.bool x.n.gone,.slice x.a x.n.data.length x.c]] w (LDoTo w vp dp P K (v.get d x.n.key x.n.cookie).1 d v (v.get d x.n.key x.n.cookie).2.2 []):=by
 have HGT:=Hd (fun (w0:World) (hb:Below w.heap.size w w0)=>show Calls Tryz.prog 41 #[(.pointer (some ⟨vp,0,none⟩)),.int .u64 x.n.key,.int .u32 x.n.cookie] w0 (GotV w0 (v.get d x.n.key x.n.cookie)) by
  obtain ⟨ix,vx,h1,h2,-,h4⟩:=h
  exact vget_any (h1.below hb) (h2.below hb) h4.names h4.long.1 _ _ (find_in hp).1 (find_in hp).2)
 have HVS:=Hd (fun (w':World) (hb:Below w.heap.size w w')=>h.same hb)
 obtain ⟨L,hL⟩:∃ L,L=v.get d x.n.key x.n.cookie:=⟨_,rfl⟩
 rw [←hL] at HGT ht hc17 ⊢
 obtain ⟨C,tl,N⟩:=L
 have htl:tl=false:=ht
 subst htl
 have HC:=Hd (show C≤17 from hc17)
 clear h hp hL hc17 ht
 obtain ⟨⟨key,cookie,gone,data⟩,xa,xc⟩:=x
 obtain ⟨nk,nc,ng,nd⟩:=N
 simp only at HGT ⊢
 go_enter Tryz.func21,Tryz.ntmps21
 go_upto_region 1 with fail
 obtain ⟨w0,hw0⟩:∃ w0:World,w0=(w.alloc (.cells #[.int .i64 2,.int .i64 m,.int .u64 key,.int .u32 cookie,.bool gone,.slice xa data.length xc] 53)).alloc (.cells #[.int .u64 0,.int .u32 0,.bool false,.slice none 0 0] 60):=⟨_,rfl⟩
 have HB0:=Hd (show Below w.heap.size w w0 by rw [hw0];exact belo)
 have KA0:=Hd (show w0.heap[w.heap.size]? = some (.cells #[.int .i64 2,.int .i64 m,.int .u64 key,.int .u32 cookie,.bool gone,.slice xa data.length xc] 53 (0,0)) by rw [hw0];exact blk_alloc (heap_new w _) _)
 have KN0:=Hd (show w0.heap[w.heap.size+1]? = some (.cells #[.int .u64 0,.int .u32 0,.bool false,.slice none 0 0] 60 (0,0)) by rw [hw0];exact blk_new _ (by simp))
 rw [←hw0]
 clear hw0
 obtain ⟨a0,a1,a2,a3,a4,a5⟩:=acells KA0.out
 have hl0:=blk_lt KN0.out
 have hcode:=HC.out
 go_wp2_with fail
 refine (HGT.out w0 HB0.out).mono ?_
 rintro e w1 ⟨vd,ev,rfl,her,hown,hb⟩
 have hev:ev=errV C:=by
  rcases her with ⟨_,e⟩|⟨e,_⟩
  ·exact e
  ·cases e
 subst hev
 have HOW:=Hd (show w1.ownsRow w0.heap.size 5 1 vd nd.length (nd.map bv) from hown)
 have KN1:=Hd (blk_below' KN0.out hb)
 have HB1:=Hd (HB0.out.trans (hb.mono HB0.out.size))
 have hz1:=hb.size
 obtain ⟨da,dc,hvd,-⟩:=slice_of HOW.out
 clear her hown hb a0 a1 a2 a3 a4 a5
 subst hvd
 obtain ⟨ndl,hndl⟩:∃ ndl,ndl=nd.length:=⟨_,rfl⟩
 have HDL:=Hd hndl
 simp only
 rw [←hndl] at HOW ⊢
 clear hndl
 obtain ⟨w2,hw2⟩:∃ w2:World,w2=w1.alloc (.cells #[.int .u64 nk,.int .u32 nc,.bool ng,.slice da ndl dc] 60):=⟨_,rfl⟩
 have HB2:=Hd (show Below w.heap.size w w2 by rw [hw2];exact HB1.out.alloc HB1.out.size _)
 have HO2:=Hd (show w2.ownsRow w0.heap.size 5 1 (.slice da ndl dc) ndl (nd.map bv) by rw [hw2];exact ownsRow_below HOW.out belo)
 have KN2:=Hd (show w2.heap[w.heap.size+1]? = some (.cells #[.int .u64 0,.int .u32 0,.bool false,.slice none 0 0] 60 (0,0)) by rw [hw2];exact blk_alloc KN1.out _)
 have KG2:=Hd (show w2.heap[w1.heap.size]? = some (.cells #[.int .u64 nk,.int .u32 nc,.bool ng,.slice da ndl dc] 60 (0,0)) by rw [hw2];exact heap_new w1 _)
 have hl1:=blk_lt KN1.out
 go_upto_region 8 with fail
 rw [←hw2]
 clear hw2
 obtain ⟨n0,n1,n2,n3⟩:=ncells KN2.out
 obtain ⟨o0,o1,o2,o3⟩:=nfree KN2.out
 obtain ⟨y0,y1,y2,y3⟩:=ncells KG2.out
 have hlg:=blk_lt KG2.out
 obtain ⟨SS,HSD⟩:∃ SS:World→Prop,Hid (SS=fun w'=>w'.heap[w1.heap.size]? = some (.cells #[.int .u64 nk,.int .u32 nc,.bool ng,.slice da ndl dc] 60 (0,0))):=⟨_,Hd rfl⟩
 refine wp_region_order0 SS [0] [(0,2),(1,0),(2,1),(3,1),(4,0),(5,0)] (by kernel_rfl) (by kernel_rfl) rfl (by kernel_rfl) ?_ ?_
 (focus (rw [HSD.out];exact KG2.out));refine stepE2 rfl rfl ?_ (fun w1 hS=>?_) fun K hK=>?_;rotate_left;(focus (rw [HSD.out] at hS;obtain ⟨z0,z1,z2,z3⟩:=ncells hS;go_simp;rfl));go_simp;refine hK _ ?_;clear hK K;refine stepE0 rfl rfl fun K hK=>?_;go_simp;refine hK _ ?_;clear hK K;refine stepE1S rfl rfl fun K hK=>?_
 (go_wp2_with fail;refine (code_any C (by omega) (by omega) _).mono ?_;rintro e wc ⟨rfl,rfl⟩;go_wp2)
 refine ⟨by rw [HSD.out];exact (KG2.out),?_⟩
 refine stepE1 rfl rfl (by kernel_rfl) fun K hK=>?_;go_wp2;(iterate 2 refine stepE0 rfl rfl fun K hK=>?_;go_simp;refine hK _ ?_;clear hK K)
 try refine stepEnil0 ?_
 clear HSD SS
 go_wp2
 obtain ⟨w3,hw3⟩:∃ w3,w3=set4 w2 (w.heap.size+1) (.int .u64 nk) (.int .u32 nc) (.bool ng) (.slice da ndl dc):=⟨_,rfl⟩
 have hb3:=set4_below (w:=w2) (B:=w.heap.size) (b:=w.heap.size+1) (by omega) (.int .u64 nk) (.int .u32 nc) (.bool ng) (.slice da ndl dc)
 have hk3:=set4_keeps w2 (w.heap.size+1) (.int .u64 nk) (.int .u32 nc) (.bool ng) (.slice da ndl dc)
 have k3:=store4 (KN2.out) (.int .u64 nk) (.int .u32 nc) (.bool ng) (.slice da ndl dc)
 rw [←hw3] at hb3 hk3 k3
 have HBX:=Hd (HB2.out.trans hb3)
 have HRX:=Hd (show w3.drew.ownsRow w0.heap.size 5 1 (.slice da ndl dc) ndl (nd.map bv) from ownsRow_below (ownsRow_keeps HO2.out hk3 (fun q hq e=>by have:=(HO2.out.lt q hq).1;omega)) (Below.drew (Below.refl _ _)))
 unfold set4 at hw3
 rw [←hw3]
 clear hw3 hb3
 obtain ⟨s0,s1,s2,s3⟩:=ncells (blk_drew k3)
 refine bodyPost_ret (v:=?_) ?_ rfl ?_
 rotate_left;(focus (simp [results,Tryz.results21,go_sem,s0,s1,s2,s3];exact rfl))
 refine ⟨_,_,rfl,HVS.out _ HBX.out.drew,?_,reads_none _ _⟩
 show Reads w3.drew 1 (.slice da ndl dc) nd.length (nd.map bv)
 rw [←HDL.out]
 exact reads_of_owns HRX.out
theorem ldo3{vp dp K:Nat}{P:Nat→Prop}{d:Dk}{v:Vl}(m:Int)(x:NdE)(w:World)(h:VS w vp dp P K d v) :
  Calls Tryz.prog 21 #[(.pointer (some ⟨vp,0,none⟩)),.agg #[.int .i64 3,.int .i64 m,.int .u64 x.n.key,.int .u32 x.n.cookie,.bool x.n.gone,.slice x.a x.n.data.length x.c]] w (LDoTo w vp dp P K 0 d v nd0 (v.keys x.n.key m)):=by
 have HGT:=Hd (fun (w0:World) (hb:Below w.heap.size w w0)=>show Calls Tryz.prog 64 #[(.pointer (some ⟨vp,0,none⟩)),.int .u64 x.n.key,.int .i64 m] w0 fun e w'=>∃ v',e=.returned v'∧w'.ownsRow w0.heap.size 152 5 v' (v.keys x.n.key m).length ((v.keys x.n.key m).flatMap psC)∧Below w0.heap.size w0 w' by
  obtain ⟨ix,vx,h1,h2,-,h4⟩:=h
  exact keys_any (h1.below hb) _ _)
 have HVS:=Hd (fun (w':World) (hb:Below w.heap.size w w')=>h.same hb)
 obtain ⟨L,hL⟩:∃ L,L=v.keys x.n.key m:=⟨_,rfl⟩
 rw [←hL] at HGT ⊢
 clear h hL
 obtain ⟨⟨key,cookie,gone,data⟩,xa,xc⟩:=x
 simp only at HGT ⊢
 go_enter Tryz.func21,Tryz.ntmps21
 go_upto_region 1 with fail
 obtain ⟨w0,hw0⟩:∃ w0:World,w0=(w.alloc (.cells #[.int .i64 3,.int .i64 m,.int .u64 key,.int .u32 cookie,.bool gone,.slice xa data.length xc] 53)).alloc (.cells #[.int .u64 0,.int .u32 0,.bool false,.slice none 0 0] 60):=⟨_,rfl⟩
 have HB0:=Hd (show Below w.heap.size w w0 by rw [hw0];exact belo)
 have KA0:=Hd (show w0.heap[w.heap.size]? = some (.cells #[.int .i64 3,.int .i64 m,.int .u64 key,.int .u32 cookie,.bool gone,.slice xa data.length xc] 53 (0,0)) by rw [hw0];exact blk_alloc (heap_new w _) _)
 have KN0:=Hd (show w0.heap[w.heap.size+1]? = some (.cells #[.int .u64 0,.int .u32 0,.bool false,.slice none 0 0] 60 (0,0)) by rw [hw0];exact blk_new _ (by simp))
 rw [←hw0]
 clear hw0
 obtain ⟨a0,a1,a2,a3,a4,a5⟩:=acells KA0.out
 have hl0:=blk_lt KN0.out
 go_wp2_with fail
 refine (HGT.out w0 HB0.out).mono ?_
 rintro e w1 ⟨kv,rfl,hown,hb⟩
 obtain ⟨kn,hkn⟩:∃ kn,kn=L.length:=⟨_,rfl⟩
 have HKN:=Hd hkn
 rw [←hkn] at hown
 clear hkn
 obtain ⟨ka,kc,rfl,-⟩:=slice_of hown
 have HOW:=Hd hown
 have KN1:=Hd (blk_below' KN0.out hb)
 have HB1:=Hd (HB0.out.trans (hb.mono HB0.out.size))
 have hz1:=hb.size
 clear hown hb a0 a1 a2 a3 a4 a5
 obtain ⟨n0,n1,n2,n3⟩:=ncells KN1.out
 obtain ⟨o0,o1,o2,o3⟩:=nfree KN1.out
 have hl1:=blk_lt KN1.out
 go_wp2_with fail
 obtain ⟨w3,hw3⟩:∃ w3,w3=set4 w1 (w.heap.size+1) (.int .u64 0) (.int .u32 0) (.bool false) (.slice none 0 0):=⟨_,rfl⟩
 have hb3:=set4_below (w:=w1) (B:=w.heap.size) (b:=w.heap.size+1) (by omega) (.int .u64 0) (.int .u32 0) (.bool false) (.slice none 0 0)
 have hk3:=set4_keeps w1 (w.heap.size+1) (.int .u64 0) (.int .u32 0) (.bool false) (.slice none 0 0)
 have k3:=store4 (KN1.out) (.int .u64 0) (.int .u32 0) (.bool false) (.slice none 0 0)
 rw [←hw3] at hb3 hk3 k3
 have HBX:=Hd (HB1.out.trans hb3)
 have HRX:=Hd (show w3.ownsRow w0.heap.size 152 5 (.slice ka kn kc) kn (L.flatMap psC) from ownsRow_keeps HOW.out hk3 (fun q hq e=>by have:=(HOW.out.lt q hq).1;omega))
 unfold set4 at hw3
 rw [←hw3]
 clear hw3 hb3
 obtain ⟨s0,s1,s2,s3⟩:=ncells k3
 refine bodyPost_ret (v:=?_) ?_ rfl ?_
 rotate_left;(focus (simp [results,Tryz.results21,go_sem,s0,s1,s2,s3];exact rfl))
 refine ⟨_,_,rfl,HVS.out _ HBX.out,reads_none _ _,?_⟩
 rw [←HKN.out]
 exact reads_of_owns HRX.out
def Vl.gotN (v:Vl) (d:Dk) (a:VAct):Nd:=if a.kind=2 then (v.get d a.n.key a.n.cookie).2.2 else nd0
def Vl.gotK (v:Vl) (a:VAct):List Ps:=if a.kind=3 then v.keys a.n.key a.m else []
theorem VTo.more{w w':World}{vp dp K L:Nat}{P:Nat→Prop}{d:Dk}{v:Vl}(h:VTo w w' vp dp P K d v)(hl:K≤L):VTo w w' vp dp P L d v:=⟨h.1.more hl,h.2⟩
theorem ldo_any{vp dp K:Nat}{P:Nat→Prop}{d:Dk}{v:Vl}(a:ActE)(w:World)(h:VS w vp dp P K d v)(hP:∀ k,P k→k<w.heap.size)(hK:K+4<1099511627776)(hx:NdArg w a.x)(hd:a.x.n.data.length≤1000000000)(hp:∀ p∈v.idx,p.len≤4096∧p.off≤1000000000)(ht:(v.get d a.x.n.key a.x.n.cookie).2.1=false)(hc17:(v.act d a.act).1≤17) :
  Calls Tryz.prog 21 #[(.pointer (some ⟨vp,0,none⟩)),.agg a.cs.toArray] w (LDoTo w vp dp P (K+4) (v.act d a.act).1 (v.act d a.act).2.1 (v.act d a.act).2.2 (v.gotN d a.act) (v.gotK a.act)):=by
 obtain ⟨kd,m,x⟩:=a
 have hcs:ActE.cs ⟨kd,m,x⟩=[.int .i64 kd,.int .i64 m,.int .u64 x.n.key,.int .u32 x.n.cookie,.bool x.n.gone,.slice x.a x.n.data.length x.c]:=rfl
 rw [hcs]
 simp only at hx hd ht
 have hact:ActE.act ⟨kd,m,x⟩=⟨kd,m,x.n⟩:=rfl
 rw [hact] at hc17 ⊢
 unfold Vl.act at hc17 ⊢
 unfold Vl.gotN Vl.gotK
 simp only at hc17 ⊢
 have up:∀ {e:Ending} {w':World} {c:Nat} {D:Dk} {V:Vl} {N:Nd} {L:List Ps},LDoTo w vp dp P K c D V N L e w'→LDoTo w vp dp P (K+4) c D V N L e w':=fun ⟨a,b,h1,h2,h3⟩=>⟨a,b,h1,h2.more (by omega),h3⟩
 by_cases h0:kd=0
 ·subst h0
  exact (ldo0 m x w h hP hx hd hc17).mono fun _ _ q=>up q
 rw [if_neg h0] at hc17 ⊢
 by_cases h1:kd=1
 ·subst h1
  exact (ldo1 m x w h hP hx hc17).mono fun _ _ q=>up q
 rw [if_neg h1] at hc17 ⊢
 by_cases h2:kd=2
 ·subst h2
  exact (ldo2 m x w h hp ht hc17).mono fun _ _ q=>up q
 rw [if_neg h2] at hc17 ⊢
 by_cases h3:kd=3
 ·subst h3
  exact (ldo3 m x w h).mono fun _ _ q=>up q
 rw [if_neg h3] at hc17 ⊢
 rw [if_neg h2,if_neg h3]
 by_cases h4:kd=4
 ·subst h4
  exact ldo4 m x w h hP hK hc17
 rw [if_neg h4] at hc17 ⊢
 exact (ldoE vp kd m x w h0 h1 h2 h3 h4).mono fun e w' ⟨q1,q2⟩=>⟨_,_,q1,(h.same q2).more (by omega),reads_none _ _,reads_none _ _⟩
end Go.Proofs.YtfpjfoajonbndaaGreatDoor
