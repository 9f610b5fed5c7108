import Derived.Test.YtfpjfoajonbndaaGreatDoorCh2
import Derived.OrdersIn
import Derived.Test.YtfpjfoajonbndaaGreatDoorChErr
import Derived.Test.YtfpjfoajonbndaaGreatDoorChBase2
import Derived.RangeFuncNested
import Derived.RangeFuncBound
import Derived.RangeFuncCalls
import Derived.RangeFuncLeaves
import Derived.RangeFuncBox
import Derived.Shelf.Abstract
import Derived.Shelf.RegionOpen
import Derived.OwnWalkIn
import Derived.TacticsInMore
import Derived.LoopNIn
import Derived.LoopIn
import Derived.Maps.AppendAt
import Derived.Deep.AppendLies
namespace Go.Proofs.YtfpjfoajonbndaaGreatDoor
set_option maxHeartbeats 8000000
set_option maxRecDepth 100000
open Go.RowKit
open Go.RowKit

section
variable {F:Fence} {n:Nat} {P:Program} {ops:Array Oper} {Q:Exit→Act→World→Prop} {S:World→Prop} {rds:List Nat}
def noDefer (ops:Array Oper):Bool:=ops.all fun o=>match o.op with | .defer _=>false|_=>true
theorem noDefer_spec(h:noDefer ops=true){i:Nat}{o:Oper}(ho:ops[i]? = some o)(r:Option Nat)(f:Operand→Value):o.semAt r f=execOp f o:=by
 refine Oper.semAt_eq r f o fun c hc=>?_
 have h1:=Array.all_eq_true'.1 h o (Array.mem_of_getElem? ho)
 rw [hc] at h1
 cases h1
def wpAnyNI (F:Fence) (n:Nat) (P:Program) (ops:Array Oper) (rds:List Nat) (Q:Exit→Act→World→Prop) (S:World→Prop):Nat→Array Bool→Act→World→Prop
 | 0,listed,a,w=>Region.ready .any ops listed=[]∧Q .normal a w
 | fuel+1,listed,a,w=>
  (Region.ready .any ops listed=[]→Q .normal a w) ∧
  ∀ i∈Region.ready .any ops listed,wpOpIn F n P ops Q i (fun a' w'=>(needs ops rds i=true→S w→S w')∧wpAnyNI F n P ops rds Q S fuel (listed.setIfInBounds i true) a' w') a w
theorem wpAnyI_of_N:∀ (fuel:Nat) (listed:Array Bool) (a:Act) (w:World),wpAnyNI F n P ops rds Q S fuel listed a w→wpAnyIn F n P .any ops Q fuel listed a w
 | 0,_,_,_,h=>h
 | fuel+1,_,_,_,h=>⟨h.1,fun i hi=>wpOpIn_mono (fun a' w' h'=>wpAnyI_of_N fuel _ a' w' h'.2) (h.2 i hi)⟩
def YieldsI (P:Program) (ops:Array Oper) (T:World→Prop) (o:Oper) (v:Value) (a:Act):Prop:=YieldsT P ops T o v a∧∀ w,o.about P w a.eval=none
theorem YieldsI.wpOp{T:World→Prop}{i:Nat}{o:Oper}{v:Value}{a:Act}(hd:noDefer ops=true)(hi:ops[i]? = some o)(hy:YieldsI P ops T o v a)
  {K:Act→World→Prop} {w:World} (hT:T w) (h:K (a.put o.dst v) w):wpOpIn F n P ops Q i K a w:=by
 unfold Go.wpOpIn
 simp only [hi]
 have hab:∀ f,o.about P w a.eval=some f→F.fn f:=fun f hf=>by rw [hy.2 w] at hf;cases hf
 rcases hy.1 with ⟨hw,hv⟩|⟨hw,rfl⟩
 ·simp only [hw,if_true,Oper.wpIn,noDefer_spec hd hi,hv w hT,Oper.uponIn];exact ⟨hab,h⟩
 ·simp only [hw,Bool.false_eq_true,if_false];exact ⟨hab,h⟩
theorem YieldsI.of_same{T:World→Prop}{o:Oper}{v:Value}{a a':Act}(hy:YieldsI P ops T o v a)(he:execOp a'.eval o=execOp a.eval o)
  (hw:Region.wanted o (yielded ops a'.tmps)=Region.wanted o (yielded ops a.tmps)) (hb:∀ w,o.about P w a'.eval=o.about P w a.eval):YieldsI P ops T o v a':=
 ⟨hy.1.of_same he hw,fun w=>by rw [hb w];exact hy.2 w⟩
theorem wpOpI_putT{T:World→Prop}{j:Nat}{oi oj:Oper}{v:Value}(hd:noDefer ops=true)(hj:ops[j]? = some oj)(hap:oi.apart ops oj=true)
  (hsi:∀ cs b,oi.op≠.select cs b) (hsj:∀ cs b,oj.op≠.select cs b)
  (hQ:∀ c a w,Q (.panic c) (a.put oi.dst v) w→Q (.panic c) a w) {K:Act→World→Prop} {a:Act} {w:World}
  (hy:YieldsI P ops T oi v a) (h:wpOpIn F n P ops Q j K (a.put oi.dst v) w) :
  wpOpIn F n P ops Q j (fun a' w'=>YieldsI P ops T oi v a'∧K (a'.put oi.dst v) w') a w:=by
 obtain ⟨h1,h2,h3⟩:=Oper.apart_spec hap
 have keep:∀ (a:Act),YieldsI P ops T oi v a→∀ u,YieldsI P ops T oi v (a.put oj.dst u):=fun a hy u=>
  hy.of_same (execOp_put oi hsi a oj.dst u h3) (wanted_put oi a oj.dst u h3) (fun w=>about_put oi w a oj.dst u h3)
 have keepD:∀ d,YieldsI P ops T oi v { a with defers:=d :: a.defers }:=fun d=>hy.of_same rfl rfl (fun _=>rfl)
 have hsem:∀ (r:Option Nat) (f:Operand→Value),oj.semAt r f=execOp f oj:=fun r f=>noDefer_spec hd hj r f
 unfold wpOpIn at *
 simp only [hj] at *
 rw [wanted_put oj a oi.dst v h1,about_put oj w a oi.dst v h1] at h
 split
 ·rename_i hw
  simp only [hw,if_true] at h
  unfold Oper.wpIn at *
  rw [about_put oj w a oi.dst v h1] at h
  refine ⟨h.1,?_⟩
  have h:=h.2
  rw [hsem,execOp_put oj hsj a oi.dst v h1] at h
  rw [hsem]
  generalize (execOp a.eval oj).run P w=r at *
  cases r with
  | ok x w'=>
   cases x <;> simp only [Oper.uponIn] at h ⊢
   case value u=>exact ⟨keep a hy u,by rw [←Act.put_comm a v u h2];exact h⟩
   case skip=>exact ⟨keep a hy _,by rw [←Act.put_comm a v undef h2];exact h⟩
   case defer d=>
    refine ⟨keep _ (keepD d) _,?_⟩
    rw [←Act.put_comm _ v undef h2,←Act.put_defers]
    exact h
   case enter f args=>
    refine ⟨h.1,CallsIn.mono h.2 fun e w'' he=>?_⟩
    cases e with
    | returned u=>exact ⟨keep a hy u,by rw [←Act.put_comm a v u h2];exact he⟩
    | panicked c=>exact hQ _ _ _ he
    | outgrown=>exact he
   case row row args=>exact ⟨h.1,RowsIn.mono h.2 fun u w'' he=>⟨keep a hy u,by rw [←Act.put_comm a v u h2];exact he⟩⟩
   case round l f tmps assign body=>
    refine ⟨h.1,RoundIn.mono h.2 fun e w'' he=>?_⟩
    cases e with
    | returned u=>exact ⟨keep a hy u,by rw [←Act.put_comm a v u h2];exact he⟩
    | panicked c=>exact hQ _ _ _ he
    | outgrown=>exact he
  | halt x w'=>
   cases x <;> simp only [Oper.uponIn] at h ⊢
   case panic u=>exact hQ _ _ _ h
 ·rename_i hw
  simp only [hw] at h
  exact ⟨h.1,keep a hy _,by rw [←Act.put_comm a v undef h2];exact h.2⟩

theorem wpAnyNI_first{T:World→Prop}{i:Nat}{oi:Oper}{v:Value}{rd:Bool}(hd:noDefer ops=true)(hi:ops[i]? = some oi)(hsel:∀ (j:Nat) (o:Oper) cs b,ops[j]? = some o→o.op≠.select cs b)
  (hQ:∀ c a w,Q (.panic c) (a.put oi.dst v) w→Q (.panic c) a w) (hTS:rd=true→∀ w,S w→T w) (hST:rd=true→∀ w,T w→S w) (hT0:rd=false→∀ w,T w) :
  ∀ (fuel:Nat) (listed:Array Bool) (a:Act) (w:World),Closed ops listed →
   (∀ j oj,ops[j]? = some oj→j≠i→listed.getD j true=false→waitsFor ops ops.size j i=true∨(oi.apart ops oj=true∧(rd=true→needs ops rds j=true))) →
   i∈Region.ready .any ops listed→T w→YieldsI P ops T oi v a →
   wpAnyNI F n P ops rds Q S fuel (listed.setIfInBounds i true) (a.put oi.dst v) w→wpAnyNI F n P ops rds Q S (fuel+1) listed a w:=by
 intro fuel
 induction fuel with
 | zero=>
  intro listed a w _ _ hr hT hy H
  refine ⟨fun h=>(by rw [h] at hr;cases hr),fun j hj=>?_⟩
  by_cases hji:j=i
  ·subst hji;exact hy.wpOp hd hi hT ⟨fun _ h=>h,H⟩
  ·have:=ready_mono hj hji
   rw [H.1] at this
   cases this
 | succ fuel ih=>
  intro listed a w hcl hfree hr hT hy H
  refine ⟨fun h=>(by rw [h] at hr;cases hr),fun j hj=>?_⟩
  by_cases hji:j=i
  ·subst hji;exact hy.wpOp hd hi hT ⟨fun _ h=>h,H⟩
  ·have h1:=H.2 j (ready_mono hj hji)
   obtain ⟨hjun,oj,hoj,hall⟩:=mem_ready.1 hj
   have hiun:=(mem_ready.1 hr).1
   have hnot:¬ waitsFor ops ops.size j i=true:=fun hw=>by
    have h1:=hcl.waits _ j i oj hoj hall hw
    have h2:=getD_true_of_false h1
    rw [hiun] at h2
    cases h2
   obtain ⟨hap,hnd⟩:=(hfree j oj hoj hji hjun).resolve_left hnot
   have h2:=wpOpI_putT hd hoj hap (fun cs b=>hsel i oi cs b hi) (fun cs b=>hsel j oj cs b hoj) hQ hy h1
   have hfree':∀ k ok,ops[k]? = some ok→k≠i→(listed.setIfInBounds j true).getD k true=false →
     waitsFor ops ops.size k i=true∨(oi.apart ops ok=true∧(rd=true→needs ops rds k=true)):=fun k ok hk hki hun=>by
    refine hfree k ok hk hki ?_
    by_cases hjk:j=k
    ·subst hjk;exact hjun
    ·rw [getD_set_ne true hjk] at hun;exact hun
   refine wpOpIn_mono (fun a' w' h3=>?_) h2
   obtain ⟨h4,h5,h6⟩:=h3
   refine ⟨h5,?_⟩
   have hT':T w':=by
    cases hrd:rd with
    | true=>exact hTS hrd w' (h5 (hnd hrd) (hST hrd w hT))
    | false=>exact hT0 hrd w'
   refine ih (listed.setIfInBounds j true) a' w' (hcl.ready hj) hfree' (ready_mono hr (Ne.symm hji)) hT' h4 ?_
   rw [Array.setIfInBounds_comm _ _ hji]
   exact h6

def wpEI (F:Fence) (n:Nat) (P:Program) (ops:Array Oper) (rds:List Nat) (Q:Exit→Act→World→Prop) (S:World→Prop):List (Nat×Nat)→Act→World→Prop
 | [],a,w=>Q .normal a w
 | (i,k) :: rest,a,w=>match ops[i]? with
  | none=>False
  | some oi=>match k with
   | 0=>∃ v,YieldsI P ops (fun _=>True) oi v a∧wpEI F n P ops rds Q S rest (a.put oi.dst v) w
   | 1=>wpOpIn F n P ops Q i (fun a' w'=>(needs ops rds i=true→S w→S w')∧wpEI F n P ops rds Q S rest a' w') a w
   | _=>∃ v,YieldsI P ops S oi v a∧wpEI F n P ops rds Q S rest (a.put oi.dst v) w
theorem wpNI_of_E(hd:noDefer ops=true)(hsel:∀ (j:Nat) (o:Oper) cs b,ops[j]? = some o→o.op≠.select cs b)(hQ:∀ c a d v w,Q (.panic c) (a.put d v) w→Q (.panic c) a w) :
  ∀ (l:List (Nat×Nat)) (has:Bool) (listed:Array Bool) (a:Act) (w:World),Closed ops listed→okOrder ops rds has listed l=true→(has=true→S w) →
   wpEI F n P ops rds Q S l a w→wpAnyNI F n P ops rds Q S l.length listed a w
 | [],has,listed,a,w,_,hok,_,h=>⟨by simpa [okOrder] using hok,h⟩
 | (i,k) :: rest,has,listed,a,w,hcl,hok,hS,h=>by
  cases hi:ops[i]? with
  | none=>simp [okOrder,hi] at hok
  | some oi=>
   simp only [okOrder,hi,Bool.and_eq_true,List.contains_iff_mem] at hok
   obtain ⟨hr,hok⟩:=hok
   simp only [wpEI,hi] at h
   match k,hok,h with
   | 0,hok,h=>
    simp only [Bool.and_eq_true] at hok
    obtain ⟨v,hy,h⟩:=h
    refine wpAnyNI_first (T:=fun _=>True) (rd:=false) hd hi hsel (fun c a w=>hQ c a _ _ w) (fun e=>by cases e) (fun e=>by cases e) (fun _ _=>trivial) rest.length listed a w hcl (free_spec hok.1) hr trivial hy ?_
    exact wpNI_of_E hd hsel hQ rest has _ _ w (hcl.ready hr) hok.2 hS h
   | 1,hok,h=>
    simp only [Bool.and_eq_true,beq_iff_eq] at hok
    refine ⟨fun e=>(by rw [e] at hr;cases hr),fun j hj=>?_⟩
    rw [hok.1] at hj
    have hji:j=i:=by simpa using hj
    subst hji
    refine wpOpIn_mono (fun a' w' h'=>⟨h'.1,wpNI_of_E hd hsel hQ rest (has && needs ops rds j) _ a' w' (hcl.ready hr) hok.2 (fun e=>?_) h'.2⟩) h
    simp only [Bool.and_eq_true] at e
    exact h'.1 e.2 (hS e.1)
   | k+2,hok,h=>
    simp only [Bool.and_eq_true] at hok
    obtain ⟨v,hy,h⟩:=h
    refine wpAnyNI_first (T:=S) (rd:=true) hd hi hsel (fun c a w=>hQ c a _ _ w) (fun _ _ h=>h) (fun _ _ h=>h) (fun e=>by cases e) rest.length listed a w hcl (free_spec hok.1.2) hr (hS hok.1.1) hy ?_
    exact wpNI_of_E hd hsel hQ rest has _ _ w (hcl.ready hr) hok.2 hS h
theorem wpIn_region_order{id:Nat}{a:Act}{w:World}(S:World→Prop)(rds:List Nat)(l:List (Nat×Nat))(hm:P.follows .mixedOrders=true)(hd:noDefer ops=true)(hsel:Region.noSelect ops=true)
  (hlen:l.length=ops.size) (hok:okOrder ops rds true (Array.replicate ops.size false) l=true) (hQ:∀ c a d v w,Q (.panic c) (a.put d v) w→Q (.panic c) a w)
  (hS:S w.drew) (h:wpEI F n P ops rds Q S l a w.drew):(Code.region id ops true).wpIn F n P Q a w:=by
 refine wpIn_region_any hm (wpAnyI_of_N (rds:=rds) (S:=S) _ _ _ _ ?_)
 rw [←hlen]
 refine wpNI_of_E hd (fun j o cs b=>Region.noSelect_spec hsel j o cs b) hQ l true _ a _ ?_ (by rw [hlen];exact hok) (fun _=>hS) h
 intro j o ho hj
 rcases Nat.lt_or_ge j l.length with h'|h'
 ·simp [h'] at hj
 ·have:=(Array.getElem?_eq_some_iff.1 ho).1
  omega
theorem wpIn_region_order0{id:Nat}{a:Act}{w:World}(S:World→Prop)(rds:List Nat)(l:List (Nat×Nat))(hm:P.follows .mixedOrders=true)(hd:noDefer ops=true)(hsel:Region.noSelect ops=true)
  (hlen:l.length=ops.size) (hok:okOrder ops rds true (Array.replicate ops.size false) l=true)
  (hS:S w.drew) (h:wpEI F n P ops rds (onlyNormal Q) S l a w.drew):(Code.region id ops true).wpIn F n P Q a w:=
 wpIn_mono (wpIn_region_order (Q:=onlyNormal Q) S rds l hm hd hsel hlen hok (fun _ _ _ _ _ h=>h) hS h) (fun e a w h=>by cases e <;> first|exact h|exact False.elim h)
section
variable {o:Oper} {i:Nat} {rest:List (Nat×Nat)} {a:Act} {w:World}
theorem stepInil0(h:Q .normal a w):wpEI F n P ops rds (onlyNormal Q) S [] a w:=h
theorem stepI0(ho:ops[i]? = some o)(hw:Region.wanted o (yielded ops a.tmps)=true)(hab:∀ w,o.about P w a.eval=none)
  (h:∀ K:Act→Prop,(∀ a,wpEI F n P ops rds Q S rest a w→K a)→∃ v,(∀ w1:World,(execOp a.eval o).run P w1=.ok (.value v) w1)∧K (a.put o.dst v)):wpEI F n P ops rds Q S ((i,0) :: rest) a w:=by
 obtain ⟨v,h1,h2⟩:=h _ (fun _ h=>h)
 simp only [wpEI,ho]
 exact ⟨v,⟨.inl ⟨hw,fun w1 _=>h1 w1⟩,hab⟩,h2⟩
theorem stepI2(ho:ops[i]? = some o)(hw:Region.wanted o (yielded ops a.tmps)=true)(hab:∀ w,o.about P w a.eval=none)(v:Value)(h1:∀ w1:World,S w1→(execOp a.eval o).run P w1=.ok (.value v) w1)
  (h:∀ K:Act→Prop,(∀ a,wpEI F n P ops rds Q S rest a w→K a)→K (a.put o.dst v)):wpEI F n P ops rds Q S ((i,2) :: rest) a w:=by
 have h2:=h _ (fun _ h=>h)
 simp only [wpEI,ho]
 exact ⟨v,⟨.inl ⟨hw,h1⟩,hab⟩,h2⟩
theorem stepI1(ho:ops[i]? = some o)(hw:Region.wanted o (yielded ops a.tmps)=true)(hn:needs ops rds i=false)
  (h:∀ K:Act→World→Prop,(∀ a' w',wpEI F n P ops rds Q S rest a' w'→K a' w')→o.wpIn F n P a w K Q):wpEI F n P ops rds Q S ((i,1) :: rest) a w:=by
 simp only [wpEI,ho,wpOpIn,hw,if_true]
 exact h _ fun a' w' h=>⟨fun e=>absurd e (by rw [hn];simp),h⟩
theorem stepI1S(ho:ops[i]? = some o)(hw:Region.wanted o (yielded ops a.tmps)=true)
  (h:∀ K:Act→World→Prop,(∀ a' w',S w'∧wpEI F n P ops rds Q S rest a' w'→K a' w')→o.wpIn F n P a w K Q):wpEI F n P ops rds Q S ((i,1) :: rest) a w:=by
 simp only [wpEI,ho,wpOpIn,hw,if_true]
 exact h _ fun a' w' h=>⟨fun _ _=>h.1,h.2⟩
end
end
open Go.RowKit Go.Shelf
attribute [local go_sem] Oper.semAt_some
theorem clone_info_Byte:(Tryz.prog.info? 5).map (fun i=>(i.zero,i.size,i.bytes))=some (some (.int .u8 0),1,1):=by kernel_rfl
theorem clone_Byte(v:Value)(n:Nat)(xs:List Value)(w:World)(h:Reads w 1 v n xs)(h1:∀ u∈xs,u.oneCell'=true)(hb:n * 1≤140737488355328) :
  Calls Tryz.prog 165 #[v] w (CloneOut w 5 1 v n xs):=by
 obtain ⟨i0,hi,hz0,hz1,hz2⟩:=info_parts clone_info_Byte
 obtain ⟨hlen,⟨rfl,rfl⟩|⟨a,c,rfl,hm,hcell⟩⟩:=h
 ·have hx:xs=[]:=List.eq_nil_of_length_eq_zero (by simpa using hlen)
  subst hx
  clear hi hz0 hz1 hz2 hlen h1 hb
  have hne:=fun (wx:World)=>Lib.run_eql_slice_nil (P:=Tryz.prog) wx 47 5 none 0 0 0 0 Tryz.underlying47
  go_enter Tryz.func165,Tryz.ntmps165
  go_wp2
  go_ret
  exact ⟨_,rfl,World.ownsRow_nil _ _ _ _,Iff.rfl,Below.refl _ _⟩
 ·have hne:=fun (wx:World)=>Lib.run_eql_slice_nil (P:=Tryz.prog) wx 47 5 (some a) n c 0 0 Tryz.underlying47
  have HI:=Hd hi
  have HZ0:=Hd hz0
  have HZ1:=Hd hz1
  have HZ2:=Hd hz2
  have HL:=Hd hlen
  have HC:=Hd hcell
  have H1:=Hd h1
  clear hi hz0 hz1 hz2 hlen hcell h1
  go_enter Tryz.func165,Tryz.ntmps165
  go_wp2_with (at_builtin;refine wpList_append_own _ rfl _ _ 47 rfl w.heap.size 5 i0 (.int .u8 0) 1 1 Tryz.underlying47 HI.out HZ0.out HZ1.out HZ2.out rfl (by decide) (.slice (some ⟨w.heap.size,0,none⟩) 0 0) 0 [] rfl (World.ownsRow_lit w #[] 0 (Nat.le_refl _) (by unfold maxLen;omega) rfl) a n c xs rfl HL.out (fun j u hu=>cell_later ((Below.refl _ _).alloc (Nat.le_refl _) _) (HC.out j u hu)) H1.out (by omega) (by omega) (by simp) ?_;intro v' w1 hown' hgrow hnil)
  go_ret
  exact ⟨_,rfl,by simpa using hown',by simpa using hnil,(((Below.refl _ _).alloc (Nat.le_refl _) _).grown hgrow (by simp) (by simp [Value.ownBlock]))⟩
theorem sized_any(k:Int)(w:World):Calls Tryz.prog 158 #[.int .i64 k] w fun e w'=>e=.returned (.bool (k == 1 || k == 2 || k == 4 || k == 8))∧w=w':=by
 go_enter Tryz.func158,Tryz.ntmps158
 go_wp2
 all_goals
  go_ret
  exact ⟨ret_bool (by simp [*]),rfl⟩
theorem byte_cast(n k:Nat):((n / 256 ^ k % 256:Nat):Int)=(n:Int) / 2 ^ (8 * k) % 256:=by
 rw [Int.natCast_emod,Int.natCast_ediv,Int.natCast_pow,show ((256:Nat):Int)=2 ^ 8 from rfl,←Int.pow_mul]
 rfl
theorem part_byte(n k:Nat)(hk:k<8)(B:Nat)(w:World)(_:n<18446744073709551616)(hc:w.cell? ⟨B,0,none⟩=some (.int .u64 n)) :
  Calls Tryz.prog 166 #[.int .i64 k,.pointer (some ⟨B,0,none⟩)] w fun e w'=>e=.returned (.int .u8 ((n / 256 ^ k % 256:Nat):Int))∧w=w':=by
 go_enter Tryz.func166,Tryz.ntmps166
 go_wp2
 go_ret
 exact ⟨ret_int (byte_cast n k).symm,rfl⟩
theorem fits_cast(n k:Nat)(hk:k≠8):decide (n<256 ^ k)=((k:Int) == 8 || (n:Int) / 2 ^ (8 * k) == 0):=by
 have h1:((k:Int) == 8)=false:=beq_eq_false_iff_ne.2 (by omega)
 rw [h1,Bool.false_or,Bool.eq_iff_iff,decide_eq_true_iff,beq_iff_eq]
 have h2:(n:Int) / 2 ^ (8 * k)=((n / 256 ^ k:Nat):Int):=by
  rw [Int.natCast_ediv,Int.natCast_pow,show ((256:Nat):Int)=2 ^ 8 from rfl,←Int.pow_mul]
 rw [h2]
 have h3:=Nat.div_eq_zero_iff_lt (x:=n) (k:=256 ^ k) (Nat.pow_pos (by omega))
 omega
theorem fits_any(n:Nat)(k:Nat)(hn:n<18446744073709551616)(hk:k=1∨k=2∨k=4∨k=8)(w:World) :
  Calls Tryz.prog 164 #[.int .u64 n,.int .i64 k] w fun e w'=>e=.returned (.bool (decide (n<256 ^ k)))∧w=w':=by
 by_cases h8:k=8
 ·subst h8
  have hd:decide (n<256 ^ 8)=true:=by simpa using hn
  rw [hd]
  clear hd hk
  have H:=Hd hn
  clear hn
  go_enter Tryz.func164,Tryz.ntmps164
  go_wp2
  go_ret
  exact ⟨rfl,rfl⟩
 ·have HD:=Hd (fits_cast n k h8)
  have hk9:k<8:=by omega
  have HK:=Hd hk
  clear hk
  go_enter Tryz.func164,Tryz.ntmps164
  go_wp2
  go_ret
  exact ⟨ret_bool (by rw [HD.out]),rfl⟩
def nthByte (n k:Nat):UInt8:=UInt8.ofNat (n / 256 ^ k)
theorem part_any(n k:Nat)(hk:k<8)(B:Nat)(w:World)(hn:n<18446744073709551616)(hc:w.cell? ⟨B,0,none⟩=some (.int .u64 n)) :
  Calls Tryz.prog 166 #[.int .i64 k,.pointer (some ⟨B,0,none⟩)] w fun e w'=>e=.returned (.int .u8 ((nthByte n k).toNat:Int))∧w=w':=by
 have h:=part_byte n k hk B w hn hc
 have e:(Value.int .u8 ((nthByte n k).toNat:Int))=.int .u8 ((n / 256 ^ k % 256:Nat):Int):=by
  unfold nthByte
  rw [UInt8.toNat_ofNat']
 rw [e]
 exact h
def Kept (b c:Nat) (W W':World):Prop:=W'.heap[b]? = W.heap[b]? ∧ W'.heap[c]? = W.heap[c]?
theorem Kept.refl(b c:Nat)(W:World):Kept b c W W:=⟨rfl,rfl⟩
theorem Kept.trans{b c:Nat}{A B C:World}(h:Kept b c A B)(k:Kept b c B C):Kept b c A C:=⟨k.1.trans h.1,k.2.trans h.2⟩
theorem Kept.cell1{b c:Nat}{W W':World}(h:Kept b c W W')(o:Nat):W'.cell? ⟨b,o,none⟩=W.cell? ⟨b,o,none⟩:=World.cell?_of_block (a:=⟨b,o,none⟩) h.1
theorem Kept.cell2{b c:Nat}{W W':World}(h:Kept b c W W')(o:Nat):W'.cell? ⟨c,o,none⟩=W.cell? ⟨c,o,none⟩:=World.cell?_of_block (a:=⟨c,o,none⟩) h.2
def backL (L m:Nat):List (Fin L):=((List.finRange L).drop m).reverse
theorem backL_len(L m:Nat):(backL L m).length=L - m:=by simp [backL]
theorem backL_all(L:Nat):backL L L=[]:=by simp [backL,List.drop_eq_nil_of_le]
theorem backL_step(L j:Nat)(h:j<L):backL L j=backL L (j+1) ++ [⟨j,h⟩]:=by
 unfold backL
 rw [List.drop_eq_getElem_cons (by simpa using h)]
 simp
def backEnc (zs:List UInt8) (i:Fin zs.length):Array Value:=#[.int .i64 (i.val:Int),.int .u8 (zs[i.val].toNat:Int)]
theorem back1_in(F:Fence)(n:Nat)(hF:F.fn 187)(hro:F.round=none)(hn:1≤n)(l Bs b off cap:Nat)(zs:List UInt8)(hreach:zs.length≤maxLen)(J Jx:List (Fin zs.length)→World→Prop)
  (hY:∀ pre x W,J pre W→pre.length<zs.length→YieldAt F (n - 1) Tryz.prog l (backEnc zs x) W fun e W'=>
   (e=.returned (.bool true)∧J (pre ++ [x]) W'∧Kept b Bs W W')∨(e=.returned (.bool false)∧Jx (pre ++ [x]) W'))
  (W:World) (hBs:W.cell? ⟨Bs,0,none⟩=some (.slice (some ⟨b,off,none⟩) zs.length cap)) (hc:∀ j (h:j<zs.length),W.cell? ⟨b,off+j,none⟩=some (.int .u8 (zs[j].toNat:Int))) (h0:J [] W) :
  CallsIn F n Tryz.prog 187 #[.func (.yield l) #[] #[],.pointer (some ⟨Bs,0,none⟩)] W fun e W'=>(∃ v,e=.returned v) ∧
   ((∃ ys,ys=backL zs.length 0∧J ys W')∨(∃ pre,(∃ k,k≤zs.length∧pre=backL zs.length k)∧Jx pre W')):=by
 unfold maxLen at hreach
 have HC:=Hd hc
 clear hc
 refine callsIn_of_wp Tryz.func187 rfl hF ?_ hro
 simp only [Tryz.ntmps187,List.size_toArray,List.length_cons,List.length_nil,Nat.reduceAdd,Nat.reduceSub,Array.replicate_succ,Array.replicate_zero,List.push_toArray,List.append_toArray,List.nil_append,List.cons_append]
 gi_wp2
 gi_loopw [3] (fun i wr=>∃ m:Nat,m≤zs.length∧i=.int .i64 ((m:Int) - 1)∧J (backL zs.length m) wr∧Kept b Bs W wr)
  (fun i _=>(intOf i+1).toNat)
 case atStart=>exact ⟨zs.length,Nat.le_refl _,rfl,by rw [backL_all];exact h0,Kept.refl _ _ _⟩
 case round=>
  obtain ⟨m,hm,rfl,hJ,hnx⟩:=hrel
  have hBs':=(hnx.cell2 0).trans hBs
  rcases m with _|j
  ·have HJ:=Hd hJ
   clear hJ
   gi_wp2
   go_end0
   exact ⟨⟨_,rfl⟩,.inl ⟨_,rfl,HJ.out⟩⟩
  ·have hcx:=(hnx.cell1 (off+j)).trans (HC.out j (by omega))
   have hjl:j<zs.length:=by omega
   have HF:=Hd (backL_step zs.length j hjl)
   obtain ⟨fn,tmps,assign,body,hy,hR⟩:=hY _ ⟨j,hjl⟩ wr hJ (by rw [backL_len];omega)
   dsimp only [backEnc] at hy
   have e1:((j+1:Nat):Int) - 1=(j:Int):=by omega
   rw [e1]
   clear e1 hJ
   gi_wp2
   refine hR.mono ?_
   rintro e W3 (⟨rfl,hJ3,hk3⟩|⟨rfl,hJx3⟩)
   ·have HJ:=Hd hJ3
    have hk:=hnx.trans hk3
    clear hJ3 hk3 hnx
    gi_wp2
    go_roundw
    case rel=>exact ⟨j,by omega,rfl,by rw [HF.out];exact HJ.out,hk⟩
    case measure=>first|(simp [intOf];done)|(simp [intOf];omega)
   ·have HJ:=Hd hJx3
    clear hJx3
    gi_wp2
    refine bodyPost_ret (results_none rfl _ _ _) rfl ?_
    exact ⟨⟨_,rfl⟩,.inr ⟨_,⟨j,by omega,HF.out.symm⟩,HJ.out⟩⟩
theorem back_any(a:Option Addr)(len cap:Nat)(w:World) :
  Calls Tryz.prog 159 #[.slice a len cap] w fun e w'=>e=.returned (.func (.func 187) #[] #[.pointer (some ⟨w.heap.size,0,none⟩)])∧w.alloc (.cells #[.slice a len cap] 47)=w':=by
 go_enter Tryz.func159,Tryz.ntmps159
 go_wp2
 go_ret
 exact ⟨rfl,rfl⟩
theorem back_stops(F:Fence)(n:Nat)(hF:F.fn 187)(hro:F.round=none)(hn:1≤n)(Bs b off cap:Nat)(zs:List UInt8)(hreach:zs.length≤maxLen)(w:World)(hBs:Bs<w.heap.size)(hb:b<w.heap.size)
  (hc:w.cell? ⟨Bs,0,none⟩=some (.slice (some ⟨b,off,none⟩) zs.length cap)) (hI:∀ j (h:j<zs.length),w.cell? ⟨b,off+j,none⟩=some (.int .u8 (zs[j].toNat:Int))) :
  SeqStopsK F n Tryz.prog 187 #[.pointer (some ⟨Bs,0,none⟩)] (backEnc zs) (Kept b Bs) (fun ys=>ys=backL zs.length 0)
   (fun pre=>∃ k,k≤zs.length∧pre=backL zs.length k) zs.length w:=fun l J Jx W hW _ _ hY h0=>
 back1_in F n hF hro hn l Bs b off cap zs hreach J Jx hY W ((hW.cell (p:=⟨Bs,0,none⟩) hBs).trans hc) (fun j hj=>(hW.cell (p:=⟨b,off+j,none⟩) hb).trans (hI j hj)) h0
theorem kept_put{b c:Nat}{w:World}(hb:b<w.heap.size)(hc:c<w.heap.size)(W:World)(l:Nat)(o o':Obj)(hl:w.heap.size≤l)(_:W.heap[l]? = some o)(_:o.isCells=false)(_:o.isWalk=false):Kept b c W (W.putObj l o'):=by
 constructor <;> (simp only [World.putObj];rw [Array.getElem?_setIfInBounds];rw [if_neg (by omega)])
def assignAct (a:Act) (ps:Array Tmp) (vs:Array Value) (d p:Tmp):Act:=
 { tmps:=(((ps.zip vs).foldl (fun t (p,v)=>t.setIfInBounds p v) a.tmps)).setIfInBounds d ((((ps.zip vs).foldl (fun t (p,v)=>t.setIfInBounds p v) a.tmps)).getD p undef),defers:=[] }
theorem wpIn_assign_one{F:Fence}{n:Nat}{P:Program}{Q:Exit→Act→World→Prop}{id:Nat}{d p:Tmp}{ty:TypeId}{po:String}{a:Act}{w:World}
  (h:Q .normal (a.put (some d) (a.tmps.getD p undef)) w):(Code.region id #[{ dst:=some d,op:=.assign (.tmp p),type:=ty,pos:=po,after:=#[],guard:=none }] false).wpIn F n P Q a w:=by
 refine wpIn_region ?_
 show wpOpsIn F n P _ Q [0] a w
 simp only [wpOpsIn,List.getElem?_toArray,List.getElem?_cons_zero,Region.wanted,if_true]
 unfold Oper.wpIn
 refine ⟨fun f hf=>(by cases hf),?_⟩
 rw [Oper.semAt_eq _ _ _ (by intro c hc;cases hc)]
 exact h
theorem wpIn_rangeFunc_one{F:Fence}{n:Nat}{P:Program}{α:Type}{g:Operand}{ps:Array Tmp}{id:Nat}{d p:Tmp}{ty:TypeId}{po:String}{body:Code}{Q:Exit→Act→World→Prop}{a:Act}{w:World}
  (hro:F.round=none) (h1:1≤n) {gf:Nat} {lb:Array Value} (hg:a.eval g=.func (.func gf) #[] lb) (hFg:F.fn gf) (eg:∀ args w,(callFunc gf args).run P w=.ok (.enter gf args) w)
  {encs:α→Array Value} {Kp:World→World→Prop} {S Sp:List α→Prop} {N:Nat} {w0:World} (hseq:SeqStopsK F (n - 1) P gf lb encs Kp S Sp N w0)
  (hKt:∀ {A B C:World},Kp A B→Kp B C→Kp A C) (hKb:∀ (W:World) (l:Nat) (o o':Obj),w.heap.size≤l→W.heap[l]? = some o→o.isCells=false→o.isWalk=false→Kp W (W.putObj l o')) (hb0:Below w0.heap.size w0 w) (hps:∀ x,(encs x).size=ps.size)
  (I:List α→World→Prop) (Ix:Code→List α→World→Prop) (hI:OwnFrom w.heap.size I) (hIx:∀ c,OwnFrom w.heap.size (Ix c)) (h0:I [] w)
  (hbody:∀ (l:Nat) (pre:List α) (x:α) (W:World),I pre W→pre.length<N→body.wpIn (F.inRound l) (n - 1 - 1) P (ownPostG w.heap.size Kp I Ix (pre ++ [x]) W) (assignAct a ps (encs x) d p) W)
  (hdone:∀ (D:Nat) (xs:List α) (W:World),w.heap.size≤D→S xs→I xs W→W.heap[D]? = some (.deferred (some []))→Q .normal { a with defers:={ target:=.collected D,args:=#[] } :: a.defers } W)
  (hstop:∀ (D:Nat) (c:Code) (pre:List α) (W:World),w.heap.size≤D→Sp pre→Ix c pre W→W.heap[D]? = some (.deferred (some []))→c.wpIn F n P Q { a with defers:={ target:=.collected D,args:=#[] } :: a.defers } W) :
  (Code.rangeFunc g ps (Code.region id #[{ dst:=some d,op:=.assign (.tmp p),type:=ty,pos:=po,after:=#[],guard:=none }] false) body).wpIn F n P Q a w:=
 wpIn_rangeFunc_ownG hro h1 hg hFg eg hseq hKt hKb hb0 hps I Ix hI hIx h0 (fun x=>assignAct a ps (encs x) d p)
  (fun _ _ _ _ hK=>wpIn_assign_one hK) hbody hdone hstop
open Go.RowKit Go.Shelf
structure PutSt (w0 w:World) (Bn Bo Br n:Nat) (vo:Value) (os:List UInt8) (vr:Value) (rs:List UInt8):Prop where
 bel:Below w0.heap.size w0 w
 hn:w.heap[Bn]? = some (.cells #[.int .u64 n] 45 (0,0))
 ho:w.heap[Bo]? = some (.cells #[vo] 47 (0,0))
 hr:w.heap[Br]? = some (.cells #[vr] 47 (0,0))
 ro:w.ownsRow w0.heap.size 5 1 vo os.length (os.map bv)
 rr:w.ownsRow w0.heap.size 5 1 vr rs.length (rs.map bv)
 low:w0.heap.size≤Bn∧w0.heap.size≤Bo∧w0.heap.size≤Br
 ne:Bn≠Bo∧Bn≠Br∧Bo≠Br
 no:vo.ownBlock≠some Bn∧vo.ownBlock≠some Bo∧vo.ownBlock≠some Br
 nr:vr.ownBlock≠some Bn∧vr.ownBlock≠some Bo∧vr.ownBlock≠some Br
 apart:∀ g,vo.ownBlock=some g→vr.ownBlock≠some g
theorem PutSt.lt{w0 w:World}{Bn Bo Br n:Nat}{vo:Value}{os:List UInt8}{vr:Value}{rs:List UInt8}(h:PutSt w0 w Bn Bo Br n vo os vr rs):Bn<w.heap.size∧Bo<w.heap.size∧Br<w.heap.size:=
 ⟨(Array.getElem?_eq_some_iff.1 h.hn).1,(Array.getElem?_eq_some_iff.1 h.ho).1,(Array.getElem?_eq_some_iff.1 h.hr).1⟩
theorem PutSt.cells{w0 w:World}{Bn Bo Br n:Nat}{vo:Value}{os:List UInt8}{vr:Value}{rs:List UInt8}(h:PutSt w0 w Bn Bo Br n vo os vr rs) :
  w.cell? ⟨Bn,0,none⟩=some (.int .u64 n)∧w.cell? ⟨Bo,0,none⟩=some vo∧w.cell? ⟨Br,0,none⟩=some vr∧w.frozen? ⟨Bo,0,none⟩=false∧w.frozen? ⟨Br,0,none⟩=false:=
 ⟨by rw [cell_of_row w Bn 0 _ _ _ h.hn];rfl,by rw [cell_of_row w Bo 0 _ _ _ h.ho];rfl,by rw [cell_of_row w Br 0 _ _ _ h.hr];rfl,frozen_of_row w Bo 0 _ _ h.ho,frozen_of_row w Br 0 _ _ h.hr⟩
theorem PutSt.keep{w0 w w':World}{Bn Bo Br n:Nat}{vo:Value}{os:List UInt8}{vr:Value}{rs:List UInt8}(h:PutSt w0 w Bn Bo Br n vo os vr rs)(hb:Below w.heap.size w w'):PutSt w0 w' Bn Bo Br n vo os vr rs:=by
 obtain ⟨h1,h2,h3⟩:=h.lt
 exact ⟨h.bel.trans (hb.mono h.bel.size),(hb.block _ h1).trans h.hn,(hb.block _ h2).trans h.ho,(hb.block _ h3).trans h.hr,
  ownsRow_at h.ro (fun k hk=>hb.block k (h.ro.lt k hk).2),ownsRow_at h.rr (fun k hk=>hb.block k (h.rr.lt k hk).2),h.low,h.ne,h.no,h.nr,h.apart⟩
theorem PutSt.drew{w0 w:World}{Bn Bo Br n:Nat}{vo:Value}{os:List UInt8}{vr:Value}{rs:List UInt8}(h:PutSt w0 w Bn Bo Br n vo os vr rs):PutSt w0 w.drew Bn Bo Br n vo os vr rs:=
 h.keep ((Below.refl _ w).drew)
theorem PutSt.onRest{w0 w w2:World}{Bn Bo Br n g cap m:Nat}{vo:Value}{os:List UInt8}{vr:Value}{rs ns:List UInt8}(h:PutSt w0 w Bn Bo Br n vo os vr rs)
  (hg:w.grownBy w2 vr.ownBlock) (hown:w2.ownsRow w0.heap.size 5 1 (.slice (some ⟨g,0,none⟩) m cap) m ((rs ++ ns).map bv)) (hm:m=(rs ++ ns).length) (hat:vr.ownBlock=some g∨g=w.heap.size) :
  PutSt w0 (w2.setCell ⟨Br,0,none⟩ (.slice (some ⟨g,0,none⟩) m cap)) Bn Bo Br n vo os (.slice (some ⟨g,0,none⟩) m cap) (rs ++ ns):=by
 subst hm
 obtain ⟨h1,h2,h3⟩:=h.lt
 obtain ⟨e1,e2,e3⟩:=h.ne
 have hgn:g≠Bn∧g≠Bo∧g≠Br:=by
  obtain ⟨x1,x2,x3⟩:=h.nr
  rcases hat with h'|h'
  ·refine ⟨fun e=>x1 (by rw [h',e]),fun e=>x2 (by rw [h',e]),fun e=>x3 (by rw [h',e])⟩
  ·omega
 have b1:=hg.block Bn h1 (fun e=>h.nr.1 e.symm)
 have b2:=hg.block Bo h2 (fun e=>h.nr.2.1 e.symm)
 have b3:=hg.block Br h3 (fun e=>h.nr.2.2 e.symm)
 refine ⟨(h.bel.grown hg h.bel.size (fun k e=>(h.rr.lt k e).1)).setCell h.low.2.2 _,(heap_setCell_other w2 _ Bn _ e2).trans (b1.trans h.hn),(heap_setCell_other w2 _ Bo _ e3).trans (b2.trans h.ho),heap_setCell_same w2 Br 0 _ _ _ (b3.trans h.hr),
  ownsRow_at (ownsRow_at h.ro (fun k hk=>hg.block k (h.ro.lt k hk).2 (fun e=>h.apart k hk e.symm))) (fun k hk=>heap_setCell_other w2 _ k _ (fun e=>h.no.2.2 (by rw [hk,e]))),ownsRow_at hown (fun k hk=>heap_setCell_other w2 _ k _ (fun e=>hgn.2.2 (by have h1:g=k:=(by simpa [Value.ownBlock] using hk);exact h1.trans e))),
  h.low,h.ne,h.no,⟨fun e=>hgn.1 (by simpa [Value.ownBlock] using e),fun e=>hgn.2.1 (by simpa [Value.ownBlock] using e),fun e=>hgn.2.2 (by simpa [Value.ownBlock] using e)⟩,?_⟩
 intro k hk e
 have e':g=k:=by simpa [Value.ownBlock] using e
 subst e'
 rcases hat with h'|h'
 ·exact h.apart g hk h'
 ·have:=(h.ro.lt g hk).2;omega
theorem PutSt.onOut{w0 w w2:World}{Bn Bo Br n g cap m:Nat}{vo:Value}{os ns:List UInt8}{vr:Value}{rs:List UInt8}(h:PutSt w0 w Bn Bo Br n vo os vr rs)
  (hg:w.grownBy w2 vo.ownBlock) (hown:w2.ownsRow w0.heap.size 5 1 (.slice (some ⟨g,0,none⟩) m cap) m ((os ++ ns).map bv)) (hm:m=(os ++ ns).length) (hat:vo.ownBlock=some g∨g=w.heap.size) :
  PutSt w0 (w2.setCell ⟨Bo,0,none⟩ (.slice (some ⟨g,0,none⟩) m cap)) Bn Bo Br n (.slice (some ⟨g,0,none⟩) m cap) (os ++ ns) vr rs:=by
 subst hm
 obtain ⟨h1,h2,h3⟩:=h.lt
 obtain ⟨e1,e2,e3⟩:=h.ne
 have hgn:g≠Bn∧g≠Bo∧g≠Br:=by
  obtain ⟨x1,x2,x3⟩:=h.no
  rcases hat with h'|h'
  ·refine ⟨fun e=>x1 (by rw [h',e]),fun e=>x2 (by rw [h',e]),fun e=>x3 (by rw [h',e])⟩
  ·omega
 have b1:=hg.block Bn h1 (fun e=>h.no.1 e.symm)
 have b2:=hg.block Bo h2 (fun e=>h.no.2.1 e.symm)
 have b3:=hg.block Br h3 (fun e=>h.no.2.2 e.symm)
 refine ⟨(h.bel.grown hg h.bel.size (fun k e=>(h.ro.lt k e).1)).setCell h.low.2.1 _,(heap_setCell_other w2 _ Bn _ e1).trans (b1.trans h.hn),heap_setCell_same w2 Bo 0 _ _ _ (b2.trans h.ho),(heap_setCell_other w2 _ Br _ (fun e=>e3 e.symm)).trans (b3.trans h.hr),
  ownsRow_at hown (fun k hk=>heap_setCell_other w2 _ k _ (fun e=>hgn.2.1 (by have h1:g=k:=(by simpa [Value.ownBlock] using hk);exact h1.trans e))),ownsRow_at (ownsRow_at h.rr (fun k hk=>hg.block k (h.rr.lt k hk).2 (fun e=>h.apart k e.symm hk))) (fun k hk=>heap_setCell_other w2 _ k _ (fun e=>h.nr.2.1 (by rw [hk,e]))),
  h.low,h.ne,⟨fun e=>hgn.1 (by simpa [Value.ownBlock] using e),fun e=>hgn.2.1 (by simpa [Value.ownBlock] using e),fun e=>hgn.2.2 (by simpa [Value.ownBlock] using e)⟩,h.nr,?_⟩
 intro k hk e
 have e':g=k:=by simpa [Value.ownBlock] using hk
 subst e'
 rcases hat with h'|h'
 ·exact h.apart g h' e
 ·have:=(h.rr.lt g e).2;omega
theorem PutSt.start(w w1:World)(n:Nat)(a1:Option Addr)(nb c1:Nat)(bs:List UInt8)(hnb:nb=bs.length)(x:UInt8)(hB:Below w.heap.size w w1)(kb:w1.heap[w.heap.size]? = some (.cells #[.int .u64 n] 45 (0,0)))
  (ho:w1.ownsRow (w.heap.size+1) 5 1 (.slice a1 nb c1) nb (bs.map bv)) (hz:w.heap.size<w1.heap.size) :
  PutSt w (((w1.alloc (.cells #[.slice a1 nb c1] 47)).alloc (.cells #[.int .u8 (x.toNat:Int)] 5)).alloc (.cells #[.slice (some ⟨w1.heap.size+1,0,none⟩) 1 1] 47))
   w.heap.size w1.heap.size (w1.heap.size+1+1) n (.slice a1 nb c1) bs (.slice (some ⟨w1.heap.size+1,0,none⟩) 1 1) [x]:=by
 subst hnb
 have hlt:=ho.lt
 have h1:∀ k,k<w1.heap.size→(((w1.alloc (.cells #[.slice a1 bs.length c1] 47)).alloc (.cells #[.int .u8 (x.toNat:Int)] 5)).alloc (.cells #[.slice (some ⟨w1.heap.size+1,0,none⟩) 1 1] 47)).heap[k]? = w1.heap[k]?:=fun k hk=>by
  rw [Below.heap_alloc _ _ _ (by simp;omega),Below.heap_alloc _ _ _ (by simp;omega),Below.heap_alloc _ _ _ hk]
 refine ⟨((hB.alloc (by omega) _).alloc (by simp;omega) _).alloc (by simp;omega) _,(h1 _ hz).trans kb,?_,?_,ownsRow_at (ownsRow_mono ho (by omega)) (fun k hk=>h1 k (hlt k hk).2),?_,⟨Nat.le_refl _,by omega,by omega⟩,⟨by omega,by omega,by omega⟩,
  ⟨fun e=>by have:=hlt _ e;omega,fun e=>by have:=hlt _ e;omega,fun e=>by have:=hlt _ e;omega⟩,⟨by simp [Value.ownBlock];omega,by simp [Value.ownBlock],by simp [Value.ownBlock]⟩,fun g hg=>by have:=hlt _ hg;simp [Value.ownBlock];omega⟩
 ·rw [Below.heap_alloc _ _ _ (by simp;omega),Below.heap_alloc _ _ _ (by simp)]
  exact heap_alloc_new _ _
 ·have:=heap_alloc_new ((w1.alloc (.cells #[.slice a1 bs.length c1] 47)).alloc (.cells #[.int .u8 (x.toNat:Int)] 5)) (.cells #[.slice (some ⟨w1.heap.size+1,0,none⟩) 1 1] 47)
  simpa using this
 ·have h2:=(World.ownsRow_lit (base:=w.heap.size) (e:=5) (size:=1) (w1.alloc (.cells #[.slice a1 bs.length c1] 47)) #[.int .u8 (x.toNat:Int)] 1 (by simp;omega) (by unfold maxLen;omega) rfl).alloc (.cells #[.slice (some ⟨w1.heap.size+1,0,none⟩) 1 1] 47)
  simpa [bv] using h2
theorem wpIn_append_lies{P:Program}{F:Fence}{nn:Nat}(w:World){o:Oper}{a:Act}{K:Act→World→Prop}{Q:Exit→Act→World→Prop}(s x:Operand)(t:TypeId)
  (ho:o.op=.call { callee:=.builtin .append,args:=#[s,x],argTypes:=#[t,t] })
  (base:Nat) (e:TypeId) (i:TypeInfo) (z:Value) (size bytes:Nat) (ht:P.underlying t=some (.slice e)) (hi:P.info? e=some i) (hz:i.zero=some z)
  (hsize:i.size=size) (hby:i.bytes=bytes) (hzs:z.cells.size=size) (hsz:0<size)
  (v:Value) (n:Nat) (xs:List Value) (hs:a.eval s=v) (hown:w.ownsRow base e size v n xs)
  (ad:Addr) (m c:Nat) (news:List Value) (hx:a.eval x=.slice (some ad) m c) (hl:news.length=m * size) (hnews:∀ j u,news[j]? = some u→w.cell? (ad.add j)=some u) (h1:∀ u∈news,u.oneCell'=true)
  (hm:0<m) (h63:n+m≤maxLen) (hbytes:(n+m) * bytes≤140737488355328) (hbase:base≤w.heap.size) (H:Nat) (hH:w.heap.size=H)
  (h:∀ g cap w',w'.ownsRow base e size (.slice (some ⟨g,0,none⟩) (n+m) cap) (n+m) (xs ++ news)→w.grownBy w' v.ownBlock→(v.ownBlock=some g∨g=H)→g<w'.heap.size→K (a.put o.dst (.slice (some ⟨g,0,none⟩) (n+m) cap)) w'):o.wpIn F nn P a w K Q:=by
 obtain ⟨g,cap,w',hr,h2,h3,h4,h5⟩:=run_append_lies (P:=P) w t o.type base e i z size bytes ht hi hz hsize hby hzs hsz v n xs hown ad m c news hl hnews h1 hm h63 hbytes hbase H hH
 unfold Oper.wpIn
 refine ⟨fun f hf=>?_,?_⟩
 ·simp [Oper.about,ho,resolve,Target.leads] at hf
 ·rw [Oper.semAt_eq _ _ _ (by rw [ho];intro c hc;cases hc)]
  unfold execOp
  simp only [ho,resolve,invoke,builtin,Sem.run_bind,Sem.run_pure,Result.andThen_ok,List.map_toArray,List.map_cons,List.map_nil,hs,hx,hr]
  exact h g cap w' h2 h3 h4 h5
theorem owns_cells{w:World}{base:Nat}{e:TypeId}{size n:Nat}{v:Value}{xs:List Value}(h:w.ownsRow base e size v n xs)(k:Nat)(hk:v.ownBlock=some k):∃ cs t f,w.heap[k]? = some (.cells cs t f):=by
 rcases h.2 with ⟨rfl,_⟩|⟨g,cap,cur,rfl,_,hg,_⟩
 ·cases hk
 ·have e:g=k:=by simpa [Value.ownBlock] using hk
  subst e
  exact ⟨_,_,_,hg⟩
theorem PutSt.grown{w0 w w':World}{Bn Bo Br n:Nat}{vo:Value}{os:List UInt8}{vr:Value}{rs:List UInt8}{row:Option Nat}{B:Nat}(h:PutSt w0 w Bn Bo Br n vo os vr rs)(hg:w.grownBy w' row)
  (hB:w0.heap.size≤B) (hr:∀ r,row=some r→B≤r∧∃ o:Obj,w.heap[r]? = some o∧o.isCells=false):PutSt w0 w' Bn Bo Br n vo os vr rs:=by
 obtain ⟨h1,h2,h3⟩:=h.lt
 have key:∀ (k:Nat) (cs:Array Value) (t:TypeId) (f:Nat×Nat),w.heap[k]? = some (Obj.cells cs t f)→w'.heap[k]? = w.heap[k]?:=fun k cs t f hk=>hg.block k (Array.getElem?_eq_some_iff.1 hk).1 (fun e=>by
  obtain ⟨_,o,ho,hc⟩:=hr k e.symm
  rw [hk] at ho
  cases ho
  cases hc)
 refine ⟨h.bel.grown hg h.bel.size (fun k e=>Nat.le_trans hB (hr k e).1),(key _ _ _ _ h.hn).trans h.hn,(key _ _ _ _ h.ho).trans h.ho,(key _ _ _ _ h.hr).trans h.hr,
  ownsRow_at h.ro (fun k hk=>?_),ownsRow_at h.rr (fun k hk=>?_),h.low,h.ne,h.no,h.nr,h.apart⟩
 ·obtain ⟨cs,t,f,hc⟩:=owns_cells h.ro k hk
  exact key k cs t f hc
 ·obtain ⟨cs,t,f,hc⟩:=owns_cells h.rr k hk
  exact key k cs t f hc
theorem owns_len{w:World}{base:Nat}{e:TypeId}{size n:Nat}{v:Value}{xs:List Value}(h:w.ownsRow base e size v n xs):∃ a m c,v=.slice a m c∧Hid (m=n):=by
 obtain ⟨a,c,rfl⟩:=ownsRow_len h
 exact ⟨a,n,c,rfl,Hd rfl⟩
theorem owns_cap{w:World}{base:Nat}{e:TypeId}{size n c:Nat}{a:Addr}{xs:List Value}(h:w.ownsRow base e size (.slice (some a) n c) n xs):n≤c∧c≤9223372036854775807:=by
 rcases h.2 with ⟨h1,_⟩|⟨g,cap,cur,h1,_,_,h2,h3,_⟩
 ·cases h1
 ·obtain ⟨_,_,rfl⟩:some a=some ⟨g,0,none⟩∧n=n∧c=cap:=by simpa using h1
  exact ⟨h2,h3⟩
open Go.RowKit Go.Shelf
attribute [local go_sem] Oper.semAt_some
theorem byte_info:(Tryz.prog.info? 5).map (fun i=>(i.zero,i.size,i.bytes))=some (some (.int .u8 0),1,1):=by kernel_rfl
theorem put_4(v:Value)(bs:List UInt8)(n:Nat)(w:World)(h:Reads w 1 v bs.length (bs.map bv))(hlen:bs.length≤70368744177664)(hn:n<18446744073709551616)(hfit:n<256 ^ 4) :
  Calls Tryz.prog 130 #[v,.int .u64 n,.int .i64 4] w fun e w'=>∃ v',e=.returned (.tuple #[v',.nilIface])∧w'.ownsRow w.heap.size 5 1 v' (bs ++ (List.range 4).map (nthByte n)).length ((bs ++ (List.range 4).map (nthByte n)).map bv)∧Below w.heap.size w w':=by
 have hfit':decide (n<256 ^ 4)=true:=by simpa using hfit
 have HF:=Hd hfit'
 have HR:=Hd h
 clear hfit' hfit h
 obtain ⟨i0,hi,hz0,hz1,hz2⟩:=info_parts byte_info
 have HI:=Hd hi
 have HZ0:=Hd hz0
 have HZ1:=Hd hz1
 have HZ2:=Hd hz2
 clear hi hz0 hz1 hz2
 refine (callsIn_wide (n:=4)).1 ?_
 refine callsIn_of_wp_marks Tryz.func130 rfl trivial ?_ rfl
 simp only [Tryz.ntmps130,List.size_toArray,List.length_cons,List.length_nil,Nat.reduceAdd,Nat.reduceSub,Array.replicate_succ,Array.replicate_zero,List.push_toArray,List.append_toArray,List.nil_append,List.cons_append]
 refine wpIn_wide.2 ?_
 go_wp2_with fail
 refine (sized_any 4 _).mono ?_
 rintro e w1 ⟨rfl,rfl⟩
 go_wp2_with fail
 refine (fits_any n 4 hn (by omega) _).mono ?_
 rintro e w1 ⟨rfl,rfl⟩
 rw [HF.out]
 go_wp2_with fail
 refine (clone_Byte v bs.length (bs.map bv) _ (HR.out.below belo) (bv_one bs) (by omega)).mono ?_
 rintro e w1 ⟨v1,rfl,ho1,_,hb1⟩
 have hz1:=hb1.size
 simp only [World.size_alloc] at hz1
 have kn:w1.cell? ⟨w.heap.size,0,none⟩=some (.int .u64 n):=by rw [hb1.cell (by simp)];simp
 have kb:w1.heap[w.heap.size]? = some (.cells #[.int .u64 n] 45 (0,0)):=(hb1.block _ (by simp)).trans (heap_alloc_new _ _)
 have hz1':w.heap.size<w1.heap.size:=by omega
 have HB1:=Hd (Below.trans (B:=w.heap.size) (a:=w) belo (hb1.mono (by simp)))
 simp only [World.size_alloc] at ho1
 obtain ⟨a1,c1,rfl⟩:=ownsRow_len ho1
 have KB:=Hd kb
 have HO1:=Hd ho1
 clear ho1 hb1 hz1 kb
 go_wp2_with fail
 refine Calls.mono (part_any n 0 (by omega) w.heap.size _ hn ?_) ?_
 (focus (go_simp))
 rintro e w2 ⟨rfl,rfl⟩
 go_wp2_with fail
 have hst:=PutSt.start w w1 n a1 bs.length c1 bs rfl (nthByte n 0) HB1.out KB.out HO1.out hz1'
 obtain ⟨W0,hW⟩:∃ W0,(((w1.alloc (.cells #[.slice a1 bs.length c1] 47)).alloc (.cells #[.int .u8 ((nthByte n 0).toNat:Int)] 5)).alloc (.cells #[.slice (some ⟨w1.heap.size+1,0,none⟩) 1 1] 47))=W0:=⟨_,rfl⟩
 rw [hW] at hst ⊢
 clear hW kn hz1' HO1 KB HB1
 generalize w1.heap.size+1+1=Br at *
 generalize w1.heap.size+1=Bq0 at *
 generalize w1.heap.size=Bo at *
 have HST:=Hd hst
 clear hst
 obtain ⟨kn,ko,kr,fo,fr⟩:=HST.out.cells
 obtain ⟨ln,lo,lr⟩:=HST.out.lt
 have hlow:=HST.out.bel.size
 obtain ⟨SS,HSD⟩:∃ SS:World→Prop,Hid (SS=fun w'=>w'.cell? ⟨Br,0,none⟩=some (.slice (some ⟨Bq0,0,none⟩) 1 1)):=⟨_,Hd rfl⟩
 refine wp_region_order0 SS [0] [(0,2),(1,0),(3,0),(2,1),(4,1),(5,1),(6,1),(7,1)] (by kernel_rfl) (by kernel_rfl) rfl (by kernel_rfl) ?_ ?_
 (focus (rw [HSD.out];exact kr));refine stepE2 rfl rfl ?_ (fun w1 hS=>?_) fun K hK=>?_;rotate_left;(focus (rw [HSD.out] at hS;have s0:w1.cell? _=some _:=hS;go_simp;rfl));go_simp;refine hK _ ?_;clear hK K;(iterate 2 refine stepE0 rfl rfl fun K hK=>?_;go_simp;refine hK _ ?_;clear hK K);refine stepE1S rfl rfl fun K hK=>?_
 (go_wp2_with fail;refine Calls.mono (part_any n 3 (by omega) w.heap.size _ hn ?_) ?_;(focus (exact kn));rintro e w2 ⟨rfl,rfl⟩;go_wp2)
 refine ⟨by rw [HSD.out];exact (by show World.cell? _ _=some _;go_simp),?_⟩
 refine stepE1S rfl rfl fun K hK=>?_
 (go_wp2_with fail;refine Calls.mono (part_any n 2 (by omega) w.heap.size _ hn ?_) ?_;(focus (exact kn));rintro e w2 ⟨rfl,rfl⟩;go_wp2)
 refine ⟨by rw [HSD.out];exact (by show World.cell? _ _=some _;go_simp),?_⟩
 refine stepE1S rfl rfl fun K hK=>?_;go_wp2
 refine ⟨by rw [HSD.out];exact (by show World.cell? _ _=some _;go_simp),?_⟩
 refine stepE1 rfl rfl (by kernel_rfl) fun K hK=>?_
 (refine wp_append_lies _ _ _ 47 rfl w.heap.size 5 i0 (.int .u8 0) 1 1 Tryz.underlying47 HI.out HZ0.out HZ1.out HZ2.out rfl (by decide) (.slice (some ⟨Bq0,0,none⟩) 1 1) 1 ([nthByte n 0].map bv) rfl ((HST.out.rr.alloc _).drew) ⟨W0.heap.size,0,none⟩ 2 2 [.int .u8 ((nthByte n 3).toNat:Int),.int .u8 ((nthByte n 2).toNat:Int)] rfl rfl (World.news_of_block (heap_alloc_new W0 _)) (by simp [Value.oneCell']) (by omega) (by unfold maxLen;omega) (by omega) (by simp;omega) _ rfl ?_;intro g cp w2 hown2 hgrow hat hlt2;have HP:=Hd (PutSt.onRest (ns:=[nthByte n 3,nthByte n 2]) (HST.out.drew.keep ((Below.refl _ _).alloc (Nat.le_refl _) _)) hgrow hown2 rfl (by simpa using hat));have hkb:=World.cell?_of_block (a:=⟨Br,0,none⟩) (hgrow.block Br (by simp;omega) (fun e=>HST.out.nr.2.2 e.symm));have hkf:=World.frozen?_of_block (a:=⟨Br,0,none⟩) (hgrow.block Br (by simp;omega) (fun e=>HST.out.nr.2.2 e.symm));clear hgrow hown2 hat;go_wp2)
 refine stepE1 rfl rfl (by kernel_rfl) fun K hK=>?_;go_wp2
 try refine stepEnil0 ?_
 clear HSD SS
 have hst:PutSt w (w2.setCell ⟨Br,0,none⟩ (.slice (some ⟨g,0,none⟩) 3 cp)) w.heap.size Bo Br n (.slice a1 bs.length c1) bs (.slice (some ⟨g,0,none⟩) 3 cp) [nthByte n 0,nthByte n 3,nthByte n 2]:=HP.out
 clear HP HST kn ko kr fo fr ln lo lr hlow hkb hkf hlt2
 generalize w2.setCell ⟨Br,0,none⟩ (.slice (some ⟨g,0,none⟩) 3 cp)=W1 at *
 clear w2
 generalize g=Bq1 at *
 generalize cp=cq1 at *
 go_wp2_with fail
 have HST:=Hd hst
 clear hst
 obtain ⟨kn,ko,kr,fo,fr⟩:=HST.out.cells
 obtain ⟨ln,lo,lr⟩:=HST.out.lt
 have hlow:=HST.out.bel.size
 obtain ⟨SS,HSD⟩:∃ SS:World→Prop,Hid (SS=fun w'=>w'.cell? ⟨Br,0,none⟩=some (.slice (some ⟨Bq1,0,none⟩) 3 cq1)):=⟨_,Hd rfl⟩
 refine wp_region_order0 SS [0] [(0,2),(1,0),(2,1),(3,1),(4,1),(5,1)] (by kernel_rfl) (by kernel_rfl) rfl (by kernel_rfl) ?_ ?_
 (focus (rw [HSD.out];exact kr));refine stepE2 rfl rfl ?_ (fun w1 hS=>?_) fun K hK=>?_;rotate_left;(focus (rw [HSD.out] at hS;have s0:w1.cell? _=some _:=hS;go_simp;rfl));go_simp;refine hK _ ?_;clear hK K;refine stepE0 rfl rfl fun K hK=>?_;go_simp;refine hK _ ?_;clear hK K;refine stepE1S rfl rfl fun K hK=>?_
 (go_wp2_with fail;refine Calls.mono (part_any n 1 (by omega) w.heap.size _ hn ?_) ?_;(focus (exact kn));rintro e w2 ⟨rfl,rfl⟩;go_wp2)
 refine ⟨by rw [HSD.out];exact (by show World.cell? _ _=some _;go_simp),?_⟩
 refine stepE1S rfl rfl fun K hK=>?_;go_wp2
 refine ⟨by rw [HSD.out];exact (by show World.cell? _ _=some _;go_simp),?_⟩
 refine stepE1 rfl rfl (by kernel_rfl) fun K hK=>?_
 (refine wp_append_lies _ _ _ 47 rfl w.heap.size 5 i0 (.int .u8 0) 1 1 Tryz.underlying47 HI.out HZ0.out HZ1.out HZ2.out rfl (by decide) (.slice (some ⟨Bq1,0,none⟩) 3 cq1) 3 ([nthByte n 0,nthByte n 3,nthByte n 2].map bv) rfl ((HST.out.rr.alloc _).drew) ⟨W1.heap.size,0,none⟩ 1 1 [.int .u8 ((nthByte n 1).toNat:Int)] rfl rfl (World.news_of_block (heap_alloc_new W1 _)) (by simp [Value.oneCell']) (by omega) (by unfold maxLen;omega) (by omega) (by simp;omega) _ rfl ?_;intro g cp w2 hown2 hgrow hat hlt2;have HP:=Hd (PutSt.onRest (ns:=[nthByte n 1]) (HST.out.drew.keep ((Below.refl _ _).alloc (Nat.le_refl _) _)) hgrow hown2 rfl (by simpa using hat));have hkb:=World.cell?_of_block (a:=⟨Br,0,none⟩) (hgrow.block Br (by simp;omega) (fun e=>HST.out.nr.2.2 e.symm));have hkf:=World.frozen?_of_block (a:=⟨Br,0,none⟩) (hgrow.block Br (by simp;omega) (fun e=>HST.out.nr.2.2 e.symm));clear hgrow hown2 hat;go_wp2)
 refine stepE1 rfl rfl (by kernel_rfl) fun K hK=>?_;go_wp2
 try refine stepEnil0 ?_
 clear HSD SS
 have hst:PutSt w (w2.setCell ⟨Br,0,none⟩ (.slice (some ⟨g,0,none⟩) 4 cp)) w.heap.size Bo Br n (.slice a1 bs.length c1) bs (.slice (some ⟨g,0,none⟩) 4 cp) [nthByte n 0,nthByte n 3,nthByte n 2,nthByte n 1]:=HP.out
 clear HP HST kn ko kr fo fr ln lo lr hlow hkb hkf hlt2
 generalize w2.setCell ⟨Br,0,none⟩ (.slice (some ⟨g,0,none⟩) 4 cp)=W2 at *
 clear w2
 generalize g=Bq2 at *
 generalize cp=cq2 at *
 go_wp2_with fail
 have HST:=Hd hst
 clear hst
 obtain ⟨kn,ko,kr,fo,fr⟩:=HST.out.cells
 obtain ⟨ln,lo,lr⟩:=HST.out.lt
 have hlow:=HST.out.bel.size
 have kq:W2.cell? ⟨Bq2,0,none⟩=some (.int .u8 ((nthByte n 0).toNat:Int)):=HST.out.rr.cellAt 0 (by decide)
 have lq:=(HST.out.rr.lt _ rfl).2
 obtain ⟨hq1,hq2⟩:=owns_cap HST.out.rr
 change 4≤cq2 at hq1
 obtain ⟨SS,HSD⟩:∃ SS:World→Prop,Hid (SS=fun w'=>w'.cell? ⟨Bo,0,none⟩=some (.slice a1 bs.length c1)∧w'.cell? ⟨Br,0,none⟩=some (.slice (some ⟨Bq2,0,none⟩) 4 cq2)∧w'.cell? ⟨Bq2,0,none⟩=some (.int .u8 ((nthByte n 0).toNat:Int))):=⟨_,Hd rfl⟩
 refine wp_region_order0 SS [0,1,3] [(0,2),(1,2),(2,0),(3,2),(4,1),(5,1),(6,1)] (by kernel_rfl) (by kernel_rfl) rfl (by kernel_rfl) ?_ ?_
 (focus (rw [HSD.out];exact ⟨ko,kr,kq⟩));refine stepE2 rfl rfl ?_ (fun w1 hS=>?_) fun K hK=>?_;rotate_left;(focus (rw [HSD.out] at hS;obtain ⟨s0,s1,s2⟩:=hS;go_simp;rfl));go_simp;refine hK _ ?_;clear hK K;refine stepE2 rfl rfl ?_ (fun w1 hS=>?_) fun K hK=>?_;rotate_left;(focus (rw [HSD.out] at hS;obtain ⟨s0,s1,s2⟩:=hS;go_simp;rfl));go_simp;refine hK _ ?_;clear hK K;refine stepE0 rfl rfl fun K hK=>?_;go_simp;refine hK _ ?_;clear hK K;refine stepE2 rfl rfl ?_ (fun w1 hS=>?_) fun K hK=>?_;rotate_left;(focus (rw [HSD.out] at hS;obtain ⟨s0,s1,s2⟩:=hS;go_simp;rfl));go_simp;refine hK _ ?_;clear hK K;refine stepE1S rfl rfl fun K hK=>?_;go_wp2
 refine ⟨by rw [HSD.out];exact (by refine ⟨?_,?_,?_⟩ <;> go_simp),?_⟩
 refine stepE1 rfl rfl (by kernel_rfl) fun K hK=>?_
 (refine wp_append_lies _ _ _ 47 rfl w.heap.size 5 i0 (.int .u8 0) 1 1 Tryz.underlying47 HI.out HZ0.out HZ1.out HZ2.out rfl (by decide) (.slice a1 bs.length c1) bs.length (bs.map bv) rfl ((HST.out.ro.alloc _).drew) ⟨W2.heap.size,0,none⟩ 1 1 [.int .u8 ((nthByte n 0).toNat:Int)] rfl rfl (World.news_of_block (heap_alloc_new W2 _)) (by simp [Value.oneCell']) (by omega) (by unfold maxLen;omega) (by omega) (by simp;omega) _ rfl ?_;intro g cp w2 hown2 hgrow hat hlt2;have HP:=Hd (PutSt.onOut (ns:=[nthByte n 0]) (HST.out.drew.keep ((Below.refl _ _).alloc (Nat.le_refl _) _)) hgrow (by rw [List.map_append];exact hown2) (by simp) (by simpa using hat));have hkb:=World.cell?_of_block (a:=⟨Bo,0,none⟩) (hgrow.block Bo (by simp;omega) (fun e=>HST.out.no.2.1 e.symm));have hkf:=World.frozen?_of_block (a:=⟨Bo,0,none⟩) (hgrow.block Bo (by simp;omega) (fun e=>HST.out.no.2.1 e.symm));clear hgrow hown2 hat;go_wp2)
 refine stepE1 rfl rfl (by kernel_rfl) fun K hK=>?_;go_wp2
 try refine stepEnil0 ?_
 clear HSD SS
 have hst:PutSt w (w2.setCell ⟨Bo,0,none⟩ (.slice (some ⟨g,0,none⟩) (bs.length+1) cp)) w.heap.size Bo Br n (.slice (some ⟨g,0,none⟩) (bs.length+1) cp) (bs ++ [nthByte n 0]) (.slice (some ⟨Bq2,0,none⟩) 4 cq2) [nthByte n 0,nthByte n 3,nthByte n 2,nthByte n 1]:=HP.out
 clear HP HST kn ko kr fo fr ln lo lr hlow hkb hkf hlt2 kq lq
 generalize w2.setCell ⟨Bo,0,none⟩ (.slice (some ⟨g,0,none⟩) (bs.length+1) cp)=W at *
 clear w2
 generalize g=Bp at *
 generalize cp=cq at *
 have HST:=Hd hst
 clear hst
 obtain ⟨kn,ko,kr,fo,fr⟩:=HST.out.cells
 obtain ⟨ln,lo,lr⟩:=HST.out.lt
 have hlow:=HST.out.bel.size
 go_wp2_with fail
 refine (back_any _ _ _ _).mono ?_
 rintro e w2 ⟨rfl,rfl⟩
 go_wp2_with fail
 have lq:Bq2<W.heap.size:=(HST.out.rr.lt _ rfl).2
 have hBq:=Hd (show ∀ i x,[nthByte n 0,nthByte n 3,nthByte n 2,nthByte n 1][i]? = some x→W.cell? ⟨Bq2,i,none⟩=some (.int .u8 (x.toNat:Int)) from fun i x hx=>by
  have h1:=HST.out.rr.cellAt i (by have:=(List.getElem?_eq_some_iff.1 hx).1;simp at this ⊢;omega)
  rw [h1,List.getElem?_map,hx];rfl)
 refine (wpIn_wide (n:=4)).1 ?_
 refine wpIn_rangeFunc_one (α:=Fin [nthByte n 3,nthByte n 2,nthByte n 1].length) rfl (by omega) (gf:=187) (lb:=#[.pointer (some ⟨W.heap.size,0,none⟩)]) rfl trivial (enters_of Tryz.func187 (by kernel_rfl) rfl)
  (back_stops Fence.wide 3 trivial rfl (by omega) W.heap.size Bq2 1 (cq2 - 1) [nthByte n 3,nthByte n 2,nthByte n 1] (by simp [maxLen]) _ (by simp) (by simp;omega) (by simp) (fun j hj=>cell_later ((Below.refl _ _).alloc (Nat.le_refl _) _) (hBq.out (1+j) _ (by rw [Nat.add_comm];exact List.getElem?_eq_getElem hj))))
  (fun h k=>h.trans k) (kept_put (by simp;omega) (by simp)) (Below.refl _ _) (fun _=>rfl)
  (fun pre W'=>∃ vo,PutSt w W' w.heap.size Bo Br n vo ((bs ++ [nthByte n 0]) ++ pre.map (fun (i:Fin [nthByte n 3,nthByte n 2,nthByte n 1].length)=>[nthByte n 3,nthByte n 2,nthByte n 1][i.val])) (.slice (some ⟨Bq2,0,none⟩) 4 cq2) [nthByte n 0,nthByte n 3,nthByte n 2,nthByte n 1]∧vo.ownBlock≠some W.heap.size∧W.heap.size<W'.heap.size)
  (fun _ _ _=>False) ?own (fun _ _ _ _ _ hs _ _=>hs) ⟨_,by simpa using HST.out.keep ((Below.refl _ _).alloc (Nat.le_refl _) _),fun e=>by have:=(HST.out.ro.lt _ e).2;omega,by simp⟩
  ?body ?done ?stop
 case own=>
  rintro s A B row ⟨vo,hs,hv,hz⟩ hg hr
  exact ⟨vo,hs.grown hg (by have:=HST.out.bel.size;simp;omega) hr,hv,by have:=hg.size;omega⟩
 case stop=>
  rintro D c pre A _ _ h _
  exact h.elim
 case done=>
  rintro D ys A hD rfl ⟨vo,hs,_,_⟩ hK
  obtain ⟨ao,mo,co,rfl,HM⟩:=owns_len hs.ro
  have HS:=Hd hs
  have HK:=Hd hK
  clear hs hK
  obtain ⟨sn,so,sr,sfo,sfr⟩:=HS.out.cells
  go_wp2
  refine ⟨by simp,.inl ⟨_,_,rfl,run_takeDeferred HK.out,?_⟩⟩
  have hfin:(bs ++ [nthByte n 0]) ++ (backL [nthByte n 3,nthByte n 2,nthByte n 1].length 0).map (fun (i:Fin [nthByte n 3,nthByte n 2,nthByte n 1].length)=>[nthByte n 3,nthByte n 2,nthByte n 1][i.val])=bs ++ (List.range 4).map (nthByte n):=by
   rw [List.append_assoc]
   rfl
  have hr:=HS.out.ro
  rw [hfin] at hr
  have hm:=HM.out
  rw [hfin] at hm
  subst hm
  exact ⟨_,results_tmp2 rfl _ _ _,_,rfl,ownsRow_putObj hr _ HK.out rfl,HS.out.bel.trans (belowK_b (w:=w) (Nat.le_refl _) A D _ _ (by have:=HST.out.bel.size;simp at hD;omega) HK.out rfl rfl)⟩
 case body=>
  rintro l pre x A ⟨vo,hs,hvb,hza⟩ hlen2
  obtain ⟨ao,mo,co,rfl,HM⟩:=owns_len hs.ro
  have HS:=Hd hs
  clear hs
  obtain ⟨sn,so,sr,sfo,sfr⟩:=HS.out.cells
  obtain ⟨ln2,lo2,lr2⟩:=HS.out.lt
  have hlow2:=HS.out.bel.size
  obtain ⟨xi,hxi⟩:=x
  have hxi':xi<3:=hxi
  obtain ⟨y,hy⟩:∃ y,[nthByte n 3,nthByte n 2,nthByte n 1][xi]'hxi=y:=⟨_,rfl⟩
  have HY:=Hd hy
  have hq:A.cell? ⟨Bq2,xi+1,none⟩=some (.int .u8 (y.toNat:Int)):=by
   have h1:=HS.out.rr.cellAt (xi+1) (by simp;omega)
   rw [h1,List.getElem?_map,List.getElem?_cons_succ,List.getElem?_eq_getElem hxi,hy];rfl
  have lq2:Bq2<A.heap.size:=(HS.out.rr.lt _ rfl).2
  have hmo:mo≤80368744177664:=by
   have h1:=HM.out
   have h2:pre.length<3:=hlen2
   simp at h1
   omega
  simp only [assignAct,backEnc,hy]
  clear hy
  have hw1:IntKind.i64.wrap ((xi:Int)+1)=(xi:Int)+1:=IntWalk.i64_in _ (by omega)
  have hw2:(0:Int)≤(xi:Int)+1:=by omega
  have hw3:(xi:Int)+1<4:=by omega
  have hw4:((xi:Int)+1).toNat=xi+1:=by omega
  gi_wp2
  obtain ⟨SS,HSD⟩:∃ SS:World→Prop,Hid (SS=fun w'=>w'.cell? ⟨Bo,0,none⟩=some (.slice ao mo co)∧w'.cell? ⟨Br,0,none⟩=some (.slice (some ⟨Bq2,0,none⟩) 4 cq2)∧w'.cell? ⟨Bq2,xi+1,none⟩=some (.int .u8 (y.toNat:Int))):=⟨_,Hd rfl⟩
  refine wpIn_region_order0 SS [0,1,5] [(0,2),(1,2),(2,0),(3,0),(4,0),(5,2),(6,1),(7,1),(8,1)] (by kernel_rfl) (by kernel_rfl) (by kernel_rfl) rfl (by kernel_rfl) ?_ ?_
  (focus (rw [HSD.out];exact ⟨so,sr,hq⟩))
  refine stepI2 rfl rfl (fun _=>rfl) ?_ (fun w1 hS=>?_) (fun K hK=>?_)
  rotate_left;(focus (rw [HSD.out] at hS;obtain ⟨s0,s1,s2⟩:=hS;go_simp;rfl));go_simp;refine hK _ ?_;clear hK K
  refine stepI2 rfl rfl (fun _=>rfl) ?_ (fun w1 hS=>?_) (fun K hK=>?_)
  rotate_left;(focus (rw [HSD.out] at hS;obtain ⟨s0,s1,s2⟩:=hS;go_simp;rfl));go_simp;refine hK _ ?_;clear hK K
  refine stepI0 rfl rfl (fun _=>rfl) (fun K hK=>?_)
  go_simp;refine hK _ ?_;clear hK K
  refine stepI0 rfl rfl (fun _=>rfl) (fun K hK=>?_)
  go_simp;refine hK _ ?_;clear hK K
  refine stepI0 rfl rfl (fun _=>rfl) (fun K hK=>?_)
  go_simp;refine hK _ ?_;clear hK K
  refine stepI2 rfl rfl (fun _=>rfl) ?_ (fun w1 hS=>?_) (fun K hK=>?_)
  rotate_left;(focus (rw [HSD.out] at hS;obtain ⟨s0,s1,s2⟩:=hS;go_simp;rfl));go_simp;refine hK _ ?_;clear hK K;refine stepI1S rfl rfl fun K hK=>?_;gi_wp2
  refine ⟨by rw [HSD.out];exact (by refine ⟨?_,?_,?_⟩ <;> go_simp),?_⟩
  refine stepI1 rfl rfl (by kernel_rfl) fun K hK=>?_
  (refine wpIn_append_lies _ _ _ 47 rfl w.heap.size 5 i0 (.int .u8 0) 1 1 Tryz.underlying47 HI.out HZ0.out HZ1.out HZ2.out rfl (by decide) (.slice ao mo co) mo (((bs ++ [nthByte n 0]) ++ pre.map (fun (i:Fin [nthByte n 3,nthByte n 2,nthByte n 1].length)=>[nthByte n 3,nthByte n 2,nthByte n 1][i.val])).map bv) rfl (by have h1:=(HS.out.ro.alloc (.cells #[.int .u8 (y.toNat:Int)] 5)).drew;have h2:=HM.out;rw [←h2] at h1;exact h1) ⟨A.heap.size,0,none⟩ 1 1 [.int .u8 (y.toNat:Int)] rfl rfl (World.news_of_block (heap_alloc_new A _)) (by simp [Value.oneCell']) (by omega) (by unfold maxLen;omega) (by omega) (by simp;omega) _ rfl ?_;intro g cp w2 hown2 hgrow hat hlt2;have HP:=Hd (PutSt.onOut (ns:=[y]) (HS.out.drew.keep ((Below.refl _ _).alloc (Nat.le_refl _) _)) hgrow (by rw [List.map_append];exact hown2) (by have:=HM.out;simp at this ⊢;omega) (by simpa using hat));have hkb:=World.cell?_of_block (a:=⟨Bo,0,none⟩) (hgrow.block Bo (by simp;omega) (fun e=>HS.out.no.2.1 e.symm));have hkf:=World.frozen?_of_block (a:=⟨Bo,0,none⟩) (hgrow.block Bo (by simp;omega) (fun e=>HS.out.no.2.1 e.symm));have HG:=Hd hgrow;have hat':(Value.slice ao mo co).ownBlock=some g∨g=A.heap.size+1:=(by simpa using hat);have hat2:=Hd hat';clear hgrow hown2 hat hat';gi_wp2)
  refine stepI1 rfl rfl (by kernel_rfl) fun K hK=>?_;gi_wp2
  try refine stepInil0 ?_
  clear HSD SS
  have hca:∀ (j:Nat) (o:Obj),(Value.slice ao mo co).ownBlock=some j→A.heap[j]? = some o→o.isCells=true:=fun j o hj ho=>by
   obtain ⟨cs,t,f,hc⟩:=owns_cells HS.out.ro j hj
   rw [hc] at ho
   cases ho
   rfl
  have hblk:∀ k,k<A.heap.size→k≠Bo→(Value.slice ao mo co).ownBlock≠some k→(w2.setCell ⟨Bo,0,none⟩ (.slice (some ⟨g,0,none⟩) (mo+1) cp)).heap[k]? = A.heap[k]?:=fun k hk hne hnb=>by
   rw [heap_setCell_other _ _ _ _ hne,HG.out.block k (by simp;omega) (fun e=>hnb e.symm)]
   exact Below.heap_alloc _ _ _ hk
  refine ⟨?_,⟨hblk _ lq2 (fun e=>HS.out.nr.2.1 (by rw [←e];rfl)) (fun e=>HS.out.apart _ e rfl),hblk _ hza (fun e=>by have:=HST.out.lt.2.1;omega) hvb⟩,.slice (some ⟨g,0,none⟩) (mo+1) cp,?_,?_,?_⟩
  ·refine KeepsOthers.from (KeepsOthers.trans (KeepsOthers.trans (KeepsOthers.trans (KeepsOthers.alloc A _) (KeepsOthers.drew _)) (KeepsOthers.of_grownBy HG.out fun j o hj ho=>?_)) (KeepsOthers.setCell _ _ _)) _
   refine hca j o hj ?_
   have hjl:=(HS.out.ro.lt j hj).2
   rw [←ho]
   exact (Below.heap_alloc _ _ _ hjl).symm
  ·have h1:=HP.out
   rw [List.append_assoc] at h1
   rw [List.map_append]
   simp only [List.map_cons,List.map_nil,HY.out]
   exact h1
  ·intro e
   have e':g=W.heap.size:=by simpa [Value.ownBlock] using e
   rcases hat2.out with h|h
   ·exact hvb (by rw [←e'];exact h)
   ·omega
  ·have:=HG.out.size
   simp at this ⊢
   omega
open Go.RowKit Go.Shelf
attribute [local go_sem] Oper.semAt_some
theorem put_8(v:Value)(bs:List UInt8)(n:Nat)(w:World)(h:Reads w 1 v bs.length (bs.map bv))(hlen:bs.length≤70368744177664)(hn:n<18446744073709551616)(hfit:n<256 ^ 8) :
  Calls Tryz.prog 130 #[v,.int .u64 n,.int .i64 8] w fun e w'=>∃ v',e=.returned (.tuple #[v',.nilIface])∧w'.ownsRow w.heap.size 5 1 v' (bs ++ (List.range 8).map (nthByte n)).length ((bs ++ (List.range 8).map (nthByte n)).map bv)∧Below w.heap.size w w':=by
 have hfit':decide (n<256 ^ 8)=true:=by simpa using hfit
 have HF:=Hd hfit'
 have HR:=Hd h
 clear hfit' hfit h
 obtain ⟨i0,hi,hz0,hz1,hz2⟩:=info_parts byte_info
 have HI:=Hd hi
 have HZ0:=Hd hz0
 have HZ1:=Hd hz1
 have HZ2:=Hd hz2
 clear hi hz0 hz1 hz2
 refine (callsIn_wide (n:=4)).1 ?_
 refine callsIn_of_wp_marks Tryz.func130 rfl trivial ?_ rfl
 simp only [Tryz.ntmps130,List.size_toArray,List.length_cons,List.length_nil,Nat.reduceAdd,Nat.reduceSub,Array.replicate_succ,Array.replicate_zero,List.push_toArray,List.append_toArray,List.nil_append,List.cons_append]
 refine wpIn_wide.2 ?_
 go_wp2_with fail
 refine (sized_any 8 _).mono ?_
 rintro e w1 ⟨rfl,rfl⟩
 go_wp2_with fail
 refine (fits_any n 8 hn (by omega) _).mono ?_
 rintro e w1 ⟨rfl,rfl⟩
 rw [HF.out]
 go_wp2_with fail
 refine (clone_Byte v bs.length (bs.map bv) _ (HR.out.below belo) (bv_one bs) (by omega)).mono ?_
 rintro e w1 ⟨v1,rfl,ho1,_,hb1⟩
 have hz1:=hb1.size
 simp only [World.size_alloc] at hz1
 have kn:w1.cell? ⟨w.heap.size,0,none⟩=some (.int .u64 n):=by rw [hb1.cell (by simp)];simp
 have kb:w1.heap[w.heap.size]? = some (.cells #[.int .u64 n] 45 (0,0)):=(hb1.block _ (by simp)).trans (heap_alloc_new _ _)
 have hz1':w.heap.size<w1.heap.size:=by omega
 have HB1:=Hd (Below.trans (B:=w.heap.size) (a:=w) belo (hb1.mono (by simp)))
 simp only [World.size_alloc] at ho1
 obtain ⟨a1,c1,rfl⟩:=ownsRow_len ho1
 have KB:=Hd kb
 have HO1:=Hd ho1
 clear ho1 hb1 hz1 kb
 go_wp2_with fail
 refine Calls.mono (part_any n 0 (by omega) w.heap.size _ hn ?_) ?_
 (focus (go_simp))
 rintro e w2 ⟨rfl,rfl⟩
 go_wp2_with fail
 have hst:=PutSt.start w w1 n a1 bs.length c1 bs rfl (nthByte n 0) HB1.out KB.out HO1.out hz1'
 obtain ⟨W0,hW⟩:∃ W0,(((w1.alloc (.cells #[.slice a1 bs.length c1] 47)).alloc (.cells #[.int .u8 ((nthByte n 0).toNat:Int)] 5)).alloc (.cells #[.slice (some ⟨w1.heap.size+1,0,none⟩) 1 1] 47))=W0:=⟨_,rfl⟩
 rw [hW] at hst ⊢
 clear hW kn hz1' HO1 KB HB1
 generalize w1.heap.size+1+1=Br at *
 generalize w1.heap.size+1=Bq0 at *
 generalize w1.heap.size=Bo at *
 have HST:=Hd hst
 clear hst
 obtain ⟨kn,ko,kr,fo,fr⟩:=HST.out.cells
 obtain ⟨ln,lo,lr⟩:=HST.out.lt
 have hlow:=HST.out.bel.size
 obtain ⟨SS,HSD⟩:∃ SS:World→Prop,Hid (SS=fun w'=>w'.cell? ⟨Br,0,none⟩=some (.slice (some ⟨Bq0,0,none⟩) 1 1)):=⟨_,Hd rfl⟩
 refine wp_region_order0 SS [0] [(0,2),(1,0),(3,0),(5,0),(7,0),(2,1),(4,1),(6,1),(8,1),(9,1),(10,1),(11,1)] (by kernel_rfl) (by kernel_rfl) rfl (by kernel_rfl) ?_ ?_
 (focus (rw [HSD.out];exact kr));refine stepE2 rfl rfl ?_ (fun w1 hS=>?_) fun K hK=>?_;rotate_left;(focus (rw [HSD.out] at hS;have s0:w1.cell? _=some _:=hS;go_simp;rfl));go_simp;refine hK _ ?_;clear hK K;(iterate 4 refine stepE0 rfl rfl fun K hK=>?_;go_simp;refine hK _ ?_;clear hK K);refine stepE1S rfl rfl fun K hK=>?_
 (go_wp2_with fail;refine Calls.mono (part_any n 7 (by omega) w.heap.size _ hn ?_) ?_;(focus (exact kn));rintro e w2 ⟨rfl,rfl⟩;go_wp2)
 refine ⟨by rw [HSD.out];exact (by show World.cell? _ _=some _;go_simp),?_⟩
 refine stepE1S rfl rfl fun K hK=>?_
 (go_wp2_with fail;refine Calls.mono (part_any n 6 (by omega) w.heap.size _ hn ?_) ?_;(focus (exact kn));rintro e w2 ⟨rfl,rfl⟩;go_wp2)
 refine ⟨by rw [HSD.out];exact (by show World.cell? _ _=some _;go_simp),?_⟩
 refine stepE1S rfl rfl fun K hK=>?_
 (go_wp2_with fail;refine Calls.mono (part_any n 5 (by omega) w.heap.size _ hn ?_) ?_;(focus (exact kn));rintro e w2 ⟨rfl,rfl⟩;go_wp2)
 refine ⟨by rw [HSD.out];exact (by show World.cell? _ _=some _;go_simp),?_⟩
 refine stepE1S rfl rfl fun K hK=>?_
 (go_wp2_with fail;refine Calls.mono (part_any n 4 (by omega) w.heap.size _ hn ?_) ?_;(focus (exact kn));rintro e w2 ⟨rfl,rfl⟩;go_wp2)
 refine ⟨by rw [HSD.out];exact (by show World.cell? _ _=some _;go_simp),?_⟩
 refine stepE1S rfl rfl fun K hK=>?_;go_wp2
 refine ⟨by rw [HSD.out];exact (by show World.cell? _ _=some _;go_simp),?_⟩
 refine stepE1 rfl rfl (by kernel_rfl) fun K hK=>?_
 (refine wp_append_lies _ _ _ 47 rfl w.heap.size 5 i0 (.int .u8 0) 1 1 Tryz.underlying47 HI.out HZ0.out HZ1.out HZ2.out rfl (by decide) (.slice (some ⟨Bq0,0,none⟩) 1 1) 1 ([nthByte n 0].map bv) rfl ((HST.out.rr.alloc _).drew) ⟨W0.heap.size,0,none⟩ 4 4 [.int .u8 ((nthByte n 7).toNat:Int),.int .u8 ((nthByte n 6).toNat:Int),.int .u8 ((nthByte n 5).toNat:Int),.int .u8 ((nthByte n 4).toNat:Int)] rfl rfl (World.news_of_block (heap_alloc_new W0 _)) (by simp [Value.oneCell']) (by omega) (by unfold maxLen;omega) (by omega) (by simp;omega) _ rfl ?_;intro g cp w2 hown2 hgrow hat hlt2;have HP:=Hd (PutSt.onRest (ns:=[nthByte n 7,nthByte n 6,nthByte n 5,nthByte n 4]) (HST.out.drew.keep ((Below.refl _ _).alloc (Nat.le_refl _) _)) hgrow hown2 rfl (by simpa using hat));have hkb:=World.cell?_of_block (a:=⟨Br,0,none⟩) (hgrow.block Br (by simp;omega) (fun e=>HST.out.nr.2.2 e.symm));have hkf:=World.frozen?_of_block (a:=⟨Br,0,none⟩) (hgrow.block Br (by simp;omega) (fun e=>HST.out.nr.2.2 e.symm));clear hgrow hown2 hat;go_wp2)
 refine stepE1 rfl rfl (by kernel_rfl) fun K hK=>?_;go_wp2
 try refine stepEnil0 ?_
 clear HSD SS
 have hst:PutSt w (w2.setCell ⟨Br,0,none⟩ (.slice (some ⟨g,0,none⟩) 5 cp)) w.heap.size Bo Br n (.slice a1 bs.length c1) bs (.slice (some ⟨g,0,none⟩) 5 cp) [nthByte n 0,nthByte n 7,nthByte n 6,nthByte n 5,nthByte n 4]:=HP.out
 clear HP HST kn ko kr fo fr ln lo lr hlow hkb hkf hlt2
 generalize w2.setCell ⟨Br,0,none⟩ (.slice (some ⟨g,0,none⟩) 5 cp)=W1 at *
 clear w2
 generalize g=Bq1 at *
 generalize cp=cq1 at *
 go_wp2_with fail
 have HST:=Hd hst
 clear hst
 obtain ⟨kn,ko,kr,fo,fr⟩:=HST.out.cells
 obtain ⟨ln,lo,lr⟩:=HST.out.lt
 have hlow:=HST.out.bel.size
 obtain ⟨SS,HSD⟩:∃ SS:World→Prop,Hid (SS=fun w'=>w'.cell? ⟨Br,0,none⟩=some (.slice (some ⟨Bq1,0,none⟩) 5 cq1)):=⟨_,Hd rfl⟩
 refine wp_region_order0 SS [0] [(0,2),(1,0),(3,0),(2,1),(4,1),(5,1),(6,1),(7,1)] (by kernel_rfl) (by kernel_rfl) rfl (by kernel_rfl) ?_ ?_
 (focus (rw [HSD.out];exact kr));refine stepE2 rfl rfl ?_ (fun w1 hS=>?_) fun K hK=>?_;rotate_left;(focus (rw [HSD.out] at hS;have s0:w1.cell? _=some _:=hS;go_simp;rfl));go_simp;refine hK _ ?_;clear hK K;(iterate 2 refine stepE0 rfl rfl fun K hK=>?_;go_simp;refine hK _ ?_;clear hK K);refine stepE1S rfl rfl fun K hK=>?_
 (go_wp2_with fail;refine Calls.mono (part_any n 3 (by omega) w.heap.size _ hn ?_) ?_;(focus (exact kn));rintro e w2 ⟨rfl,rfl⟩;go_wp2)
 refine ⟨by rw [HSD.out];exact (by show World.cell? _ _=some _;go_simp),?_⟩
 refine stepE1S rfl rfl fun K hK=>?_
 (go_wp2_with fail;refine Calls.mono (part_any n 2 (by omega) w.heap.size _ hn ?_) ?_;(focus (exact kn));rintro e w2 ⟨rfl,rfl⟩;go_wp2)
 refine ⟨by rw [HSD.out];exact (by show World.cell? _ _=some _;go_simp),?_⟩
 refine stepE1S rfl rfl fun K hK=>?_;go_wp2
 refine ⟨by rw [HSD.out];exact (by show World.cell? _ _=some _;go_simp),?_⟩
 refine stepE1 rfl rfl (by kernel_rfl) fun K hK=>?_
 (refine wp_append_lies _ _ _ 47 rfl w.heap.size 5 i0 (.int .u8 0) 1 1 Tryz.underlying47 HI.out HZ0.out HZ1.out HZ2.out rfl (by decide) (.slice (some ⟨Bq1,0,none⟩) 5 cq1) 5 ([nthByte n 0,nthByte n 7,nthByte n 6,nthByte n 5,nthByte n 4].map bv) rfl ((HST.out.rr.alloc _).drew) ⟨W1.heap.size,0,none⟩ 2 2 [.int .u8 ((nthByte n 3).toNat:Int),.int .u8 ((nthByte n 2).toNat:Int)] rfl rfl (World.news_of_block (heap_alloc_new W1 _)) (by simp [Value.oneCell']) (by omega) (by unfold maxLen;omega) (by omega) (by simp;omega) _ rfl ?_;intro g cp w2 hown2 hgrow hat hlt2;have HP:=Hd (PutSt.onRest (ns:=[nthByte n 3,nthByte n 2]) (HST.out.drew.keep ((Below.refl _ _).alloc (Nat.le_refl _) _)) hgrow hown2 rfl (by simpa using hat));have hkb:=World.cell?_of_block (a:=⟨Br,0,none⟩) (hgrow.block Br (by simp;omega) (fun e=>HST.out.nr.2.2 e.symm));have hkf:=World.frozen?_of_block (a:=⟨Br,0,none⟩) (hgrow.block Br (by simp;omega) (fun e=>HST.out.nr.2.2 e.symm));clear hgrow hown2 hat;go_wp2)
 refine stepE1 rfl rfl (by kernel_rfl) fun K hK=>?_;go_wp2
 try refine stepEnil0 ?_
 clear HSD SS
 have hst:PutSt w (w2.setCell ⟨Br,0,none⟩ (.slice (some ⟨g,0,none⟩) 7 cp)) w.heap.size Bo Br n (.slice a1 bs.length c1) bs (.slice (some ⟨g,0,none⟩) 7 cp) [nthByte n 0,nthByte n 7,nthByte n 6,nthByte n 5,nthByte n 4,nthByte n 3,nthByte n 2]:=HP.out
 clear HP HST kn ko kr fo fr ln lo lr hlow hkb hkf hlt2
 generalize w2.setCell ⟨Br,0,none⟩ (.slice (some ⟨g,0,none⟩) 7 cp)=W2 at *
 clear w2
 generalize g=Bq2 at *
 generalize cp=cq2 at *
 go_wp2_with fail
 have HST:=Hd hst
 clear hst
 obtain ⟨kn,ko,kr,fo,fr⟩:=HST.out.cells
 obtain ⟨ln,lo,lr⟩:=HST.out.lt
 have hlow:=HST.out.bel.size
 obtain ⟨SS,HSD⟩:∃ SS:World→Prop,Hid (SS=fun w'=>w'.cell? ⟨Br,0,none⟩=some (.slice (some ⟨Bq2,0,none⟩) 7 cq2)):=⟨_,Hd rfl⟩
 refine wp_region_order0 SS [0] [(0,2),(1,0),(2,1),(3,1),(4,1),(5,1)] (by kernel_rfl) (by kernel_rfl) rfl (by kernel_rfl) ?_ ?_
 (focus (rw [HSD.out];exact kr));refine stepE2 rfl rfl ?_ (fun w1 hS=>?_) fun K hK=>?_;rotate_left;(focus (rw [HSD.out] at hS;have s0:w1.cell? _=some _:=hS;go_simp;rfl));go_simp;refine hK _ ?_;clear hK K;refine stepE0 rfl rfl fun K hK=>?_;go_simp;refine hK _ ?_;clear hK K;refine stepE1S rfl rfl fun K hK=>?_
 (go_wp2_with fail;refine Calls.mono (part_any n 1 (by omega) w.heap.size _ hn ?_) ?_;(focus (exact kn));rintro e w2 ⟨rfl,rfl⟩;go_wp2)
 refine ⟨by rw [HSD.out];exact (by show World.cell? _ _=some _;go_simp),?_⟩
 refine stepE1S rfl rfl fun K hK=>?_;go_wp2
 refine ⟨by rw [HSD.out];exact (by show World.cell? _ _=some _;go_simp),?_⟩
 refine stepE1 rfl rfl (by kernel_rfl) fun K hK=>?_
 (refine wp_append_lies _ _ _ 47 rfl w.heap.size 5 i0 (.int .u8 0) 1 1 Tryz.underlying47 HI.out HZ0.out HZ1.out HZ2.out rfl (by decide) (.slice (some ⟨Bq2,0,none⟩) 7 cq2) 7 ([nthByte n 0,nthByte n 7,nthByte n 6,nthByte n 5,nthByte n 4,nthByte n 3,nthByte n 2].map bv) rfl ((HST.out.rr.alloc _).drew) ⟨W2.heap.size,0,none⟩ 1 1 [.int .u8 ((nthByte n 1).toNat:Int)] rfl rfl (World.news_of_block (heap_alloc_new W2 _)) (by simp [Value.oneCell']) (by omega) (by unfold maxLen;omega) (by omega) (by simp;omega) _ rfl ?_;intro g cp w2 hown2 hgrow hat hlt2;have HP:=Hd (PutSt.onRest (ns:=[nthByte n 1]) (HST.out.drew.keep ((Below.refl _ _).alloc (Nat.le_refl _) _)) hgrow hown2 rfl (by simpa using hat));have hkb:=World.cell?_of_block (a:=⟨Br,0,none⟩) (hgrow.block Br (by simp;omega) (fun e=>HST.out.nr.2.2 e.symm));have hkf:=World.frozen?_of_block (a:=⟨Br,0,none⟩) (hgrow.block Br (by simp;omega) (fun e=>HST.out.nr.2.2 e.symm));clear hgrow hown2 hat;go_wp2)
 refine stepE1 rfl rfl (by kernel_rfl) fun K hK=>?_;go_wp2
 try refine stepEnil0 ?_
 clear HSD SS
 have hst:PutSt w (w2.setCell ⟨Br,0,none⟩ (.slice (some ⟨g,0,none⟩) 8 cp)) w.heap.size Bo Br n (.slice a1 bs.length c1) bs (.slice (some ⟨g,0,none⟩) 8 cp) [nthByte n 0,nthByte n 7,nthByte n 6,nthByte n 5,nthByte n 4,nthByte n 3,nthByte n 2,nthByte n 1]:=HP.out
 clear HP HST kn ko kr fo fr ln lo lr hlow hkb hkf hlt2
 generalize w2.setCell ⟨Br,0,none⟩ (.slice (some ⟨g,0,none⟩) 8 cp)=W3 at *
 clear w2
 generalize g=Bq3 at *
 generalize cp=cq3 at *
 go_wp2_with fail
 have HST:=Hd hst
 clear hst
 obtain ⟨kn,ko,kr,fo,fr⟩:=HST.out.cells
 obtain ⟨ln,lo,lr⟩:=HST.out.lt
 have hlow:=HST.out.bel.size
 have kq:W3.cell? ⟨Bq3,0,none⟩=some (.int .u8 ((nthByte n 0).toNat:Int)):=HST.out.rr.cellAt 0 (by decide)
 have lq:=(HST.out.rr.lt _ rfl).2
 obtain ⟨hq1,hq2⟩:=owns_cap HST.out.rr
 change 8≤cq3 at hq1
 obtain ⟨SS,HSD⟩:∃ SS:World→Prop,Hid (SS=fun w'=>w'.cell? ⟨Bo,0,none⟩=some (.slice a1 bs.length c1)∧w'.cell? ⟨Br,0,none⟩=some (.slice (some ⟨Bq3,0,none⟩) 8 cq3)∧w'.cell? ⟨Bq3,0,none⟩=some (.int .u8 ((nthByte n 0).toNat:Int))):=⟨_,Hd rfl⟩
 refine wp_region_order0 SS [0,1,3] [(0,2),(1,2),(2,0),(3,2),(4,1),(5,1),(6,1)] (by kernel_rfl) (by kernel_rfl) rfl (by kernel_rfl) ?_ ?_
 (focus (rw [HSD.out];exact ⟨ko,kr,kq⟩));refine stepE2 rfl rfl ?_ (fun w1 hS=>?_) fun K hK=>?_;rotate_left;(focus (rw [HSD.out] at hS;obtain ⟨s0,s1,s2⟩:=hS;go_simp;rfl));go_simp;refine hK _ ?_;clear hK K;refine stepE2 rfl rfl ?_ (fun w1 hS=>?_) fun K hK=>?_;rotate_left;(focus (rw [HSD.out] at hS;obtain ⟨s0,s1,s2⟩:=hS;go_simp;rfl));go_simp;refine hK _ ?_;clear hK K;refine stepE0 rfl rfl fun K hK=>?_;go_simp;refine hK _ ?_;clear hK K;refine stepE2 rfl rfl ?_ (fun w1 hS=>?_) fun K hK=>?_;rotate_left;(focus (rw [HSD.out] at hS;obtain ⟨s0,s1,s2⟩:=hS;go_simp;rfl));go_simp;refine hK _ ?_;clear hK K;refine stepE1S rfl rfl fun K hK=>?_;go_wp2
 refine ⟨by rw [HSD.out];exact (by refine ⟨?_,?_,?_⟩ <;> go_simp),?_⟩
 refine stepE1 rfl rfl (by kernel_rfl) fun K hK=>?_
 (refine wp_append_lies _ _ _ 47 rfl w.heap.size 5 i0 (.int .u8 0) 1 1 Tryz.underlying47 HI.out HZ0.out HZ1.out HZ2.out rfl (by decide) (.slice a1 bs.length c1) bs.length (bs.map bv) rfl ((HST.out.ro.alloc _).drew) ⟨W3.heap.size,0,none⟩ 1 1 [.int .u8 ((nthByte n 0).toNat:Int)] rfl rfl (World.news_of_block (heap_alloc_new W3 _)) (by simp [Value.oneCell']) (by omega) (by unfold maxLen;omega) (by omega) (by simp;omega) _ rfl ?_;intro g cp w2 hown2 hgrow hat hlt2;have HP:=Hd (PutSt.onOut (ns:=[nthByte n 0]) (HST.out.drew.keep ((Below.refl _ _).alloc (Nat.le_refl _) _)) hgrow (by rw [List.map_append];exact hown2) (by simp) (by simpa using hat));have hkb:=World.cell?_of_block (a:=⟨Bo,0,none⟩) (hgrow.block Bo (by simp;omega) (fun e=>HST.out.no.2.1 e.symm));have hkf:=World.frozen?_of_block (a:=⟨Bo,0,none⟩) (hgrow.block Bo (by simp;omega) (fun e=>HST.out.no.2.1 e.symm));clear hgrow hown2 hat;go_wp2)
 refine stepE1 rfl rfl (by kernel_rfl) fun K hK=>?_;go_wp2
 try refine stepEnil0 ?_
 clear HSD SS
 have hst:PutSt w (w2.setCell ⟨Bo,0,none⟩ (.slice (some ⟨g,0,none⟩) (bs.length+1) cp)) w.heap.size Bo Br n (.slice (some ⟨g,0,none⟩) (bs.length+1) cp) (bs ++ [nthByte n 0]) (.slice (some ⟨Bq3,0,none⟩) 8 cq3) [nthByte n 0,nthByte n 7,nthByte n 6,nthByte n 5,nthByte n 4,nthByte n 3,nthByte n 2,nthByte n 1]:=HP.out
 clear HP HST kn ko kr fo fr ln lo lr hlow hkb hkf hlt2 kq lq
 generalize w2.setCell ⟨Bo,0,none⟩ (.slice (some ⟨g,0,none⟩) (bs.length+1) cp)=W at *
 clear w2
 generalize g=Bp at *
 generalize cp=cq at *
 have HST:=Hd hst
 clear hst
 obtain ⟨kn,ko,kr,fo,fr⟩:=HST.out.cells
 obtain ⟨ln,lo,lr⟩:=HST.out.lt
 have hlow:=HST.out.bel.size
 go_wp2_with fail
 refine (back_any _ _ _ _).mono ?_
 rintro e w2 ⟨rfl,rfl⟩
 go_wp2_with fail
 have lq:Bq3<W.heap.size:=(HST.out.rr.lt _ rfl).2
 have hBq:=Hd (show ∀ i x,[nthByte n 0,nthByte n 7,nthByte n 6,nthByte n 5,nthByte n 4,nthByte n 3,nthByte n 2,nthByte n 1][i]? = some x→W.cell? ⟨Bq3,i,none⟩=some (.int .u8 (x.toNat:Int)) from fun i x hx=>by
  have h1:=HST.out.rr.cellAt i (by have:=(List.getElem?_eq_some_iff.1 hx).1;simp at this ⊢;omega)
  rw [h1,List.getElem?_map,hx];rfl)
 refine (wpIn_wide (n:=4)).1 ?_
 refine wpIn_rangeFunc_one (α:=Fin [nthByte n 7,nthByte n 6,nthByte n 5,nthByte n 4,nthByte n 3,nthByte n 2,nthByte n 1].length) rfl (by omega) (gf:=187) (lb:=#[.pointer (some ⟨W.heap.size,0,none⟩)]) rfl trivial (enters_of Tryz.func187 (by kernel_rfl) rfl)
  (back_stops Fence.wide 3 trivial rfl (by omega) W.heap.size Bq3 1 (cq3 - 1) [nthByte n 7,nthByte n 6,nthByte n 5,nthByte n 4,nthByte n 3,nthByte n 2,nthByte n 1] (by simp [maxLen]) _ (by simp) (by simp;omega) (by simp) (fun j hj=>cell_later ((Below.refl _ _).alloc (Nat.le_refl _) _) (hBq.out (1+j) _ (by rw [Nat.add_comm];exact List.getElem?_eq_getElem hj))))
  (fun h k=>h.trans k) (kept_put (by simp;omega) (by simp)) (Below.refl _ _) (fun _=>rfl)
  (fun pre W'=>∃ vo,PutSt w W' w.heap.size Bo Br n vo ((bs ++ [nthByte n 0]) ++ pre.map (fun (i:Fin [nthByte n 7,nthByte n 6,nthByte n 5,nthByte n 4,nthByte n 3,nthByte n 2,nthByte n 1].length)=>[nthByte n 7,nthByte n 6,nthByte n 5,nthByte n 4,nthByte n 3,nthByte n 2,nthByte n 1][i.val])) (.slice (some ⟨Bq3,0,none⟩) 8 cq3) [nthByte n 0,nthByte n 7,nthByte n 6,nthByte n 5,nthByte n 4,nthByte n 3,nthByte n 2,nthByte n 1]∧vo.ownBlock≠some W.heap.size∧W.heap.size<W'.heap.size)
  (fun _ _ _=>False) ?own (fun _ _ _ _ _ hs _ _=>hs) ⟨_,by simpa using HST.out.keep ((Below.refl _ _).alloc (Nat.le_refl _) _),fun e=>by have:=(HST.out.ro.lt _ e).2;omega,by simp⟩
  ?body ?done ?stop
 case own=>
  rintro s A B row ⟨vo,hs,hv,hz⟩ hg hr
  exact ⟨vo,hs.grown hg (by have:=HST.out.bel.size;simp;omega) hr,hv,by have:=hg.size;omega⟩
 case stop=>
  rintro D c pre A _ _ h _
  exact h.elim
 case done=>
  rintro D ys A hD rfl ⟨vo,hs,_,_⟩ hK
  obtain ⟨ao,mo,co,rfl,HM⟩:=owns_len hs.ro
  have HS:=Hd hs
  have HK:=Hd hK
  clear hs hK
  obtain ⟨sn,so,sr,sfo,sfr⟩:=HS.out.cells
  go_wp2
  refine ⟨by simp,.inl ⟨_,_,rfl,run_takeDeferred HK.out,?_⟩⟩
  have hfin:(bs ++ [nthByte n 0]) ++ (backL [nthByte n 7,nthByte n 6,nthByte n 5,nthByte n 4,nthByte n 3,nthByte n 2,nthByte n 1].length 0).map (fun (i:Fin [nthByte n 7,nthByte n 6,nthByte n 5,nthByte n 4,nthByte n 3,nthByte n 2,nthByte n 1].length)=>[nthByte n 7,nthByte n 6,nthByte n 5,nthByte n 4,nthByte n 3,nthByte n 2,nthByte n 1][i.val])=bs ++ (List.range 8).map (nthByte n):=by
   rw [List.append_assoc]
   rfl
  have hr:=HS.out.ro
  rw [hfin] at hr
  have hm:=HM.out
  rw [hfin] at hm
  subst hm
  exact ⟨_,results_tmp2 rfl _ _ _,_,rfl,ownsRow_putObj hr _ HK.out rfl,HS.out.bel.trans (belowK_b (w:=w) (Nat.le_refl _) A D _ _ (by have:=HST.out.bel.size;simp at hD;omega) HK.out rfl rfl)⟩
 case body=>
  rintro l pre x A ⟨vo,hs,hvb,hza⟩ hlen2
  obtain ⟨ao,mo,co,rfl,HM⟩:=owns_len hs.ro
  have HS:=Hd hs
  clear hs
  obtain ⟨sn,so,sr,sfo,sfr⟩:=HS.out.cells
  obtain ⟨ln2,lo2,lr2⟩:=HS.out.lt
  have hlow2:=HS.out.bel.size
  obtain ⟨xi,hxi⟩:=x
  have hxi':xi<7:=hxi
  obtain ⟨y,hy⟩:∃ y,[nthByte n 7,nthByte n 6,nthByte n 5,nthByte n 4,nthByte n 3,nthByte n 2,nthByte n 1][xi]'hxi=y:=⟨_,rfl⟩
  have HY:=Hd hy
  have hq:A.cell? ⟨Bq3,xi+1,none⟩=some (.int .u8 (y.toNat:Int)):=by
   have h1:=HS.out.rr.cellAt (xi+1) (by simp;omega)
   rw [h1,List.getElem?_map,List.getElem?_cons_succ,List.getElem?_eq_getElem hxi,hy];rfl
  have lq2:Bq3<A.heap.size:=(HS.out.rr.lt _ rfl).2
  have hmo:mo≤80368744177664:=by
   have h1:=HM.out
   have h2:pre.length<7:=hlen2
   simp at h1
   omega
  simp only [assignAct,backEnc,hy]
  clear hy
  have hw1:IntKind.i64.wrap ((xi:Int)+1)=(xi:Int)+1:=IntWalk.i64_in _ (by omega)
  have hw2:(0:Int)≤(xi:Int)+1:=by omega
  have hw3:(xi:Int)+1<8:=by omega
  have hw4:((xi:Int)+1).toNat=xi+1:=by omega
  gi_wp2
  obtain ⟨SS,HSD⟩:∃ SS:World→Prop,Hid (SS=fun w'=>w'.cell? ⟨Bo,0,none⟩=some (.slice ao mo co)∧w'.cell? ⟨Br,0,none⟩=some (.slice (some ⟨Bq3,0,none⟩) 8 cq3)∧w'.cell? ⟨Bq3,xi+1,none⟩=some (.int .u8 (y.toNat:Int))):=⟨_,Hd rfl⟩
  refine wpIn_region_order0 SS [0,1,5] [(0,2),(1,2),(2,0),(3,0),(4,0),(5,2),(6,1),(7,1),(8,1)] (by kernel_rfl) (by kernel_rfl) (by kernel_rfl) rfl (by kernel_rfl) ?_ ?_
  (focus (rw [HSD.out];exact ⟨so,sr,hq⟩))
  refine stepI2 rfl rfl (fun _=>rfl) ?_ (fun w1 hS=>?_) (fun K hK=>?_)
  rotate_left;(focus (rw [HSD.out] at hS;obtain ⟨s0,s1,s2⟩:=hS;go_simp;rfl));go_simp;refine hK _ ?_;clear hK K
  refine stepI2 rfl rfl (fun _=>rfl) ?_ (fun w1 hS=>?_) (fun K hK=>?_)
  rotate_left;(focus (rw [HSD.out] at hS;obtain ⟨s0,s1,s2⟩:=hS;go_simp;rfl));go_simp;refine hK _ ?_;clear hK K
  refine stepI0 rfl rfl (fun _=>rfl) (fun K hK=>?_)
  go_simp;refine hK _ ?_;clear hK K
  refine stepI0 rfl rfl (fun _=>rfl) (fun K hK=>?_)
  go_simp;refine hK _ ?_;clear hK K
  refine stepI0 rfl rfl (fun _=>rfl) (fun K hK=>?_)
  go_simp;refine hK _ ?_;clear hK K
  refine stepI2 rfl rfl (fun _=>rfl) ?_ (fun w1 hS=>?_) (fun K hK=>?_)
  rotate_left;(focus (rw [HSD.out] at hS;obtain ⟨s0,s1,s2⟩:=hS;go_simp;rfl));go_simp;refine hK _ ?_;clear hK K;refine stepI1S rfl rfl fun K hK=>?_;gi_wp2
  refine ⟨by rw [HSD.out];exact (by refine ⟨?_,?_,?_⟩ <;> go_simp),?_⟩
  refine stepI1 rfl rfl (by kernel_rfl) fun K hK=>?_
  (refine wpIn_append_lies _ _ _ 47 rfl w.heap.size 5 i0 (.int .u8 0) 1 1 Tryz.underlying47 HI.out HZ0.out HZ1.out HZ2.out rfl (by decide) (.slice ao mo co) mo (((bs ++ [nthByte n 0]) ++ pre.map (fun (i:Fin [nthByte n 7,nthByte n 6,nthByte n 5,nthByte n 4,nthByte n 3,nthByte n 2,nthByte n 1].length)=>[nthByte n 7,nthByte n 6,nthByte n 5,nthByte n 4,nthByte n 3,nthByte n 2,nthByte n 1][i.val])).map bv) rfl (by have h1:=(HS.out.ro.alloc (.cells #[.int .u8 (y.toNat:Int)] 5)).drew;have h2:=HM.out;rw [←h2] at h1;exact h1) ⟨A.heap.size,0,none⟩ 1 1 [.int .u8 (y.toNat:Int)] rfl rfl (World.news_of_block (heap_alloc_new A _)) (by simp [Value.oneCell']) (by omega) (by unfold maxLen;omega) (by omega) (by simp;omega) _ rfl ?_;intro g cp w2 hown2 hgrow hat hlt2;have HP:=Hd (PutSt.onOut (ns:=[y]) (HS.out.drew.keep ((Below.refl _ _).alloc (Nat.le_refl _) _)) hgrow (by rw [List.map_append];exact hown2) (by have:=HM.out;simp at this ⊢;omega) (by simpa using hat));have hkb:=World.cell?_of_block (a:=⟨Bo,0,none⟩) (hgrow.block Bo (by simp;omega) (fun e=>HS.out.no.2.1 e.symm));have hkf:=World.frozen?_of_block (a:=⟨Bo,0,none⟩) (hgrow.block Bo (by simp;omega) (fun e=>HS.out.no.2.1 e.symm));have HG:=Hd hgrow;have hat':(Value.slice ao mo co).ownBlock=some g∨g=A.heap.size+1:=(by simpa using hat);have hat2:=Hd hat';clear hgrow hown2 hat hat';gi_wp2)
  refine stepI1 rfl rfl (by kernel_rfl) fun K hK=>?_;gi_wp2
  try refine stepInil0 ?_
  clear HSD SS
  have hca:∀ (j:Nat) (o:Obj),(Value.slice ao mo co).ownBlock=some j→A.heap[j]? = some o→o.isCells=true:=fun j o hj ho=>by
   obtain ⟨cs,t,f,hc⟩:=owns_cells HS.out.ro j hj
   rw [hc] at ho
   cases ho
   rfl
  have hblk:∀ k,k<A.heap.size→k≠Bo→(Value.slice ao mo co).ownBlock≠some k→(w2.setCell ⟨Bo,0,none⟩ (.slice (some ⟨g,0,none⟩) (mo+1) cp)).heap[k]? = A.heap[k]?:=fun k hk hne hnb=>by
   rw [heap_setCell_other _ _ _ _ hne,HG.out.block k (by simp;omega) (fun e=>hnb e.symm)]
   exact Below.heap_alloc _ _ _ hk
  refine ⟨?_,⟨hblk _ lq2 (fun e=>HS.out.nr.2.1 (by rw [←e];rfl)) (fun e=>HS.out.apart _ e rfl),hblk _ hza (fun e=>by have:=HST.out.lt.2.1;omega) hvb⟩,.slice (some ⟨g,0,none⟩) (mo+1) cp,?_,?_,?_⟩
  ·refine KeepsOthers.from (KeepsOthers.trans (KeepsOthers.trans (KeepsOthers.trans (KeepsOthers.alloc A _) (KeepsOthers.drew _)) (KeepsOthers.of_grownBy HG.out fun j o hj ho=>?_)) (KeepsOthers.setCell _ _ _)) _
   refine hca j o hj ?_
   have hjl:=(HS.out.ro.lt j hj).2
   rw [←ho]
   exact (Below.heap_alloc _ _ _ hjl).symm
  ·have h1:=HP.out
   rw [List.append_assoc] at h1
   rw [List.map_append]
   simp only [List.map_cons,List.map_nil,HY.out]
   exact h1
  ·intro e
   have e':g=W.heap.size:=by simpa [Value.ownBlock] using e
   rcases hat2.out with h|h
   ·exact hvb (by rw [←e'];exact h)
   ·omega
  ·have:=HG.out.size
   simp at this ⊢
   omega
end Go.Proofs.YtfpjfoajonbndaaGreatDoor
