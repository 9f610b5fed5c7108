import Derived.Test.YtfpjfoajonbndaaGreatDoorCa2
import Derived.OrdersIn
namespace Go.Proofs.YtfpjfoajonbndaaGreatDoor
open Go.RowKit
open Go.RowKit

section
variable {F:Fence} {n:Nat} {P:Program} {ops:Array Oper} {Q:Exit→Act→World→Prop} {S:World→Prop} {rds:List Nat}
def noDefer (ops:Array Oper):Bool:=ops.all fun o=>match o.op with | .defer _=>false|_=>true
theorem noDefer_spec (h:noDefer ops=true) {i:Nat} {o:Oper} (ho:ops[i]? = some o) (r:Option Nat) (f:Operand→Value):o.semAt r f=execOp f o:=by
 refine Oper.semAt_eq r f o fun c hc=>?_
 have h1:=Array.all_eq_true'.1 h o (Array.mem_of_getElem? ho)
 rw [hc] at h1
 cases h1
def wpAnyNI (F:Fence) (n:Nat) (P:Program) (ops:Array Oper) (rds:List Nat) (Q:Exit→Act→World→Prop) (S:World→Prop):Nat→Array Bool→Act→World→Prop
 | 0,listed,a,w=>Region.ready .any ops listed=[]∧Q .normal a w
 | fuel+1,listed,a,w=>
  (Region.ready .any ops listed=[]→Q .normal a w) ∧
  ∀ i∈Region.ready .any ops listed,wpOpIn F n P ops Q i (fun a' w'=>(needs ops rds i=true→S w→S w')∧wpAnyNI F n P ops rds Q S fuel (listed.setIfInBounds i true) a' w') a w
theorem wpAnyI_of_N:∀ (fuel:Nat) (listed:Array Bool) (a:Act) (w:World),wpAnyNI F n P ops rds Q S fuel listed a w→wpAnyIn F n P .any ops Q fuel listed a w
 | 0,_,_,_,h=>h
 | fuel+1,_,_,_,h=>⟨h.1,fun i hi=>wpOpIn_mono (fun a' w' h'=>wpAnyI_of_N fuel _ a' w' h'.2) (h.2 i hi)⟩
def YieldsI (P:Program) (ops:Array Oper) (T:World→Prop) (o:Oper) (v:Value) (a:Act):Prop:=YieldsT P ops T o v a∧∀ w,o.about P w a.eval=none
theorem YieldsI.wpOp {T:World→Prop} {i:Nat} {o:Oper} {v:Value} {a:Act} (hd:noDefer ops=true) (hi:ops[i]? = some o) (hy:YieldsI P ops T o v a)
  {K:Act→World→Prop} {w:World} (hT:T w) (h:K (a.put o.dst v) w):wpOpIn F n P ops Q i K a w:=by
 unfold Go.wpOpIn
 simp only [hi]
 have hab:∀ f,o.about P w a.eval=some f→F.fn f:=fun f hf=>by rw [hy.2 w] at hf;cases hf
 rcases hy.1 with ⟨hw,hv⟩|⟨hw,rfl⟩
 ·simp only [hw,if_true,Oper.wpIn,noDefer_spec hd hi,hv w hT,Oper.uponIn];exact ⟨hab,h⟩
 ·simp only [hw,Bool.false_eq_true,if_false];exact ⟨hab,h⟩
theorem YieldsI.of_same {T:World→Prop} {o:Oper} {v:Value} {a a':Act} (hy:YieldsI P ops T o v a) (he:execOp a'.eval o=execOp a.eval o)
  (hw:Region.wanted o (yielded ops a'.tmps)=Region.wanted o (yielded ops a.tmps)) (hb:∀ w,o.about P w a'.eval=o.about P w a.eval):YieldsI P ops T o v a':=
 ⟨hy.1.of_same he hw,fun w=>by rw [hb w];exact hy.2 w⟩
theorem wpOpI_putT {T:World→Prop} {j:Nat} {oi oj:Oper} {v:Value} (hd:noDefer ops=true) (hj:ops[j]? = some oj) (hap:oi.apart ops oj=true)
  (hsi:∀ cs b,oi.op≠.select cs b) (hsj:∀ cs b,oj.op≠.select cs b)
  (hQ:∀ c a w,Q (.panic c) (a.put oi.dst v) w→Q (.panic c) a w) {K:Act→World→Prop} {a:Act} {w:World}
  (hy:YieldsI P ops T oi v a) (h:wpOpIn F n P ops Q j K (a.put oi.dst v) w) :
  wpOpIn F n P ops Q j (fun a' w'=>YieldsI P ops T oi v a'∧K (a'.put oi.dst v) w') a w:=by
 obtain ⟨h1,h2,h3⟩:=Oper.apart_spec hap
 have keep:∀ (a:Act),YieldsI P ops T oi v a→∀ u,YieldsI P ops T oi v (a.put oj.dst u):=fun a hy u=>
  hy.of_same (execOp_put oi hsi a oj.dst u h3) (wanted_put oi a oj.dst u h3) (fun w=>about_put oi w a oj.dst u h3)
 have keepD:∀ d,YieldsI P ops T oi v { a with defers:=d :: a.defers }:=fun d=>hy.of_same rfl rfl (fun _=>rfl)
 have hsem:∀ (r:Option Nat) (f:Operand→Value),oj.semAt r f=execOp f oj:=fun r f=>noDefer_spec hd hj r f
 unfold wpOpIn at *
 simp only [hj] at *
 rw [wanted_put oj a oi.dst v h1,about_put oj w a oi.dst v h1] at h
 split
 ·rename_i hw
  simp only [hw,if_true] at h
  unfold Oper.wpIn at *
  rw [about_put oj w a oi.dst v h1] at h
  refine ⟨h.1,?_⟩
  have h:=h.2
  rw [hsem,execOp_put oj hsj a oi.dst v h1] at h
  rw [hsem]
  generalize (execOp a.eval oj).run P w=r at *
  cases r with
  | ok x w'=>
   cases x <;> simp only [Oper.uponIn] at h ⊢
   case value u=>exact ⟨keep a hy u,by rw [←Act.put_comm a v u h2];exact h⟩
   case skip=>exact ⟨keep a hy _,by rw [←Act.put_comm a v undef h2];exact h⟩
   case defer d=>
    refine ⟨keep _ (keepD d) _,?_⟩
    rw [←Act.put_comm _ v undef h2,←Act.put_defers]
    exact h
   case enter f args=>
    refine ⟨h.1,CallsIn.mono h.2 fun e w'' he=>?_⟩
    cases e with
    | returned u=>exact ⟨keep a hy u,by rw [←Act.put_comm a v u h2];exact he⟩
    | panicked c=>exact hQ _ _ _ he
    | outgrown=>exact he
   case row row args=>exact ⟨h.1,RowsIn.mono h.2 fun u w'' he=>⟨keep a hy u,by rw [←Act.put_comm a v u h2];exact he⟩⟩
   case round l f tmps assign body=>
    refine ⟨h.1,RoundIn.mono h.2 fun e w'' he=>?_⟩
    cases e with
    | returned u=>exact ⟨keep a hy u,by rw [←Act.put_comm a v u h2];exact he⟩
    | panicked c=>exact hQ _ _ _ he
    | outgrown=>exact he
  | halt x w'=>
   cases x <;> simp only [Oper.uponIn] at h ⊢
   case panic u=>exact hQ _ _ _ h
 ·rename_i hw
  simp only [hw] at h
  exact ⟨h.1,keep a hy _,by rw [←Act.put_comm a v undef h2];exact h.2⟩

theorem wpAnyNI_first {T:World→Prop} {i:Nat} {oi:Oper} {v:Value} {rd:Bool} (hd:noDefer ops=true) (hi:ops[i]? = some oi) (hsel:∀ (j:Nat) (o:Oper) cs b,ops[j]? = some o→o.op≠.select cs b)
  (hQ:∀ c a w,Q (.panic c) (a.put oi.dst v) w→Q (.panic c) a w) (hTS:rd=true→∀ w,S w→T w) (hST:rd=true→∀ w,T w→S w) (hT0:rd=false→∀ w,T w) :
  ∀ (fuel:Nat) (listed:Array Bool) (a:Act) (w:World),Closed ops listed →
   (∀ j oj,ops[j]? = some oj→j≠i→listed.getD j true=false→waitsFor ops ops.size j i=true∨(oi.apart ops oj=true∧(rd=true→needs ops rds j=true))) →
   i∈Region.ready .any ops listed→T w→YieldsI P ops T oi v a →
   wpAnyNI F n P ops rds Q S fuel (listed.setIfInBounds i true) (a.put oi.dst v) w→wpAnyNI F n P ops rds Q S (fuel+1) listed a w:=by
 intro fuel
 induction fuel with
 | zero=>
  intro listed a w _ _ hr hT hy H
  refine ⟨fun h=>(by rw [h] at hr;cases hr),fun j hj=>?_⟩
  by_cases hji:j=i
  ·subst hji;exact hy.wpOp hd hi hT ⟨fun _ h=>h,H⟩
  ·have:=ready_mono hj hji
   rw [H.1] at this
   cases this
 | succ fuel ih=>
  intro listed a w hcl hfree hr hT hy H
  refine ⟨fun h=>(by rw [h] at hr;cases hr),fun j hj=>?_⟩
  by_cases hji:j=i
  ·subst hji;exact hy.wpOp hd hi hT ⟨fun _ h=>h,H⟩
  ·have h1:=H.2 j (ready_mono hj hji)
   obtain ⟨hjun,oj,hoj,hall⟩:=mem_ready.1 hj
   have hiun:=(mem_ready.1 hr).1
   have hnot:¬ waitsFor ops ops.size j i=true:=fun hw=>by
    have h1:=hcl.waits _ j i oj hoj hall hw
    have h2:=getD_true_of_false h1
    rw [hiun] at h2
    cases h2
   obtain ⟨hap,hnd⟩:=(hfree j oj hoj hji hjun).resolve_left hnot
   have h2:=wpOpI_putT hd hoj hap (fun cs b=>hsel i oi cs b hi) (fun cs b=>hsel j oj cs b hoj) hQ hy h1
   have hfree':∀ k ok,ops[k]? = some ok→k≠i→(listed.setIfInBounds j true).getD k true=false →
     waitsFor ops ops.size k i=true∨(oi.apart ops ok=true∧(rd=true→needs ops rds k=true)):=fun k ok hk hki hun=>by
    refine hfree k ok hk hki ?_
    by_cases hjk:j=k
    ·subst hjk;exact hjun
    ·rw [getD_set_ne true hjk] at hun;exact hun
   refine wpOpIn_mono (fun a' w' h3=>?_) h2
   obtain ⟨h4,h5,h6⟩:=h3
   refine ⟨h5,?_⟩
   have hT':T w':=by
    cases hrd:rd with
    | true=>exact hTS hrd w' (h5 (hnd hrd) (hST hrd w hT))
    | false=>exact hT0 hrd w'
   refine ih (listed.setIfInBounds j true) a' w' (hcl.ready hj) hfree' (ready_mono hr (Ne.symm hji)) hT' h4 ?_
   rw [Array.setIfInBounds_comm _ _ hji]
   exact h6

def wpEI (F:Fence) (n:Nat) (P:Program) (ops:Array Oper) (rds:List Nat) (Q:Exit→Act→World→Prop) (S:World→Prop):List (Nat×Nat)→Act→World→Prop
 | [],a,w=>Q .normal a w
 | (i,k) :: rest,a,w=>match ops[i]? with
  | none=>False
  | some oi=>match k with
   | 0=>∃ v,YieldsI P ops (fun _=>True) oi v a∧wpEI F n P ops rds Q S rest (a.put oi.dst v) w
   | 1=>wpOpIn F n P ops Q i (fun a' w'=>(needs ops rds i=true→S w→S w')∧wpEI F n P ops rds Q S rest a' w') a w
   | _=>∃ v,YieldsI P ops S oi v a∧wpEI F n P ops rds Q S rest (a.put oi.dst v) w
theorem wpNI_of_E (hd:noDefer ops=true) (hsel:∀ (j:Nat) (o:Oper) cs b,ops[j]? = some o→o.op≠.select cs b) (hQ:∀ c a d v w,Q (.panic c) (a.put d v) w→Q (.panic c) a w) :
  ∀ (l:List (Nat×Nat)) (has:Bool) (listed:Array Bool) (a:Act) (w:World),Closed ops listed→okOrder ops rds has listed l=true→(has=true→S w) →
   wpEI F n P ops rds Q S l a w→wpAnyNI F n P ops rds Q S l.length listed a w
 | [],has,listed,a,w,_,hok,_,h=>⟨by simpa [okOrder] using hok,h⟩
 | (i,k) :: rest,has,listed,a,w,hcl,hok,hS,h=>by
  cases hi:ops[i]? with
  | none=>simp [okOrder,hi] at hok
  | some oi=>
   simp only [okOrder,hi,Bool.and_eq_true,List.contains_iff_mem] at hok
   obtain ⟨hr,hok⟩:=hok
   simp only [wpEI,hi] at h
   match k,hok,h with
   | 0,hok,h=>
    simp only [Bool.and_eq_true] at hok
    obtain ⟨v,hy,h⟩:=h
    refine wpAnyNI_first (T:=fun _=>True) (rd:=false) hd hi hsel (fun c a w=>hQ c a _ _ w) (fun e=>by cases e) (fun e=>by cases e) (fun _ _=>trivial) rest.length listed a w hcl (free_spec hok.1) hr trivial hy ?_
    exact wpNI_of_E hd hsel hQ rest has _ _ w (hcl.ready hr) hok.2 hS h
   | 1,hok,h=>
    simp only [Bool.and_eq_true,beq_iff_eq] at hok
    refine ⟨fun e=>(by rw [e] at hr;cases hr),fun j hj=>?_⟩
    rw [hok.1] at hj
    have hji:j=i:=by simpa using hj
    subst hji
    refine wpOpIn_mono (fun a' w' h'=>⟨h'.1,wpNI_of_E hd hsel hQ rest (has && needs ops rds j) _ a' w' (hcl.ready hr) hok.2 (fun e=>?_) h'.2⟩) h
    simp only [Bool.and_eq_true] at e
    exact h'.1 e.2 (hS e.1)
   | k+2,hok,h=>
    simp only [Bool.and_eq_true] at hok
    obtain ⟨v,hy,h⟩:=h
    refine wpAnyNI_first (T:=S) (rd:=true) hd hi hsel (fun c a w=>hQ c a _ _ w) (fun _ _ h=>h) (fun _ _ h=>h) (fun e=>by cases e) rest.length listed a w hcl (free_spec hok.1.2) hr (hS hok.1.1) hy ?_
    exact wpNI_of_E hd hsel hQ rest has _ _ w (hcl.ready hr) hok.2 hS h
theorem wpIn_region_order {id:Nat} {a:Act} {w:World} (S:World→Prop) (rds:List Nat) (l:List (Nat×Nat)) (hm:P.follows .mixedOrders=true) (hd:noDefer ops=true) (hsel:Region.noSelect ops=true)
  (hlen:l.length=ops.size) (hok:okOrder ops rds true (Array.replicate ops.size false) l=true) (hQ:∀ c a d v w,Q (.panic c) (a.put d v) w→Q (.panic c) a w)
  (hS:S w.drew) (h:wpEI F n P ops rds Q S l a w.drew):(Code.region id ops true).wpIn F n P Q a w:=by
 refine wpIn_region_any hm (wpAnyI_of_N (rds:=rds) (S:=S) _ _ _ _ ?_)
 rw [←hlen]
 refine wpNI_of_E hd (fun j o cs b=>Region.noSelect_spec hsel j o cs b) hQ l true _ a _ ?_ (by rw [hlen];exact hok) (fun _=>hS) h
 intro j o ho hj
 rcases Nat.lt_or_ge j l.length with h'|h'
 ·simp [h'] at hj
 ·have:=(Array.getElem?_eq_some_iff.1 ho).1
  omega
theorem wpIn_region_order0 {id:Nat} {a:Act} {w:World} (S:World→Prop) (rds:List Nat) (l:List (Nat×Nat)) (hm:P.follows .mixedOrders=true) (hd:noDefer ops=true) (hsel:Region.noSelect ops=true)
  (hlen:l.length=ops.size) (hok:okOrder ops rds true (Array.replicate ops.size false) l=true)
  (hS:S w.drew) (h:wpEI F n P ops rds (onlyNormal Q) S l a w.drew):(Code.region id ops true).wpIn F n P Q a w:=
 wpIn_mono (wpIn_region_order (Q:=onlyNormal Q) S rds l hm hd hsel hlen hok (fun _ _ _ _ _ h=>h) hS h) (fun e a w h=>by cases e <;> first|exact h|exact False.elim h)
section
variable {o:Oper} {i:Nat} {rest:List (Nat×Nat)} {a:Act} {w:World}
theorem stepInil0 (h:Q .normal a w):wpEI F n P ops rds (onlyNormal Q) S [] a w:=h
theorem stepI0 (ho:ops[i]? = some o) (hw:Region.wanted o (yielded ops a.tmps)=true) (hab:∀ w,o.about P w a.eval=none)
  (h:∀ K:Act→Prop,(∀ a,wpEI F n P ops rds Q S rest a w→K a)→∃ v,(∀ w1:World,(execOp a.eval o).run P w1=.ok (.value v) w1)∧K (a.put o.dst v)):wpEI F n P ops rds Q S ((i,0) :: rest) a w:=by
 obtain ⟨v,h1,h2⟩:=h _ (fun _ h=>h)
 simp only [wpEI,ho]
 exact ⟨v,⟨.inl ⟨hw,fun w1 _=>h1 w1⟩,hab⟩,h2⟩
theorem stepI2 (ho:ops[i]? = some o) (hw:Region.wanted o (yielded ops a.tmps)=true) (hab:∀ w,o.about P w a.eval=none) (v:Value) (h1:∀ w1:World,S w1→(execOp a.eval o).run P w1=.ok (.value v) w1)
  (h:∀ K:Act→Prop,(∀ a,wpEI F n P ops rds Q S rest a w→K a)→K (a.put o.dst v)):wpEI F n P ops rds Q S ((i,2) :: rest) a w:=by
 have h2:=h _ (fun _ h=>h)
 simp only [wpEI,ho]
 exact ⟨v,⟨.inl ⟨hw,h1⟩,hab⟩,h2⟩
theorem stepI1 (ho:ops[i]? = some o) (hw:Region.wanted o (yielded ops a.tmps)=true) (hn:needs ops rds i=false)
  (h:∀ K:Act→World→Prop,(∀ a' w',wpEI F n P ops rds Q S rest a' w'→K a' w')→o.wpIn F n P a w K Q):wpEI F n P ops rds Q S ((i,1) :: rest) a w:=by
 simp only [wpEI,ho,wpOpIn,hw,if_true]
 exact h _ fun a' w' h=>⟨fun e=>absurd e (by rw [hn];simp),h⟩
theorem stepI1S (ho:ops[i]? = some o) (hw:Region.wanted o (yielded ops a.tmps)=true)
  (h:∀ K:Act→World→Prop,(∀ a' w',S w'∧wpEI F n P ops rds Q S rest a' w'→K a' w')→o.wpIn F n P a w K Q):wpEI F n P ops rds Q S ((i,1) :: rest) a w:=by
 simp only [wpEI,ho,wpOpIn,hw,if_true]
 exact h _ fun a' w' h=>⟨fun _ _=>h.1,h.2⟩
end
end
end Go.Proofs.YtfpjfoajonbndaaGreatDoor
