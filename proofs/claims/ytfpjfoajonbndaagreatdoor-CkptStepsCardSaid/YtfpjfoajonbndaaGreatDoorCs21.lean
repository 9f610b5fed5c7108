import Derived.Test.YtfpjfoajonbndaaGreatDoorCs4
import Derived.Test.YtfpjfoajonbndaaGreatDoorRows
import Derived.ProofKit
import Derived.OpenShut
import Derived.ShutString
import Derived.ChangeOld
import Derived.Deep.Slices
namespace Go.Proofs.YtfpjfoajonbndaaGreatDoor
set_option maxHeartbeats 8000000
set_option maxRecDepth 100000
open Go.RowKit
set_option maxRecDepth 100000
set_option maxHeartbeats 8000000
open Go.RowKit Go.ChangeShapes Go.WideShapes Go.Deep
section
variable {H:Type} {enc:TypeId×Value→H} {w:World} {base:Nat} {spare:Nat→Bool} {held:Bool}
theorem open_row{α:Type}{T ST:TypeId}{sz:Nat}(hS:Tryz.prog.underlying ST=some (.slice T))(hC:Tryz.prog.cellsOf T=sz)(hsz:0<sz)(row:α→List Value)(hrow:∀ c,(row c).length=sz)(Q:α→Prop)
  (hone:∀ (fuel:Nat) (cs:List Value) (x:DataW H×List MemPlace),DataW.trod enc Tryz.prog w base spare held fuel T cs=some x→∃ c,cs=row c∧Q c)
  {fuel:Nat} {cs:List Value} {y:DataW H×List MemPlace} (hf:DataW.trod enc Tryz.prog w base spare held fuel ST cs=some y) :
  ∃(a:Option Addr)(len cap:Nat)(l:List α),cs=[.slice a len cap]∧l.length=len∧Reads w sz (.slice a len cap) len (l.flatMap row)∧(∀ c∈l,Q c)∧len≤cap:=by
 rcases open_slice hS hf with ⟨hcs,_⟩|⟨x,l,c,m,n,D,Pl,hcs,_,hl,hm,hmm,_,hi⟩
 ·exact ⟨none,0,0,[],hcs,rfl,⟨by simp,.inl ⟨rfl,rfl⟩⟩,fun _ h=>absurd h List.not_mem_nil,Nat.le_refl _⟩
 ·have hml:l≤m:=by rw [hmm];split <;> omega
  rw [hC] at hi
  have hone':∀ i,i<l→∃ c:α,(∀ j u,(row c)[j]? = some u→w.cell? (x.add (i * sz+j))=some u)∧Q c:=by
   intro i hil
   obtain ⟨cs',hc,ht⟩:=hi i (by omega)
   obtain ⟨c,rfl,hq⟩:=hone _ _ _ ht
   obtain ⟨_,_,hat⟩:=World.cells?_some hc
   refine ⟨c,fun j u hu=>?_,hq⟩
   have hj:j<sz:=by have:=(List.getElem?_eq_some_iff.1 hu).1;rw [hrow] at this;exact this
   rw [←add_add,hat j hj,hu]
  by_cases h0:l=0
  ·subst h0
   exact ⟨some x,0,c,[],hcs,rfl,⟨by simp,.inr ⟨x,c,rfl,by omega,fun j u hu=>by simp at hu⟩⟩,fun _ h=>absurd h List.not_mem_nil,hl⟩
  obtain ⟨c0,_⟩:=hone' 0 (by omega)
  have:Inhabited α:=⟨c0⟩
  obtain ⟨f,hfn⟩:=choose_lt hone'
  have hget:∀ i,((List.range l).map f)[i]? = if i<l then some (f i) else none:=fun i=>by
   rw [List.getElem?_map]
   by_cases h:i<l
   ·rw [if_pos h,List.getElem?_range h];rfl
   ·rw [if_neg h,List.getElem?_eq_none (by simp;omega)];rfl
  have hlen:(((List.range l).map f).flatMap row).length=l * sz:=by rw [length_flatMap_row row sz hrow];simp
  refine ⟨some x,l,c,(List.range l).map f,hcs,by simp,⟨hlen,.inr ⟨x,c,rfl,by omega,fun j u hu=>?_⟩⟩,fun e he=>?_,hl⟩
  ·have hjl:j<l * sz:=by have:=(List.getElem?_eq_some_iff.1 hu).1;rw [hlen] at this;exact this
   have hdm:j=j / sz * sz+j % sz:=by rw [Nat.mul_comm];exact (Nat.div_add_mod j sz).symm
   have hml2:j % sz<sz:=Nat.mod_lt _ hsz
   have hdl:j / sz<l:=(Nat.div_lt_iff_lt_mul hsz).2 hjl
   rw [hdm,getElem?_flatMap_row row sz hrow _ _ _ hml2,hget,if_pos hdl] at hu
   rw [hdm]
   exact (hfn _ hdl).1 _ _ hu
  ·obtain ⟨i,hi',rfl⟩:=List.mem_map.1 he
   exact (hfn i (List.mem_range.1 hi')).2
theorem open_int{k:IntKind}{t:TypeId}(ht:Tryz.prog.underlying t=some (.int k)){fuel:Nat}{cs:List Value}{x:DataW H×List MemPlace}(h:DataW.trod enc Tryz.prog w base spare held fuel t cs=some x):∃ n,cs=[.int k n]∧(Lit.int k n).wf=true:=by
 obtain ⟨n,h1,_,h2⟩:=DataW.trod_int ht h
 exact ⟨n,h1,h2⟩
theorem wf_of_i64{n:Int}(h:(Lit.int .i64 n).wf=true) : -9223372036854775808≤n∧n≤9223372036854775807:=by
 simp [Lit.wf] at h
 have e1:IntKind.i64.min = -9223372036854775808:=by decide
 have e2:IntKind.i64.max=9223372036854775807:=by decide
 omega
theorem wf_of_u8{n:Int}(h:(Lit.int .u8 n).wf=true):0≤n∧n≤255:=by
 simp [Lit.wf] at h
 have e1:IntKind.u8.min=0:=by decide
 have e2:IntKind.u8.max=255:=by decide
 omega
theorem open_byte{fuel:Nat}{cs:List Value}{x:DataW H×List MemPlace}(h:DataW.trod enc Tryz.prog w base spare held fuel 5 cs=some x):∃ c:UInt8,cs=[bv c]:=by
 obtain ⟨n,rfl,hw⟩:=open_int Tryz.underlying5 h
 obtain ⟨h0,h1⟩:=wf_of_u8 hw
 refine ⟨UInt8.ofNat n.toNat,?_⟩
 have e:(UInt8.ofNat n.toNat).toNat=n.toNat:=by simp;omega
 unfold bv
 rw [e]
 congr 2
 omega
theorem flat_one{α:Type}(f:α→Value)(l:List α):(l.flatMap fun x=>[f x])=l.map f:=by
 induction l with
 | nil=>rfl
 | cons x l ih=>simp [List.flatMap_cons,ih]
theorem open_bytes{fuel:Nat}{cs:List Value}{y:DataW H×List MemPlace}(hf:DataW.trod enc Tryz.prog w base spare held fuel 47 cs=some y) :
  ∃(a:Option Addr)(len cap:Nat)(l:List UInt8),cs=[.slice a len cap]∧l.length=len∧Reads w 1 (.slice a len cap) len (l.map bv)∧len≤cap:=by
 obtain ⟨a,len,cap,l,h1,h2,h3,_,h4⟩:=open_row (α:=UInt8) Tryz.underlying47 (by kernel_rfl:Tryz.prog.cellsOf 5=1) (by omega) (fun x=>[bv x]) (fun _=>rfl) (fun _=>True) (fun _ _ _ h=>by
  obtain ⟨c,e⟩:=open_byte h
  exact ⟨c,e,trivial⟩) hf
 rw [flat_one bv] at h3
 exact ⟨a,len,cap,l,h1,h2,h3,h4⟩
end
open Go.RowKit Go.ChangeShapes Go.WideShapes Go.Deep
section
variable {H:Type} {enc:TypeId×Value→H} {w:World} {base:Nat} {spare:Nat→Bool} {held:Bool}
theorem arg_bools{a:Option Addr}{len cap:Nat}{d:DataW H}{p:List MemPlace}(h:DataW.Trod enc Tryz.prog w base spare held 75 (.slice a len cap) d p) :
  ∃ l:List Bool,l.length=len∧Reads w 1 (.slice a len cap) len (l.map Value.bool):=by
 obtain ⟨fuel,hf⟩:=h
 obtain ⟨a',len',cap',l,h1,h2,h3,h4,_⟩:=open_row (α:=Bool) Tryz.underlying75 (by kernel_rfl:Tryz.prog.cellsOf 4=1) (by omega) (fun x=>[Value.bool x]) (fun _=>rfl) (fun _=>True) (fun _ _ _ h=>by
  obtain ⟨c,e,_⟩:=DataW.trod_bool Tryz.underlying4 h
  exact ⟨c,e,trivial⟩) hf
 rw [flat_one Value.bool] at h3
 simp [Value.cells] at h1
 obtain ⟨rfl,rfl,rfl⟩:=h1
 exact ⟨l,h2,h3⟩
end
end Go.Proofs.YtfpjfoajonbndaaGreatDoor
