import Derived.Test.YtfpjfoajonbndaaGreatDoorCh2
import Derived.Test.YtfpjfoajonbndaaGreatDoorRows
import Derived.ProofKit
import Derived.OpenShut
import Derived.ShutString
import Derived.ChangeOld
import Derived.Deep.Slices
import Derived.Test.YtfpjfoajonbndaaGreatDoorCh15
import Derived.Test.YtfpjfoajonbndaaGreatDoorCh10
namespace Go.Proofs.YtfpjfoajonbndaaGreatDoor
set_option maxHeartbeats 8000000
set_option maxRecDepth 100000
open Go.RowKit
open Go.RowKit Go.ChangeShapes Go.WideShapes Go.Deep
section
variable {H:Type} {enc:TypeId×Value→H} {w:World} {base:Nat} {spare:Nat→Bool} {held:Bool}
set_option maxRecDepth 100000 in
theorem open_row{α:Type}{T ST:TypeId}{sz:Nat}(hS:Tryz.prog.underlying ST=some (.slice T))(hC:Tryz.prog.cellsOf T=sz)(hsz:0<sz)(row:α→List Value)(hrow:∀ c,(row c).length=sz)(Q:α→Prop)
  (hone:∀ (fuel:Nat) (cs:List Value) (x:DataW H×List MemPlace),DataW.trod enc Tryz.prog w base spare held fuel T cs=some x→∃ c,cs=row c∧Q c)
  {fuel:Nat} {cs:List Value} {y:DataW H×List MemPlace} (hf:DataW.trod enc Tryz.prog w base spare held fuel ST cs=some y) :
  ∃(a:Option Addr)(len cap:Nat)(l:List α),cs=[.slice a len cap]∧l.length=len∧Reads w sz (.slice a len cap) len (l.flatMap row)∧(∀ c∈l,Q c)∧len≤cap:=by
 rcases open_slice hS hf with ⟨hcs,_⟩|⟨x,l,c,m,n,D,Pl,hcs,_,hl,hm,hmm,_,hi⟩
 ·exact ⟨none,0,0,[],hcs,rfl,⟨by simp,.inl ⟨rfl,rfl⟩⟩,fun _ h=>absurd h List.not_mem_nil,Nat.le_refl _⟩
 ·have hml:l≤m:=by rw [hmm];split <;> omega
  rw [hC] at hi
  have hone':∀ i,i<l→∃ c:α,(∀ j u,(row c)[j]? = some u→w.cell? (x.add (i * sz+j))=some u)∧Q c:=by
   intro i hil
   obtain ⟨cs',hc,ht⟩:=hi i (by omega)
   obtain ⟨c,rfl,hq⟩:=hone _ _ _ ht
   obtain ⟨_,_,hat⟩:=World.cells?_some hc
   refine ⟨c,fun j u hu=>?_,hq⟩
   have hj:j<sz:=by have:=(List.getElem?_eq_some_iff.1 hu).1;rw [hrow] at this;exact this
   rw [←add_add,hat j hj,hu]
  by_cases h0:l=0
  ·subst h0
   exact ⟨some x,0,c,[],hcs,rfl,⟨by simp,.inr ⟨x,c,rfl,by omega,fun j u hu=>by simp at hu⟩⟩,fun _ h=>absurd h List.not_mem_nil,hl⟩
  obtain ⟨c0,_⟩:=hone' 0 (by omega)
  have:Inhabited α:=⟨c0⟩
  obtain ⟨f,hfn⟩:=choose_lt hone'
  have hget:∀ i,((List.range l).map f)[i]? = if i<l then some (f i) else none:=fun i=>by
   rw [List.getElem?_map]
   by_cases h:i<l
   ·rw [if_pos h,List.getElem?_range h];rfl
   ·rw [if_neg h,List.getElem?_eq_none (by simp;omega)];rfl
  have hlen:(((List.range l).map f).flatMap row).length=l * sz:=by rw [length_flatMap_row row sz hrow];simp
  refine ⟨some x,l,c,(List.range l).map f,hcs,by simp,⟨hlen,.inr ⟨x,c,rfl,by omega,fun j u hu=>?_⟩⟩,fun e he=>?_,hl⟩
  ·have hjl:j<l * sz:=by have:=(List.getElem?_eq_some_iff.1 hu).1;rw [hlen] at this;exact this
   have hdm:j=j / sz * sz+j % sz:=by rw [Nat.mul_comm];exact (Nat.div_add_mod j sz).symm
   have hml2:j % sz<sz:=Nat.mod_lt _ hsz
   have hdl:j / sz<l:=(Nat.div_lt_iff_lt_mul hsz).2 hjl
   rw [hdm,getElem?_flatMap_row row sz hrow _ _ _ hml2,hget,if_pos hdl] at hu
   rw [hdm]
   exact (hfn _ hdl).1 _ _ hu
  ·obtain ⟨i,hi',rfl⟩:=List.mem_map.1 he
   exact (hfn i (List.mem_range.1 hi')).2
theorem open_int{k:IntKind}{t:TypeId}(ht:Tryz.prog.underlying t=some (.int k)){fuel:Nat}{cs:List Value}{x:DataW H×List MemPlace}(h:DataW.trod enc Tryz.prog w base spare held fuel t cs=some x):∃ n,cs=[.int k n]∧(Lit.int k n).wf=true:=by
 obtain ⟨n,h1,_,h2⟩:=DataW.trod_int ht h
 exact ⟨n,h1,h2⟩
theorem wf_of_i64{n:Int}(h:(Lit.int .i64 n).wf=true) : -9223372036854775808≤n∧n≤9223372036854775807:=by
 simp [Lit.wf] at h
 have e1:IntKind.i64.min = -9223372036854775808:=by decide
 have e2:IntKind.i64.max=9223372036854775807:=by decide
 omega
theorem wf_of_u8{n:Int}(h:(Lit.int .u8 n).wf=true):0≤n∧n≤255:=by
 simp [Lit.wf] at h
 have e1:IntKind.u8.min=0:=by decide
 have e2:IntKind.u8.max=255:=by decide
 omega
theorem open_byte{fuel:Nat}{cs:List Value}{x:DataW H×List MemPlace}(h:DataW.trod enc Tryz.prog w base spare held fuel 5 cs=some x):∃ c:UInt8,cs=[bv c]:=by
 obtain ⟨n,rfl,hw⟩:=open_int Tryz.underlying5 h
 obtain ⟨h0,h1⟩:=wf_of_u8 hw
 refine ⟨UInt8.ofNat n.toNat,?_⟩
 have e:(UInt8.ofNat n.toNat).toNat=n.toNat:=by simp;omega
 unfold bv
 rw [e]
 congr 2
 omega
theorem flat_one{α:Type}(f:α→Value)(l:List α):(l.flatMap fun x=>[f x])=l.map f:=by
 induction l with
 | nil=>rfl
 | cons x l ih=>simp [List.flatMap_cons,ih]
theorem open_bytes{fuel:Nat}{cs:List Value}{y:DataW H×List MemPlace}(hf:DataW.trod enc Tryz.prog w base spare held fuel 47 cs=some y) :
  ∃(a:Option Addr)(len cap:Nat)(l:List UInt8),cs=[.slice a len cap]∧l.length=len∧Reads w 1 (.slice a len cap) len (l.map bv)∧len≤cap:=by
 obtain ⟨a,len,cap,l,h1,h2,h3,_,h4⟩:=open_row (α:=UInt8) Tryz.underlying47 (by kernel_rfl:Tryz.prog.cellsOf 5=1) (by omega) (fun x=>[bv x]) (fun _=>rfl) (fun _=>True) (fun _ _ _ h=>by
  obtain ⟨c,e⟩:=open_byte h
  exact ⟨c,e,trivial⟩) hf
 rw [flat_one bv] at h3
 exact ⟨a,len,cap,l,h1,h2,h3,h4⟩
end
open Go.RowKit Go.ChangeShapes Go.WideShapes Go.Deep
structure NdArg (w:World) (x:NdE):Prop where
 key:x.n.key<18446744073709551616
 cookie:x.n.cookie<4294967296
 data:Reads w 1 (.slice x.a x.n.data.length x.c) x.n.data.length (x.n.data.map bv)
theorem NdArg.below{w w':World}{x:NdE}(h:NdArg w x)(hb:Below w.heap.size w w'):NdArg w' x:=⟨h.key,h.cookie,h.data.below hb⟩
structure ActE where
 kind:Int
 m:Int
 x:NdE
def ActE.cs (e:ActE):List Value:=.int .i64 e.kind :: .int .i64 e.m :: e.x.cs
theorem ActE.cs_len(e:ActE):e.cs.length=6:=rfl
structure ActArg (w:World) (e:ActE):Prop where
 kind : -9223372036854775808≤e.kind∧e.kind≤9223372036854775807
 m : -9223372036854775808≤e.m∧e.m≤9223372036854775807
 nd:NdArg w e.x
theorem ActArg.below{w w':World}{e:ActE}(h:ActArg w e)(hb:Below w.heap.size w w'):ActArg w' e:=⟨h.kind,h.m,h.nd.below hb⟩
def ActE.act (e:ActE):VAct:=⟨e.kind,e.m,e.x.n⟩
section
variable {H:Type} {enc:TypeId×Value→H} {w:World} {base:Nat} {spare:Nat→Bool} {held:Bool}
theorem wf_of_u64{n:Int}(h:(Lit.int .u64 n).wf=true):0≤n∧n≤18446744073709551615:=by
 simp [Lit.wf] at h
 have e1:IntKind.u64.min=0:=by decide
 have e2:IntKind.u64.max=18446744073709551615:=by decide
 omega
theorem wf_of_u32{n:Int}(h:(Lit.int .u32 n).wf=true):0≤n∧n≤4294967295:=by
 simp [Lit.wf] at h
 have e1:IntKind.u32.min=0:=by decide
 have e2:IntKind.u32.max=4294967295:=by decide
 omega
theorem nd_of{fuel:Nat}{cs:List Value}{x:DataW H×List MemPlace}(h:DataW.trod enc Tryz.prog w base spare held fuel 49 cs=some x):∃ c:NdE,cs=c.cs∧NdArg w c:=by
 obtain ⟨xs,n,_,_,hlen,hxl,hf⟩:=DataW.trod_struct Tryz.underlying49 h
 have hC:Tryz.prog.cellsOf 49=4:=by kernel_rfl
 have hI:Tryz.prog.cellsOf 45=1:=by kernel_rfl
 have hU:Tryz.prog.cellsOf 46=1:=by kernel_rfl
 have hO:Tryz.prog.cellsOf 4=1:=by kernel_rfl
 have hB:Tryz.prog.cellsOf 47=1:=by kernel_rfl
 rw [hC] at hlen
 match cs,hlen with
 | [c0,c1,c2,c3],_=>
  have e0:=hf 0 _ rfl
  have e1:=hf 1 _ rfl
  have e2:=hf 2 _ rfl
  have e3:=hf 3 _ rfl
  simp [hI,hU,hO,hB] at e0 e1 e2 e3
  match xs,hxl with
  | [x0,x1,x2,x3],_=>
   simp at e0 e1 e2 e3
   obtain ⟨a0,h0,hw0⟩:=open_int Tryz.underlying45 e0
   obtain ⟨a1,h1,hw1⟩:=open_int Tryz.underlying46 e1
   obtain ⟨a2,h2,_⟩:=DataW.trod_bool Tryz.underlying4 e2
   obtain ⟨ab,lb,cb,b,h3,h3l,h3r,_⟩:=open_bytes e3
   simp at h0 h1 h2 h3
   have w0:=wf_of_u64 hw0
   have w1:=wf_of_u32 hw1
   obtain ⟨k0,rfl⟩:∃ k:Nat,a0=k:=⟨a0.toNat,by omega⟩
   obtain ⟨k1,rfl⟩:∃ k:Nat,a1=k:=⟨a1.toNat,by omega⟩
   subst h0 h1 h2 h3 h3l
   exact ⟨⟨⟨k0,k1,a2,b⟩,ab,cb⟩,rfl,⟨by show k0<_;omega,by show k1<_;omega,h3r⟩⟩
theorem act9_of{fuel:Nat}{cs:List Value}{x:DataW H×List MemPlace}(h:DataW.trod enc Tryz.prog w base spare held fuel 53 cs=some x):∃ c:ActE,cs=c.cs∧ActArg w c:=by
 obtain ⟨xs,n,_,_,hlen,hxl,hf⟩:=DataW.trod_struct Tryz.underlying53 h
 have hC:Tryz.prog.cellsOf 53=6:=by kernel_rfl
 have hI:Tryz.prog.cellsOf 3=1:=by kernel_rfl
 have hN:Tryz.prog.cellsOf 49=4:=by kernel_rfl
 rw [hC] at hlen
 match cs,hlen with
 | [c0,c1,c2,c3,c4,c5],_=>
  have e0:=hf 0 _ rfl
  have e1:=hf 1 _ rfl
  have e2:=hf 2 _ rfl
  simp [hI,hN] at e0 e1 e2
  match xs,hxl with
  | [x0,x1,x2],_=>
   simp at e0 e1 e2
   obtain ⟨a0,h0,hw0⟩:=open_int Tryz.underlying3 e0
   obtain ⟨a1,h1,hw1⟩:=open_int Tryz.underlying3 e1
   obtain ⟨c,h2,hc⟩:=nd_of e2
   simp at h0 h1
   subst h0 h1
   exact ⟨⟨a0,a1,c⟩,by rw [h2];rfl,⟨wf_of_i64 hw0,wf_of_i64 hw1,hc⟩⟩
theorem arg_acts9{a:Option Addr}{len cap:Nat}{d:DataW H}{p:List MemPlace}(h:DataW.Trod enc Tryz.prog w base spare held 22 (.slice a len cap) d p) :
  ∃ l:List ActE,l.length=len∧Reads w 6 (.slice a len cap) len (l.flatMap ActE.cs)∧∀ x∈l,ActArg w x:=by
 obtain ⟨fuel,hf⟩:=h
 obtain ⟨a',len',cap',l,h1,h2,h3,h4,_⟩:=open_row (α:=ActE) Tryz.underlying22 (by kernel_rfl:Tryz.prog.cellsOf 53=6) (by omega) ActE.cs ActE.cs_len (ActArg w) (fun _ _ _ h=>act9_of h) hf
 simp [Value.cells] at h1
 obtain ⟨rfl,rfl,rfl⟩:=h1
 exact ⟨l,h2,h3,h4⟩
end
theorem nd_cells{w:World}{v:Value}{n:Nat}{l:List NdE}(h:Reads w 4 v n (l.flatMap NdE.cs)){k:Nat}{x:NdE}(hx:l[k]? = some x)(hn:0<n) :
  ∃ b o c,v=.slice (some ⟨b,o,none⟩) n c∧b<w.heap.size∧w.cell? ⟨b,o+k * 4,none⟩=some (.int .u64 x.n.key)∧w.cell? ⟨b,o+k * 4+1,none⟩=some (.int .u32 x.n.cookie)∧w.cell? ⟨b,o+k * 4+2,none⟩=some (.bool x.n.gone)∧w.cell? ⟨b,o+k * 4+3,none⟩=some (.slice x.a x.n.data.length x.c):=by
 obtain ⟨b,o,c,e,h1,_,h2⟩:=reads_at h hn (by omega)
 have key:∀ j u,j<4→(x.cs)[j]? = some u→w.cell? ⟨b,o+(k * 4+j),none⟩=some u:=fun j u hj hu=>h2 (k * 4+j) u (by rw [getElem?_flatMap_row NdE.cs 4 NdE.cs_len l k j hj,hx];exact hu)
 exact ⟨b,o,c,e,h1,key 0 _ (by omega) rfl,key 1 _ (by omega) rfl,key 2 _ (by omega) rfl,key 3 _ (by omega) rfl⟩
theorem act9_cells{w:World}{v:Value}{n:Nat}{l:List ActE}(h:Reads w 6 v n (l.flatMap ActE.cs)){k:Nat}{x:ActE}(hx:l[k]? = some x)(hn:0<n) :
  ∃ b o c,v=.slice (some ⟨b,o,none⟩) n c∧b<w.heap.size∧w.cell? ⟨b,o+k * 6,none⟩=some (.int .i64 x.kind)∧w.cell? ⟨b,o+k * 6+1,none⟩=some (.int .i64 x.m)∧w.cell? ⟨b,o+k * 6+2,none⟩=some (.int .u64 x.x.n.key)∧w.cell? ⟨b,o+k * 6+3,none⟩=some (.int .u32 x.x.n.cookie)∧w.cell? ⟨b,o+k * 6+4,none⟩=some (.bool x.x.n.gone)∧w.cell? ⟨b,o+k * 6+5,none⟩=some (.slice x.x.a x.x.n.data.length x.x.c):=by
 obtain ⟨b,o,c,e,h1,_,h2⟩:=reads_at h hn (by omega)
 have key:∀ j u,j<6→(x.cs)[j]? = some u→w.cell? ⟨b,o+(k * 6+j),none⟩=some u:=fun j u hj hu=>h2 (k * 6+j) u (by rw [getElem?_flatMap_row ActE.cs 6 ActE.cs_len l k j hj,hx];exact hu)
 exact ⟨b,o,c,e,h1,key 0 _ (by omega) rfl,key 1 _ (by omega) rfl,key 2 _ (by omega) rfl,key 3 _ (by omega) rfl,key 4 _ (by omega) rfl,key 5 _ (by omega) rfl⟩
end Go.Proofs.YtfpjfoajonbndaaGreatDoor
