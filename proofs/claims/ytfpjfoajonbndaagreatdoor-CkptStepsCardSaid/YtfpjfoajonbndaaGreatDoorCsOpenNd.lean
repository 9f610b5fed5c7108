import Derived.Test.YtfpjfoajonbndaaGreatDoorCs21
import Derived.Test.YtfpjfoajonbndaaGreatDoorCs16
import Derived.Test.YtfpjfoajonbndaaGreatDoorCs2
namespace Go.Proofs.YtfpjfoajonbndaaGreatDoor
set_option maxHeartbeats 8000000
set_option maxRecDepth 100000
open Go.RowKit
set_option maxRecDepth 100000
set_option maxHeartbeats 8000000
open Go.RowKit Go.ChangeShapes Go.WideShapes Go.Deep
structure NdArg (w:World) (x:NdE):Prop where
 key:x.n.key<18446744073709551616
 cookie:x.n.cookie<4294967296
 data:Reads w 1 (.slice x.a x.n.data.length x.c) x.n.data.length (x.n.data.map bv)
theorem NdArg.below{w w':World}{x:NdE}(h:NdArg w x)(hb:Below w.heap.size w w'):NdArg w' x:=⟨h.key,h.cookie,h.data.below hb⟩
structure ActE where
 kind:Int
 m:Int
 x:NdE
def ActE.cs (e:ActE):List Value:=.int .i64 e.kind :: .int .i64 e.m :: e.x.cs
theorem ActE.cs_len(e:ActE):e.cs.length=6:=rfl
structure ActArg (w:World) (e:ActE):Prop where
 kind : -9223372036854775808≤e.kind∧e.kind≤9223372036854775807
 m : -9223372036854775808≤e.m∧e.m≤9223372036854775807
 nd:NdArg w e.x
theorem ActArg.below{w w':World}{e:ActE}(h:ActArg w e)(hb:Below w.heap.size w w'):ActArg w' e:=⟨h.kind,h.m,h.nd.below hb⟩
def ActE.act (e:ActE):VAct:=⟨e.kind,e.m,e.x.n⟩
section
variable {H:Type} {enc:TypeId×Value→H} {w:World} {base:Nat} {spare:Nat→Bool} {held:Bool}
theorem wf_of_u64{n:Int}(h:(Lit.int .u64 n).wf=true):0≤n∧n≤18446744073709551615:=by
 simp [Lit.wf] at h
 have e1:IntKind.u64.min=0:=by decide
 have e2:IntKind.u64.max=18446744073709551615:=by decide
 omega
theorem wf_of_u32{n:Int}(h:(Lit.int .u32 n).wf=true):0≤n∧n≤4294967295:=by
 simp [Lit.wf] at h
 have e1:IntKind.u32.min=0:=by decide
 have e2:IntKind.u32.max=4294967295:=by decide
 omega
theorem nd_of{fuel:Nat}{cs:List Value}{x:DataW H×List MemPlace}(h:DataW.trod enc Tryz.prog w base spare held fuel 49 cs=some x):∃ c:NdE,cs=c.cs∧NdArg w c:=by
 obtain ⟨xs,n,_,_,hlen,hxl,hf⟩:=DataW.trod_struct Tryz.underlying49 h
 have hC:Tryz.prog.cellsOf 49=4:=by kernel_rfl
 have hI:Tryz.prog.cellsOf 45=1:=by kernel_rfl
 have hU:Tryz.prog.cellsOf 46=1:=by kernel_rfl
 have hO:Tryz.prog.cellsOf 4=1:=by kernel_rfl
 have hB:Tryz.prog.cellsOf 47=1:=by kernel_rfl
 rw [hC] at hlen
 match cs,hlen with
 | [c0,c1,c2,c3],_=>
  have e0:=hf 0 _ rfl
  have e1:=hf 1 _ rfl
  have e2:=hf 2 _ rfl
  have e3:=hf 3 _ rfl
  simp [hI,hU,hO,hB] at e0 e1 e2 e3
  match xs,hxl with
  | [x0,x1,x2,x3],_=>
   simp at e0 e1 e2 e3
   obtain ⟨a0,h0,hw0⟩:=open_int Tryz.underlying45 e0
   obtain ⟨a1,h1,hw1⟩:=open_int Tryz.underlying46 e1
   obtain ⟨a2,h2,_⟩:=DataW.trod_bool Tryz.underlying4 e2
   obtain ⟨ab,lb,cb,b,h3,h3l,h3r,_⟩:=open_bytes e3
   simp at h0 h1 h2 h3
   have w0:=wf_of_u64 hw0
   have w1:=wf_of_u32 hw1
   obtain ⟨k0,rfl⟩:∃ k:Nat,a0=k:=⟨a0.toNat,by omega⟩
   obtain ⟨k1,rfl⟩:∃ k:Nat,a1=k:=⟨a1.toNat,by omega⟩
   subst h0 h1 h2 h3 h3l
   exact ⟨⟨⟨k0,k1,a2,b⟩,ab,cb⟩,rfl,⟨by show k0<_;omega,by show k1<_;omega,h3r⟩⟩
theorem act9_of{fuel:Nat}{cs:List Value}{x:DataW H×List MemPlace}(h:DataW.trod enc Tryz.prog w base spare held fuel 53 cs=some x):∃ c:ActE,cs=c.cs∧ActArg w c:=by
 obtain ⟨xs,n,_,_,hlen,hxl,hf⟩:=DataW.trod_struct Tryz.underlying53 h
 have hC:Tryz.prog.cellsOf 53=6:=by kernel_rfl
 have hI:Tryz.prog.cellsOf 3=1:=by kernel_rfl
 have hN:Tryz.prog.cellsOf 49=4:=by kernel_rfl
 rw [hC] at hlen
 match cs,hlen with
 | [c0,c1,c2,c3,c4,c5],_=>
  have e0:=hf 0 _ rfl
  have e1:=hf 1 _ rfl
  have e2:=hf 2 _ rfl
  simp [hI,hN] at e0 e1 e2
  match xs,hxl with
  | [x0,x1,x2],_=>
   simp at e0 e1 e2
   obtain ⟨a0,h0,hw0⟩:=open_int Tryz.underlying3 e0
   obtain ⟨a1,h1,hw1⟩:=open_int Tryz.underlying3 e1
   obtain ⟨c,h2,hc⟩:=nd_of e2
   simp at h0 h1
   subst h0 h1
   exact ⟨⟨a0,a1,c⟩,by rw [h2];rfl,⟨wf_of_i64 hw0,wf_of_i64 hw1,hc⟩⟩
theorem arg_acts9{a:Option Addr}{len cap:Nat}{d:DataW H}{p:List MemPlace}(h:DataW.Trod enc Tryz.prog w base spare held 22 (.slice a len cap) d p) :
  ∃ l:List ActE,l.length=len∧Reads w 6 (.slice a len cap) len (l.flatMap ActE.cs)∧∀ x∈l,ActArg w x:=by
 obtain ⟨fuel,hf⟩:=h
 obtain ⟨a',len',cap',l,h1,h2,h3,h4,_⟩:=open_row (α:=ActE) Tryz.underlying22 (by kernel_rfl:Tryz.prog.cellsOf 53=6) (by omega) ActE.cs ActE.cs_len (ActArg w) (fun _ _ _ h=>act9_of h) hf
 simp [Value.cells] at h1
 obtain ⟨rfl,rfl,rfl⟩:=h1
 exact ⟨l,h2,h3,h4⟩
end
theorem nd_cells{w:World}{v:Value}{n:Nat}{l:List NdE}(h:Reads w 4 v n (l.flatMap NdE.cs)){k:Nat}{x:NdE}(hx:l[k]? = some x)(hn:0<n) :
  ∃ b o c,v=.slice (some ⟨b,o,none⟩) n c∧b<w.heap.size∧w.cell? ⟨b,o+k * 4,none⟩=some (.int .u64 x.n.key)∧w.cell? ⟨b,o+k * 4+1,none⟩=some (.int .u32 x.n.cookie)∧w.cell? ⟨b,o+k * 4+2,none⟩=some (.bool x.n.gone)∧w.cell? ⟨b,o+k * 4+3,none⟩=some (.slice x.a x.n.data.length x.c):=by
 obtain ⟨b,o,c,e,h1,_,h2⟩:=reads_at h hn (by omega)
 have key:∀ j u,j<4→(x.cs)[j]? = some u→w.cell? ⟨b,o+(k * 4+j),none⟩=some u:=fun j u hj hu=>h2 (k * 4+j) u (by rw [getElem?_flatMap_row NdE.cs 4 NdE.cs_len l k j hj,hx];exact hu)
 exact ⟨b,o,c,e,h1,key 0 _ (by omega) rfl,key 1 _ (by omega) rfl,key 2 _ (by omega) rfl,key 3 _ (by omega) rfl⟩
theorem act9_cells{w:World}{v:Value}{n:Nat}{l:List ActE}(h:Reads w 6 v n (l.flatMap ActE.cs)){k:Nat}{x:ActE}(hx:l[k]? = some x)(hn:0<n) :
  ∃ b o c,v=.slice (some ⟨b,o,none⟩) n c∧b<w.heap.size∧w.cell? ⟨b,o+k * 6,none⟩=some (.int .i64 x.kind)∧w.cell? ⟨b,o+k * 6+1,none⟩=some (.int .i64 x.m)∧w.cell? ⟨b,o+k * 6+2,none⟩=some (.int .u64 x.x.n.key)∧w.cell? ⟨b,o+k * 6+3,none⟩=some (.int .u32 x.x.n.cookie)∧w.cell? ⟨b,o+k * 6+4,none⟩=some (.bool x.x.n.gone)∧w.cell? ⟨b,o+k * 6+5,none⟩=some (.slice x.x.a x.x.n.data.length x.x.c):=by
 obtain ⟨b,o,c,e,h1,_,h2⟩:=reads_at h hn (by omega)
 have key:∀ j u,j<6→(x.cs)[j]? = some u→w.cell? ⟨b,o+(k * 6+j),none⟩=some u:=fun j u hj hu=>h2 (k * 6+j) u (by rw [getElem?_flatMap_row ActE.cs 6 ActE.cs_len l k j hj,hx];exact hu)
 exact ⟨b,o,c,e,h1,key 0 _ (by omega) rfl,key 1 _ (by omega) rfl,key 2 _ (by omega) rfl,key 3 _ (by omega) rfl,key 4 _ (by omega) rfl,key 5 _ (by omega) rfl⟩
end Go.Proofs.YtfpjfoajonbndaaGreatDoor
