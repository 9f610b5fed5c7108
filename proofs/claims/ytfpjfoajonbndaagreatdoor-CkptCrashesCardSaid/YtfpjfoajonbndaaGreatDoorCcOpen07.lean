import Derived.Test.YtfpjfoajonbndaaGreatDoorCcOpen
import Derived.Test.YtfpjfoajonbndaaGreatDoorCc7
namespace Go.Proofs.YtfpjfoajonbndaaGreatDoor
set_option maxHeartbeats 8000000
set_option maxRecDepth 100000
open Go.RowKit
set_option maxRecDepth 100000
set_option maxHeartbeats 8000000
open Go.RowKit Go.ChangeShapes Go.WideShapes Go.Deep
def PickOk (x:DPick):Prop := -9223372036854775808≤x.keep∧x.keep≤9223372036854775807
section
variable {H:Type} {enc:TypeId×Value→H} {w:World} {base:Nat} {spare:Nat→Bool} {held:Bool}
theorem pick_of{fuel:Nat}{cs:List Value}{x:DataW H×List MemPlace}(h:DataW.trod enc Tryz.prog w base spare held fuel 141 cs=some x):∃ c:DPick,cs=c.row∧PickOk c:=by
 obtain ⟨xs,n,_,_,hlen,hxl,hf⟩:=DataW.trod_struct Tryz.underlying141 h
 have hC:Tryz.prog.cellsOf 141=2:=by kernel_rfl
 have hI:Tryz.prog.cellsOf 3=1:=by kernel_rfl
 have hU:Tryz.prog.cellsOf 5=1:=by kernel_rfl
 rw [hC] at hlen
 match cs,hlen with
 | [c0,c1],_=>
  have e0:=hf 0 _ rfl
  have e1:=hf 1 _ rfl
  simp [hI,hU] at e0 e1
  match xs,hxl with
  | [x0,x1],_=>
   simp at e0 e1
   obtain ⟨a0,h0,hw⟩:=open_int Tryz.underlying3 e0
   obtain ⟨a1,h1⟩:=open_byte e1
   simp at h0 h1
   subst h0 h1
   exact ⟨⟨a0,a1⟩,rfl,wf_of_i64 hw⟩
theorem picks_of{fuel:Nat}{cs:List Value}{x:DataW H×List MemPlace}(h:DataW.trod enc Tryz.prog w base spare held fuel 25 cs=some x) :
  ∃(p:DPicks)(a:Option Addr)(cap:Nat),cs=[.int .i64 p.names,.slice a p.files.length cap]∧Reads w 2 (.slice a p.files.length cap) p.files.length (p.files.flatMap DPick.row)∧(∀ c∈p.files,PickOk c) ∧ -9223372036854775808≤p.names∧p.names≤9223372036854775807:=by
 obtain ⟨xs,n,_,_,hlen,hxl,hf⟩:=DataW.trod_struct Tryz.underlying25 h
 have hC:Tryz.prog.cellsOf 25=2:=by kernel_rfl
 have hI:Tryz.prog.cellsOf 3=1:=by kernel_rfl
 have hS:Tryz.prog.cellsOf 23=1:=by kernel_rfl
 rw [hC] at hlen
 match cs,hlen with
 | [c0,c1],_=>
  have e0:=hf 0 _ rfl
  have e1:=hf 1 _ rfl
  simp [hI,hS] at e0 e1
  match xs,hxl with
  | [x0,x1],_=>
   simp at e0 e1
   obtain ⟨a0,h0,hw⟩:=open_int Tryz.underlying3 e0
   obtain ⟨a,len,cap,l,h1,h2,h3,h4,_⟩:=open_row (α:=DPick) Tryz.underlying23 (by kernel_rfl:Tryz.prog.cellsOf 141=2) (by omega) DPick.row DPick.row_len PickOk (fun _ _ _ h=>pick_of h) e1
   simp at h0 h1
   subst h0 h1 h2
   exact ⟨⟨a0,l⟩,a,cap,rfl,h3,h4,wf_of_i64 hw⟩
theorem arg_picks{cs:Array Value}{d:DataW H}{p:List MemPlace}(h:DataW.Trod enc Tryz.prog w base spare held 25 (.agg cs) d p) :
  ∃(p:DPicks)(a:Option Addr)(cap:Nat),cs=#[.int .i64 p.names,.slice a p.files.length cap]∧Reads w 2 (.slice a p.files.length cap) p.files.length (p.files.flatMap DPick.row)∧(∀ c∈p.files,PickOk c) ∧ -9223372036854775808≤p.names∧p.names≤9223372036854775807:=by
 obtain ⟨fuel,hf⟩:=h
 obtain ⟨q,a,cap,h1,h2⟩:=picks_of hf
 exact ⟨q,a,cap,by simp [Value.cells] at h1;cases cs;simp_all,h2⟩
end
end Go.Proofs.YtfpjfoajonbndaaGreatDoor
