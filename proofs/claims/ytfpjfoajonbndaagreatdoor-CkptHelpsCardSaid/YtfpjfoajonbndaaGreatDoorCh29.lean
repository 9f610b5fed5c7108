import Derived.Test.YtfpjfoajonbndaaGreatDoorRows
import Derived.WalkKit
import Derived.ProofKit
import Derived.OpenShut
import Derived.ShutString
import Derived.ChangeOld
namespace Go.Proofs.YtfpjfoajonbndaaGreatDoor
open Go.RowKit
open Go.ChangeShapes Go.WideShapes Go.ChangeAt Go.RowKit
theorem u8_of{H:Type}{enc:TypeId×Value→H}{W:World}{base:Nat}{spare:Nat→Bool}{held:Bool}{v:Value}{d:DataW H}{p:List MemPlace}(h:DataW.Trod enc Tryz.prog W base spare held 5 v d p)(n:Int)(hv:v=.int .u8 n) :
  0≤n∧n≤255:=by
 obtain ⟨fuel,hf⟩:=h
 obtain ⟨k,hk,_,hw⟩:=DataW.trod_int Tryz.underlying5 hf
 subst hv
 simp [Value.cells] at hk
 subst hk
 simp [Lit.wf] at hw
 have e1:IntKind.u8.min=0:=by decide
 have e2:IntKind.u8.max=255:=by decide
 exact ⟨by omega,by omega⟩
open Go.ChangeShapes Go.WideShapes Go.ChangeAt Go.RowKit
theorem u16_of{H:Type}{enc:TypeId×Value→H}{W:World}{base:Nat}{spare:Nat→Bool}{held:Bool}{v:Value}{d:DataW H}{p:List MemPlace}(h:DataW.Trod enc Tryz.prog W base spare held 93 v d p)(n:Int)(hv:v=.int .u16 n) :
  0≤n∧n≤65535:=by
 obtain ⟨fuel,hf⟩:=h
 obtain ⟨k,hk,_,hw⟩:=DataW.trod_int Tryz.underlying93 hf
 subst hv
 simp [Value.cells] at hk
 subst hk
 simp [Lit.wf] at hw
 have e1:IntKind.u16.min=0:=by decide
 have e2:IntKind.u16.max=65535:=by decide
 exact ⟨by omega,by omega⟩
end Go.Proofs.YtfpjfoajonbndaaGreatDoor
