import Derived.Test.YtfpjfoajonbndaaGreatDoorCh16
import Derived.Test.YtfpjfoajonbndaaGreatDoorCh15
import Derived.Test.YtfpjfoajonbndaaGreatDoorChAppReads
import Derived.OwnWalk
namespace Go.Proofs.YtfpjfoajonbndaaGreatDoor
open Go.RowKit
open Go.RowKit
structure Ld where
 l:List Nd
 next:Nat
 more:Bool
 bad:Nat
def takeOne (v:Vl) (d:Dk) (p:Ps):Option Nd:=if p.gone=true then some ⟨p.key,p.cookie,true,[]⟩ else if (v.get d p.key p.cookie).1≠0 then none else some (v.get d p.key p.cookie).2.2
def Vl.load (v:Vl) (d:Dk) (fr n:Nat):Ld:=
 ⟨((v.keys fr ((n:Int)+1)).take n).filterMap (takeOne v d),(match (v.keys fr ((n:Int)+1))[n]? with|some p=>p.key|none=>0),decide (n<(v.keys fr ((n:Int)+1)).length),((v.keys fr ((n:Int)+1)).take n).countP fun p=>(takeOne v d p).isNone⟩
theorem find_in{v:Vl}{key cookie:Nat}(hp:∀ p∈v.idx,p.len≤4096∧p.off≤1000000000):(v.find key cookie).2.len≤4096∧(v.find key cookie).2.off≤1000000000:=by
 unfold Vl.find
 cases e:ixFind v.idx key with
 | none=>exact ⟨by simp,by simp⟩
 | some p=>
  have:=hp p (mem_of_ixFind e).1
  simp only
  split
  ·exact ⟨by simp,by simp⟩
  split
  ·exact ⟨by simp,by simp⟩
  ·exact this
end Go.Proofs.YtfpjfoajonbndaaGreatDoor
