import Derived.Test.YtfpjfoajonbndaaGreatDoorChCheckPlain
import Derived.Test.YtfpjfoajonbndaaGreatDoorCh10
namespace Go.Proofs.YtfpjfoajonbndaaGreatDoor
def Dk.ckClear (d:Dk) (s:Nm):Nat×Dk:=if hasName d s=true then d.remove s else (0,d)
def ckDo (c:Ck) (step:Nat) (d:Dk):Nat×Dk:=
 if step=0 then (if (d.ckClear (cName c.vol 0)).1≠0 then d.ckClear (cName c.vol 0) else (d.ckClear (cName c.vol 0)).2.create (cName c.vol 0))
 else if step=1 then (if ckRight c≠0 then (ckRight c,d) else d.append (cName c.vol 0) (ckB c))
 else if step=2 then d.sync (cName c.vol 0)
 else if step=3 then d.rename (cName c.vol 0) (cName c.vol c.gen)
 else d.syncNames
def ckSnap (v:Vl):Ck:=⟨v.num,v.gen,v.size,v.idx⟩
end Go.Proofs.YtfpjfoajonbndaaGreatDoor
