import Derived.Test.YtfpjfoajonbndaaGreatDoorChAppReads
import Derived.Test.YtfpjfoajonbndaaGreatDoorCh2
import Derived.Test.YtfpjfoajonbndaaGreatDoorRows
import Derived.OwnWalk
namespace Go.Proofs.YtfpjfoajonbndaaGreatDoor
set_option maxHeartbeats 8000000
set_option maxRecDepth 100000
open Go.RowKit
set_option maxRecDepth 100000
set_option maxHeartbeats 8000000
open Go.RowKit
theorem byteT_info:(Tryz.prog.info? 5).map (fun i=>(i.zero,i.size,i.bytes))=some (some (.int .u8 0),1,1):=by kernel_rfl
def ByteCl (w:World) (v:Value) (xs:List UInt8) (e:Ending) (w':World):Prop:=
 ∃ v',e=.returned v'∧w'.ownsRow w.heap.size 5 1 v' xs.length (xs.map bv)∧(v=.slice none 0 0→v'=.slice none 0 0)∧Below w.heap.size w w'
theorem bclone_any(v:Value)(xs:List UInt8)(w:World)(h:Reads w 1 v xs.length (xs.map bv))(hb:xs.length≤140737488355328) :
  Calls Tryz.prog 74 #[v] w (ByteCl w v xs):=by
 obtain ⟨i0,hi,hz0,hz1,hz2⟩:=info_parts byteT_info
 obtain ⟨_,⟨rfl,h0⟩|⟨a,c,rfl,hm,hc⟩⟩:=id h
 ·have hx:xs=[]:=List.eq_nil_of_length_eq_zero h0
  subst hx
  clear hi hz0 hz1 hz2 h hb
  have hne:=fun (wx:World)=>Lib.run_eql_slice_nil (P:=Tryz.prog) wx 47 5 none 0 0 0 0 Tryz.underlying47
  go_enter Tryz.func74,Tryz.ntmps74
  go_wp2
  go_ret
  exact ⟨_,rfl,World.ownsRow_nil _ _ _ _,fun _=>rfl,Below.refl _ _⟩
 ·have hne:=fun (wx:World)=>Lib.run_eql_slice_nil (P:=Tryz.prog) wx 47 5 (some a) xs.length c 0 0 Tryz.underlying47
  have HI:=Hd hi
  have HZ0:=Hd hz0
  have HZ1:=Hd hz1
  have HZ2:=Hd hz2
  have HR:=Hd h
  clear hi hz0 hz1 hz2 h hc hm
  go_enter Tryz.func74,Tryz.ntmps74
  go_wp2_with (at_builtin;refine wpList_append_reads _ rfl _ _ 47 rfl w.heap.size 5 i0 (.int .u8 0) 1 1 Tryz.underlying47 HI.out HZ0.out HZ1.out HZ2.out rfl (by decide) (.slice (some ⟨w.heap.size,0,none⟩) 0 0) 0 [] rfl (World.ownsRow_lit w #[] 0 (Nat.le_refl _) (by unfold maxLen;omega) rfl) (.slice (some a) xs.length c) xs.length (xs.map bv) rfl (HR.out.below belo) (bv_one xs) (by have:=HR.out.le;omega) (by omega) (by simp) ?_;intro v' w1 hown' hgrow hnil)
  go_ret
  exact ⟨_,rfl,by simpa using hown',(fun e=>by cases e),(((Below.refl _ _).alloc (Nat.le_refl _) _).grown hgrow (by simp) (by simp [Value.ownBlock]))⟩
end Go.Proofs.YtfpjfoajonbndaaGreatDoor
