import Derived.Test.YtfpjfoajonbndaaGreatDoorCh21
import Derived.Test.YtfpjfoajonbndaaGreatDoorCh26
import Derived.Test.YtfpjfoajonbndaaGreatDoorCh27
import Derived.Test.YtfpjfoajonbndaaGreatDoorCh2
import Derived.Deep.LoopGhost
import Derived.Deep.DeepCutAuto
namespace Go.Proofs.YtfpjfoajonbndaaGreatDoor
open Go.RowKit
open Go.RowKit
theorem RvIn.agg{P:Nat→Prop}{w:World}{val:Value}{v:Rv}(h:RvIn w P val v):∃(u0 u1 u2 u3:Int)(u4:Bool)(u5a:Option Addr)(u5n u5c:Nat)(u6a:Option Addr)(u6n u6c:Nat),val=.agg #[.int .i64 u0,.int .i64 u1,.int .i64 u2,.int .i64 u3,.bool u4,.slice u5a u5n u5c,.slice u6a u6n u6c]:=by
 obtain ⟨al,cl,ad,cd,xs,rfl,_⟩:=h
 exact ⟨_,_,_,_,_,_,_,_,_,_,_,rfl⟩
theorem ndOV_agg(y:Option NdE):∃(y0 y1:Int)(y2:Bool)(ya:Option Addr)(yn yc:Nat),ndOV y=.agg #[.int .u64 y0,.int .u32 y1,.bool y2,.slice ya yn yc]:=by
 cases y with
 | none=>exact ⟨_,_,_,_,_,_,rfl⟩
 | some x=>exact ⟨_,_,_,_,_,_,rfl⟩
theorem reads_slice{w:World}{sz n:Nat}{v:Value}{xs:List Value}(h:Reads w sz v n xs):∃ a c,v=.slice a n c:=by
 rcases h.2 with ⟨e,h0⟩|⟨ad,c,e,_⟩
 ·exact ⟨none,0,by rw [e,h0]⟩
 ·exact ⟨some ad,c,e⟩
theorem mid_fin{P:Nat→Prop}{wr w w5 w6:World}{bx bq:Nat}{v:Rv}{u0 u1 u2 u3 u4 u5 u6 z0 z1 z2 z3 z4 z5 z6:Value}(y0 y1 y2 y3:Value){t:TypeId}
  (hbw:Below wr.heap.size wr w) (hb5:Below w.heap.size w w5) (hb6:Below w5.heap.size w5 w6) (h:RvIn w5 (PNew (POld P wr) w) (.agg #[u0,u1,u2,u3,u4,u5,u6]) v)
  (hx:(wr.heap.size≤bx∧bx<w.heap.size)∨w5.heap.size≤bx) (hq:(wr.heap.size≤bq∧bq<w.heap.size)∨w5.heap.size≤bq) (hne:bx≠bq) (kx:w6.heap[bx]? = some (.cells #[z0,z1,z2,z3,z4,z5,z6] t (0,0))) :
  Below wr.heap.size wr (set4 (set7i w6 bx u0 u1 u2 u3 u4 u5 u6) bq y0 y1 y2 y3)∧(set4 (set7i w6 bx u0 u1 u2 u3 u4 u5 u6) bq y0 y1 y2 y3).heap[bx]? = some (.cells #[u0,u1,u2,u3,u4,u5,u6] t (0,0))∧RvIn (set4 (set7i w6 bx u0 u1 u2 u3 u4 u5 u6) bq y0 y1 y2 y3) (PNew P wr) (.agg #[u0,u1,u2,u3,u4,u5,u6]) v:=by
 have hs1:=hbw.size
 have hs5:=hb5.size
 have hs6:=hb6.size
 have k7:=set7i_keeps w6 bx u0 u1 u2 u3 u4 u5 u6
 have kx7:=store7i kx u0 u1 u2 u3 u4 u5 u6
 have k4:=set4_keeps (set7i w6 bx u0 u1 u2 u3 u4 u5 u6) bq y0 y1 y2 y3
 refine ⟨?_,(k4.block bx (blk_lt kx7) hne).trans kx7,?_⟩
 ·refine (((hbw.trans (hb5.mono hs1)).trans (hb6.mono (by omega))).trans (k7.below (by omega) fun k e=>by omega)).trans (k4.below ?_ fun k e=>by omega)
  exact Nat.le_trans (by omega) k7.size
 ·have kk:Keeps (fun k=>k=bx∨k=bq) w5 (set4 (set7i w6 bx u0 u1 u2 u3 u4 u5 u6) bq y0 y1 y2 y3):=((Keeps.of_below hb6 fun k hk _=>hk).trans k7 (fun _ _ e=>.inl e)).trans k4 (fun _ _ e=>.inr e)
  have kp:KP (PNew (POld P wr) w) w5 (set4 (set7i w6 bx u0 u1 u2 u3 u4 u5 u6) bq y0 y1 y2 y3):=Keeps.mono kk (fun k hk e f=>by
   rcases f with ⟨_,f⟩|f <;> omega)
  refine (h.kp kp).wide (fun k hk _=>?_)
  rcases hk with ⟨f,_⟩|f
  ·exact .inl f
  ·exact .inr (by omega)
def rv0 (num most:Nat):Rv:=⟨num,most,0,16,false,[],[]⟩
theorem VF.more{w:World}{vp dp K L:Nat}{F:Nat→Prop}{d:Dk}{v:Vl}(h:VF w vp dp F K d v)(hl:K≤L):VF w vp dp F L d v:=by
 obtain ⟨ix,vx,G,q,h1,h2,h3,h4,h5,h6,h7⟩:=h
 exact ⟨ix,vx,G,q,h1,h2,h3.mono hl,h4,h5,h6,h7⟩
end Go.Proofs.YtfpjfoajonbndaaGreatDoor
