import Derived.Test.YtfpjfoajonbndaaGreatDoorCaErr
import Derived.Test.YtfpjfoajonbndaaGreatDoorCaBase2
import Derived.Test.YtfpjfoajonbndaaGreatDoorCa2
import Derived.Test.YtfpjfoajonbndaaGreatDoorCaOrderIn
import Derived.RangeFuncNested
import Derived.RangeFuncBound
import Derived.RangeFuncCalls
import Derived.RangeFuncLeaves
import Derived.RangeFuncBox
import Derived.Shelf.Abstract
import Derived.Shelf.RegionOpen
import Derived.OwnWalkIn
import Derived.TacticsInMore
import Derived.LoopNIn
import Derived.LoopIn
import Derived.Maps.AppendAt
namespace Go.Proofs.YtfpjfoajonbndaaGreatDoor
set_option maxHeartbeats 8000000
set_option maxRecDepth 100000
open Go.RowKit
set_option maxRecDepth 100000
set_option maxHeartbeats 8000000
open Go.RowKit Go.Shelf
attribute [local go_sem] Oper.semAt_some
theorem clone_info_Byte:(Tryz.prog.info? 5).map (fun i=>(i.zero,i.size,i.bytes))=some (some (.int .u8 0),1,1):=by kernel_rfl
theorem clone_Byte (v:Value) (n:Nat) (xs:List Value) (w:World) (h:Reads w 1 v n xs) (h1:∀ u∈xs,u.oneCell'=true) (hb:n * 1≤140737488355328) :
  Calls Tryz.prog 165 #[v] w (CloneOut w 5 1 v n xs):=by
 obtain ⟨i0,hi,hz0,hz1,hz2⟩:=info_parts clone_info_Byte
 obtain ⟨hlen,⟨rfl,rfl⟩|⟨a,c,rfl,hm,hcell⟩⟩:=h
 ·have hx:xs=[]:=List.eq_nil_of_length_eq_zero (by simpa using hlen)
  subst hx
  clear hi hz0 hz1 hz2 hlen h1 hb
  have hne:=fun (wx:World)=>Lib.run_eql_slice_nil (P:=Tryz.prog) wx 47 5 none 0 0 0 0 Tryz.underlying47
  go_enter Tryz.func165,Tryz.ntmps165
  go_wp2
  go_ret
  exact ⟨_,rfl,World.ownsRow_nil _ _ _ _,Iff.rfl,Below.refl _ _⟩
 ·have hne:=fun (wx:World)=>Lib.run_eql_slice_nil (P:=Tryz.prog) wx 47 5 (some a) n c 0 0 Tryz.underlying47
  have HI:=Lib.hid hi
  have HZ0:=Lib.hid hz0
  have HZ1:=Lib.hid hz1
  have HZ2:=Lib.hid hz2
  have HL:=Lib.hid hlen
  have HC:=Lib.hid hcell
  have H1:=Lib.hid h1
  clear hi hz0 hz1 hz2 hlen hcell h1
  go_enter Tryz.func165,Tryz.ntmps165
  go_wp2_with (at_builtin;refine wpList_append_own _ rfl _ _ 47 rfl w.heap.size 5 i0 (.int .u8 0) 1 1 Tryz.underlying47 HI.out HZ0.out HZ1.out HZ2.out rfl (by decide) (.slice (some ⟨w.heap.size,0,none⟩) 0 0) 0 [] rfl (World.ownsRow_lit w #[] 0 (Nat.le_refl _) (by unfold maxLen;omega) rfl) a n c xs rfl HL.out (fun j u hu=>cell_later ((Below.refl _ _).alloc (Nat.le_refl _) _) (HC.out j u hu)) H1.out (by omega) (by omega) (by simp) ?_;intro v' w1 hown' hgrow hnil)
  go_ret
  exact ⟨_,rfl,by simpa using hown',by simpa using hnil,(((Below.refl _ _).alloc (Nat.le_refl _) _).grown hgrow (by simp) (by simp [Value.ownBlock]))⟩
theorem sized_any (k:Int) (w:World):Calls Tryz.prog 158 #[.int .i64 k] w fun e w'=>e=.returned (.bool (k == 1 || k == 2 || k == 4 || k == 8))∧w=w':=by
 go_enter Tryz.func158,Tryz.ntmps158
 go_wp2
 all_goals
  go_ret
  exact ⟨ret_bool (by simp [*]),rfl⟩
theorem byte_cast (n k:Nat):((n / 256 ^ k % 256:Nat):Int)=(n:Int) / 2 ^ (8 * k) % 256:=by
 rw [Int.natCast_emod,Int.natCast_ediv,Int.natCast_pow,show ((256:Nat):Int)=2 ^ 8 from rfl,←Int.pow_mul]
 rfl
theorem part_byte (n k:Nat) (hk:k<8) (B:Nat) (w:World) (_:n<18446744073709551616) (hc:w.cell? ⟨B,0,none⟩=some (.int .u64 n)) :
  Calls Tryz.prog 166 #[.int .i64 k,.pointer (some ⟨B,0,none⟩)] w fun e w'=>e=.returned (.int .u8 ((n / 256 ^ k % 256:Nat):Int))∧w=w':=by
 go_enter Tryz.func166,Tryz.ntmps166
 go_wp2
 go_ret
 exact ⟨ret_int (byte_cast n k).symm,rfl⟩
theorem fits_cast (n k:Nat) (hk:k≠8):decide (n<256 ^ k)=((k:Int) == 8 || (n:Int) / 2 ^ (8 * k) == 0):=by
 have h1:((k:Int) == 8)=false:=beq_eq_false_iff_ne.2 (by omega)
 rw [h1,Bool.false_or,Bool.eq_iff_iff,decide_eq_true_iff,beq_iff_eq]
 have h2:(n:Int) / 2 ^ (8 * k)=((n / 256 ^ k:Nat):Int):=by
  rw [Int.natCast_ediv,Int.natCast_pow,show ((256:Nat):Int)=2 ^ 8 from rfl,←Int.pow_mul]
 rw [h2]
 have h3:=Nat.div_eq_zero_iff_lt (x:=n) (k:=256 ^ k) (Nat.pow_pos (by omega))
 omega
theorem fits_any (n:Nat) (k:Nat) (hn:n<18446744073709551616) (hk:k=1∨k=2∨k=4∨k=8) (w:World) :
  Calls Tryz.prog 164 #[.int .u64 n,.int .i64 k] w fun e w'=>e=.returned (.bool (decide (n<256 ^ k)))∧w=w':=by
 by_cases h8:k=8
 ·subst h8
  have hd:decide (n<256 ^ 8)=true:=by simpa using hn
  rw [hd]
  clear hd hk
  have H:=Lib.hid hn
  clear hn
  go_enter Tryz.func164,Tryz.ntmps164
  go_wp2
  go_ret
  exact ⟨rfl,rfl⟩
 ·have HD:=Lib.hid (fits_cast n k h8)
  have hk9:k<8:=by omega
  have HK:=Lib.hid hk
  clear hk
  go_enter Tryz.func164,Tryz.ntmps164
  go_wp2
  go_ret
  exact ⟨ret_bool (by rw [HD.out]),rfl⟩
def nthByte (n k:Nat):UInt8:=UInt8.ofNat (n / 256 ^ k)
theorem part_any (n k:Nat) (hk:k<8) (B:Nat) (w:World) (hn:n<18446744073709551616) (hc:w.cell? ⟨B,0,none⟩=some (.int .u64 n)) :
  Calls Tryz.prog 166 #[.int .i64 k,.pointer (some ⟨B,0,none⟩)] w fun e w'=>e=.returned (.int .u8 ((nthByte n k).toNat:Int))∧w=w':=by
 have h:=part_byte n k hk B w hn hc
 have e:(Value.int .u8 ((nthByte n k).toNat:Int))=.int .u8 ((n / 256 ^ k % 256:Nat):Int):=by
  unfold nthByte
  rw [UInt8.toNat_ofNat']
 rw [e]
 exact h
def Kept (b c:Nat) (W W':World):Prop:=W'.heap[b]? = W.heap[b]? ∧ W'.heap[c]? = W.heap[c]?
theorem Kept.refl (b c:Nat) (W:World):Kept b c W W:=⟨rfl,rfl⟩
theorem Kept.trans {b c:Nat} {A B C:World} (h:Kept b c A B) (k:Kept b c B C):Kept b c A C:=⟨k.1.trans h.1,k.2.trans h.2⟩
theorem Kept.cell1 {b c:Nat} {W W':World} (h:Kept b c W W') (o:Nat):W'.cell? ⟨b,o,none⟩=W.cell? ⟨b,o,none⟩:=World.cell?_of_block (a:=⟨b,o,none⟩) h.1
theorem Kept.cell2 {b c:Nat} {W W':World} (h:Kept b c W W') (o:Nat):W'.cell? ⟨c,o,none⟩=W.cell? ⟨c,o,none⟩:=World.cell?_of_block (a:=⟨c,o,none⟩) h.2
def backL (L m:Nat):List (Fin L):=((List.finRange L).drop m).reverse
theorem backL_len (L m:Nat):(backL L m).length=L - m:=by simp [backL]
theorem backL_all (L:Nat):backL L L=[]:=by simp [backL,List.drop_eq_nil_of_le]
theorem backL_step (L j:Nat) (h:j<L):backL L j=backL L (j+1) ++ [⟨j,h⟩]:=by
 unfold backL
 rw [List.drop_eq_getElem_cons (by simpa using h)]
 simp
def backEnc (zs:List UInt8) (i:Fin zs.length):Array Value:=#[.int .i64 (i.val:Int),.int .u8 (zs[i.val].toNat:Int)]
theorem back1_in (F:Fence) (n:Nat) (hF:F.fn 187) (hro:F.round=none) (hn:1≤n) (l Bs b off cap:Nat) (zs:List UInt8) (hreach:zs.length≤maxLen) (J Jx:List (Fin zs.length)→World→Prop)
  (hY:∀ pre x W,J pre W→pre.length<zs.length→YieldAt F (n - 1) Tryz.prog l (backEnc zs x) W fun e W'=>
   (e=.returned (.bool true)∧J (pre ++ [x]) W'∧Kept b Bs W W')∨(e=.returned (.bool false)∧Jx (pre ++ [x]) W'))
  (W:World) (hBs:W.cell? ⟨Bs,0,none⟩=some (.slice (some ⟨b,off,none⟩) zs.length cap)) (hc:∀ j (h:j<zs.length),W.cell? ⟨b,off+j,none⟩=some (.int .u8 (zs[j].toNat:Int))) (h0:J [] W) :
  CallsIn F n Tryz.prog 187 #[.func (.yield l) #[] #[],.pointer (some ⟨Bs,0,none⟩)] W fun e W'=>(∃ v,e=.returned v) ∧
   ((∃ ys,ys=backL zs.length 0∧J ys W')∨(∃ pre,(∃ k,k≤zs.length∧pre=backL zs.length k)∧Jx pre W')):=by
 unfold maxLen at hreach
 have HC:=Lib.hid hc
 clear hc
 refine callsIn_of_wp Tryz.func187 rfl hF ?_ hro
 simp only [Tryz.ntmps187,List.size_toArray,List.length_cons,List.length_nil,Nat.reduceAdd,Nat.reduceSub,Array.replicate_succ,Array.replicate_zero,List.push_toArray,List.append_toArray,List.nil_append,List.cons_append]
 gi_wp2
 gi_loopw [3] (fun i wr=>∃ m:Nat,m≤zs.length∧i=.int .i64 ((m:Int) - 1)∧J (backL zs.length m) wr∧Kept b Bs W wr)
  (fun i _=>(intOf i+1).toNat)
 case atStart=>exact ⟨zs.length,Nat.le_refl _,rfl,by rw [backL_all];exact h0,Kept.refl _ _ _⟩
 case round=>
  obtain ⟨m,hm,rfl,hJ,hnx⟩:=hrel
  have hBs':=(hnx.cell2 0).trans hBs
  rcases m with _|j
  ·have HJ:=Lib.hid hJ
   clear hJ
   gi_wp2
   go_end0
   exact ⟨⟨_,rfl⟩,.inl ⟨_,rfl,HJ.out⟩⟩
  ·have hcx:=(hnx.cell1 (off+j)).trans (HC.out j (by omega))
   have hjl:j<zs.length:=by omega
   have HF:=Lib.hid (backL_step zs.length j hjl)
   obtain ⟨fn,tmps,assign,body,hy,hR⟩:=hY _ ⟨j,hjl⟩ wr hJ (by rw [backL_len];omega)
   dsimp only [backEnc] at hy
   have e1:((j+1:Nat):Int) - 1=(j:Int):=by omega
   rw [e1]
   clear e1 hJ
   gi_wp2
   refine hR.mono ?_
   rintro e W3 (⟨rfl,hJ3,hk3⟩|⟨rfl,hJx3⟩)
   ·have HJ:=Lib.hid hJ3
    have hk:=hnx.trans hk3
    clear hJ3 hk3 hnx
    gi_wp2
    go_roundw
    case rel=>exact ⟨j,by omega,rfl,by rw [HF.out];exact HJ.out,hk⟩
    case measure=>first|(simp [intOf];done)|(simp [intOf];omega)
   ·have HJ:=Lib.hid hJx3
    clear hJx3
    gi_wp2
    refine bodyPost_ret (results_none rfl _ _ _) rfl ?_
    exact ⟨⟨_,rfl⟩,.inr ⟨_,⟨j,by omega,HF.out.symm⟩,HJ.out⟩⟩
theorem back_any (a:Option Addr) (len cap:Nat) (w:World) :
  Calls Tryz.prog 159 #[.slice a len cap] w fun e w'=>e=.returned (.func (.func 187) #[] #[.pointer (some ⟨w.heap.size,0,none⟩)])∧w.alloc (.cells #[.slice a len cap] 47)=w':=by
 go_enter Tryz.func159,Tryz.ntmps159
 go_wp2
 go_ret
 exact ⟨rfl,rfl⟩
theorem back_stops (F:Fence) (n:Nat) (hF:F.fn 187) (hro:F.round=none) (hn:1≤n) (Bs b off cap:Nat) (zs:List UInt8) (hreach:zs.length≤maxLen) (w:World) (hBs:Bs<w.heap.size) (hb:b<w.heap.size)
  (hc:w.cell? ⟨Bs,0,none⟩=some (.slice (some ⟨b,off,none⟩) zs.length cap)) (hI:∀ j (h:j<zs.length),w.cell? ⟨b,off+j,none⟩=some (.int .u8 (zs[j].toNat:Int))) :
  SeqStopsK F n Tryz.prog 187 #[.pointer (some ⟨Bs,0,none⟩)] (backEnc zs) (Kept b Bs) (fun ys=>ys=backL zs.length 0)
   (fun pre=>∃ k,k≤zs.length∧pre=backL zs.length k) zs.length w:=fun l J Jx W hW _ _ hY h0=>
 back1_in F n hF hro hn l Bs b off cap zs hreach J Jx hY W ((hW.cell (p:=⟨Bs,0,none⟩) hBs).trans hc) (fun j hj=>(hW.cell (p:=⟨b,off+j,none⟩) hb).trans (hI j hj)) h0
theorem kept_put {b c:Nat} {w:World} (hb:b<w.heap.size) (hc:c<w.heap.size) (W:World) (l:Nat) (o o':Obj) (hl:w.heap.size≤l) (_:W.heap[l]? = some o) (_:o.isCells=false) (_:o.isWalk=false):Kept b c W (W.putObj l o'):=by
 constructor <;> (simp only [World.putObj];rw [Array.getElem?_setIfInBounds];rw [if_neg (by omega)])
def assignAct (a:Act) (ps:Array Tmp) (vs:Array Value) (d p:Tmp):Act:=
 { tmps:=(((ps.zip vs).foldl (fun t (p,v)=>t.setIfInBounds p v) a.tmps)).setIfInBounds d ((((ps.zip vs).foldl (fun t (p,v)=>t.setIfInBounds p v) a.tmps)).getD p undef),defers:=[] }
theorem wpIn_assign_one {F:Fence} {n:Nat} {P:Program} {Q:Exit→Act→World→Prop} {id:Nat} {d p:Tmp} {ty:TypeId} {po:String} {a:Act} {w:World}
  (h:Q .normal (a.put (some d) (a.tmps.getD p undef)) w):(Code.region id #[{ dst:=some d,op:=.assign (.tmp p),type:=ty,pos:=po,after:=#[],guard:=none }] false).wpIn F n P Q a w:=by
 refine wpIn_region ?_
 show wpOpsIn F n P _ Q [0] a w
 simp only [wpOpsIn,List.getElem?_toArray,List.getElem?_cons_zero,Region.wanted,if_true]
 unfold Oper.wpIn
 refine ⟨fun f hf=>(by cases hf),?_⟩
 rw [Oper.semAt_eq _ _ _ (by intro c hc;cases hc)]
 exact h
theorem wpIn_rangeFunc_one {F:Fence} {n:Nat} {P:Program} {α:Type} {g:Operand} {ps:Array Tmp} {id:Nat} {d p:Tmp} {ty:TypeId} {po:String} {body:Code} {Q:Exit→Act→World→Prop} {a:Act} {w:World}
  (hro:F.round=none) (h1:1≤n) {gf:Nat} {lb:Array Value} (hg:a.eval g=.func (.func gf) #[] lb) (hFg:F.fn gf) (eg:∀ args w,(callFunc gf args).run P w=.ok (.enter gf args) w)
  {encs:α→Array Value} {Kp:World→World→Prop} {S Sp:List α→Prop} {N:Nat} {w0:World} (hseq:SeqStopsK F (n - 1) P gf lb encs Kp S Sp N w0)
  (hKt:∀ {A B C:World},Kp A B→Kp B C→Kp A C) (hKb:∀ (W:World) (l:Nat) (o o':Obj),w.heap.size≤l→W.heap[l]? = some o→o.isCells=false→o.isWalk=false→Kp W (W.putObj l o')) (hb0:Below w0.heap.size w0 w) (hps:∀ x,(encs x).size=ps.size)
  (I:List α→World→Prop) (Ix:Code→List α→World→Prop) (hI:OwnFrom w.heap.size I) (hIx:∀ c,OwnFrom w.heap.size (Ix c)) (h0:I [] w)
  (hbody:∀ (l:Nat) (pre:List α) (x:α) (W:World),I pre W→pre.length<N→body.wpIn (F.inRound l) (n - 1 - 1) P (ownPostG w.heap.size Kp I Ix (pre ++ [x]) W) (assignAct a ps (encs x) d p) W)
  (hdone:∀ (D:Nat) (xs:List α) (W:World),w.heap.size≤D→S xs→I xs W→W.heap[D]? = some (.deferred (some []))→Q .normal { a with defers:={ target:=.collected D,args:=#[] } :: a.defers } W)
  (hstop:∀ (D:Nat) (c:Code) (pre:List α) (W:World),w.heap.size≤D→Sp pre→Ix c pre W→W.heap[D]? = some (.deferred (some []))→c.wpIn F n P Q { a with defers:={ target:=.collected D,args:=#[] } :: a.defers } W) :
  (Code.rangeFunc g ps (Code.region id #[{ dst:=some d,op:=.assign (.tmp p),type:=ty,pos:=po,after:=#[],guard:=none }] false) body).wpIn F n P Q a w:=
 wpIn_rangeFunc_ownG hro h1 hg hFg eg hseq hKt hKb hb0 hps I Ix hI hIx h0 (fun x=>assignAct a ps (encs x) d p)
  (fun _ _ _ _ hK=>wpIn_assign_one hK) hbody hdone hstop
end Go.Proofs.YtfpjfoajonbndaaGreatDoor
