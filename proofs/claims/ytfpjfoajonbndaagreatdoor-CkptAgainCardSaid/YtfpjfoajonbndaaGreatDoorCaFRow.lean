import Derived.Test.YtfpjfoajonbndaaGreatDoorCaAppReads
import Derived.Test.YtfpjfoajonbndaaGreatDoorCa2
import Derived.Test.YtfpjfoajonbndaaGreatDoorRows
import Derived.Deep.AppendSrc
import Derived.Deep.Upon
import Derived.ArgAppend
namespace Go.Proofs.YtfpjfoajonbndaaGreatDoor
open Go.RowKit
open Go.RowKit
def FRow (w:World) (v:Value) (b:List UInt8):Prop:=
 w.ownsRow 0 5 1 v b.length (b.map bv) ∨
 ∃ g cur,v=.slice (some ⟨g,0,none⟩) b.length b.length∧w.heap[g]? = some (.cells cur 5 (0,0))∧b.length≤maxLen∧b.length≤cur.size∧cur.toList.take b.length=b.map bv
theorem FRow.own {w:World} {base n:Nat} {v:Value} {b:List UInt8} (h:w.ownsRow base 5 1 v n (b.map bv)):FRow w v b:=by
 have hn:n=b.length:=by have:=h.1;simp at this;omega
 subst hn
 exact .inl (ownsRow_mono h (Nat.zero_le _))
theorem FRow.nil (w:World):FRow w (.slice none 0 0) []:=.inl (World.ownsRow_nil _ _ _ _)
theorem FRow.is {w:World} {v:Value} {b:List UInt8} (h:FRow w v b):(v=.slice none 0 0∧b=[]) ∨
  ∃ g cap cur,v=.slice (some ⟨g,0,none⟩) b.length cap∧w.heap[g]? = some (.cells cur 5 (0,0))∧b.length≤cap∧cap≤cur.size∧cap≤maxLen∧cur.toList.take b.length=b.map bv:=by
 rcases h with ⟨_,⟨rfl,h0⟩|⟨g,cap,cur,rfl,_,hg,h1,h2,h3,h4⟩⟩|⟨g,cur,rfl,hg,h1,h2,h3⟩
 ·exact .inl ⟨rfl,List.eq_nil_of_length_eq_zero h0⟩
 ·exact .inr ⟨g,cap,cur,rfl,hg,h1,by omega,h2,by simpa using h4⟩
 ·exact .inr ⟨g,b.length,cur,rfl,hg,Nat.le_refl _,h2,h1,h3⟩
theorem FRow.len {w:World} {v:Value} {b:List UInt8} (h:FRow w v b):∃ a c,v=.slice a b.length c∧b.length≤c:=by
 rcases h.is with ⟨rfl,rfl⟩|⟨g,cap,cur,rfl,_,h1,_⟩
 ·exact ⟨none,0,rfl,Nat.le_refl _⟩
 ·exact ⟨_,_,rfl,h1⟩
theorem FRow.blk {w:World} {v:Value} {b:List UInt8} (h:FRow w v b) {g:Nat} (hg:v.ownBlock=some g):∃ cur,w.heap[g]? = some (.cells cur 5 (0,0)):=by
 rcases h.is with ⟨rfl,_⟩|⟨g',cap,cur,rfl,h1,_⟩
 ·cases hg
 ·simp only [Value.ownBlock,Option.some.injEq] at hg
  subst hg
  exact ⟨cur,h1⟩
theorem FRow.lt {w:World} {v:Value} {b:List UInt8} (h:FRow w v b) {g:Nat} (hg:v.ownBlock=some g):g<w.heap.size:=by
 obtain ⟨cur,hc⟩:=h.blk hg
 exact (Array.getElem?_eq_some_iff.1 hc).1
theorem FRow.reads {w:World} {v:Value} {b:List UInt8} (h:FRow w v b):Reads w 1 v b.length (b.map bv):=by
 rcases h.is with ⟨rfl,rfl⟩|⟨g,cap,cur,rfl,hg,h1,h2,h3,h4⟩
 ·exact ⟨rfl,.inl ⟨rfl,rfl⟩⟩
 ·refine ⟨by simp,.inr ⟨_,_,rfl,Nat.le_trans h1 h3,fun j u hu=>?_⟩⟩
  have hadd:(⟨g,0,none⟩:Addr).add j=⟨g,j,none⟩:=by unfold Addr.add;split <;> simp_all
  have hj:j<b.length:=by
   have:=(List.getElem?_eq_some_iff.1 hu).1
   simpa using this
  rw [hadd,cell_of_row w g j cur _ (0,0) hg]
  rw [←h4,List.getElem?_take,if_pos hj] at hu
  simpa using hu
theorem FRow.at {w w':World} {v:Value} {b:List UInt8} (h:FRow w v b) (hk:∀ k,v.ownBlock=some k→w'.heap[k]? = w.heap[k]?):FRow w' v b:=by
 rcases h with h|⟨g,cur,rfl,hg,h1,h2,h3⟩
 ·exact .inl (ownsRow_at h hk)
 ·exact .inr ⟨g,cur,rfl,(hk g rfl).trans hg,h1,h2,h3⟩
theorem FRow.keeps {w w':World} {G:Nat→Prop} {v:Value} {b:List UInt8} (h:FRow w v b) (hk:Keeps G w w') (hn:∀ k,v.ownBlock=some k→¬ G k):FRow w' v b:=
 h.at fun k hv=>hk.block k (h.lt hv) (hn k hv)
theorem FRow.below {w w':World} {v:Value} {b:List UInt8} (h:FRow w v b) (hb:Below w.heap.size w w'):FRow w' v b:=h.at fun k hv=>hb.block k (h.lt hv)
theorem FRow.clip {w:World} {a:Option Addr} {m c:Nat} {b:List UInt8} (h:FRow w (.slice a m c) b) (n:Nat) (hn:n≤b.length):FRow w (.slice a n n) (b.take n):=by
 have hl:(b.take n).length=n:=by rw [List.length_take];omega
 rcases h.is with ⟨e,rfl⟩|⟨g,cap,cur,e,hg,h1,h2,h3,h4⟩
 ·simp only [Value.slice.injEq] at e
  simp at hn
  subst hn
  rw [e.1]
  exact FRow.nil w
 ·simp only [Value.slice.injEq] at e
  refine .inr ⟨g,cur,by rw [e.1,hl],hg,by omega,by omega,?_⟩
  rw [hl,List.map_take,←h4,List.take_take,Nat.min_eq_left hn]
theorem add_zero_off (g j:Nat):(⟨g,0,none⟩:Addr).add j=⟨g,j,none⟩:=by unfold Addr.add;split <;> simp_all
theorem FRow.cut {w:World} {a:Option Addr} {m c:Nat} {b:List UInt8} (h:FRow w (.slice a m c) b) (l n:Nat) (hln:l+n≤b.length) :
  ∃ a' c',(∀ W,(Instr.slice 47 (.slice a b.length c) (some (.int .i64 l)) (some (.int .i64 ((l:Int)+n))) none).run Tryz.prog W=.ok (.slice a' n c') W)∧Reads w 1 (.slice a' n c') n (((b.drop l).take n).map bv):=by
 have hlen:((b.drop l).take n).length=n:=by rw [List.length_take,List.length_drop];omega
 have hs:∀ W,(sizeOf 5).run Tryz.prog W=.ok 1 W:=fun W=>by kernel_rfl
 obtain ⟨a0,c0,e,hc⟩:=h.len
 simp only [Value.slice.injEq] at e
 obtain ⟨rfl,rfl,rfl⟩:=e
 have hrun:∀ W,(Instr.slice 47 (.slice a b.length c) (some (.int .i64 l)) (some (.int .i64 ((l:Int)+n))) none).run Tryz.prog W=.ok (.slice (if c=l then a else a.map (·.add (l * 1))) n (c - l)) W:=fun W=>by
  simp [Instr.slice,run_underlying Tryz.underlying47,Instr.sliceBounds,run_sliceBound,hs,Result.andThen,(by omega:(0:Int)≤(l:Int)),(by omega:(0:Int)≤(l:Int)+(n:Int)),(by omega:(l:Int)+(n:Int)≤(c:Int)),(by omega:(l:Int)≤(l:Int)+(n:Int)),(by omega:((l:Int)+(n:Int)).toNat=l+n)]
 refine ⟨_,_,hrun,by rw [List.length_map,hlen,Nat.mul_one],?_⟩
 rcases h.is with ⟨e,rfl⟩|⟨g,cap,cur,e,hg,h1,h2,h3,h4⟩
 ·simp only [Value.slice.injEq] at e
  simp at hln
  obtain ⟨rfl,rfl⟩:=hln
  obtain ⟨rfl,_,rfl⟩:=e
  exact .inl ⟨rfl,rfl⟩
 ·simp only [Value.slice.injEq] at e
  obtain ⟨rfl,_,rfl⟩:=e
  have hcell:∀ j u,(((b.drop l).take n).map bv)[j]? = some u→w.cell? ⟨g,l+j,none⟩=some u:=fun j u hu=>by
   rw [List.getElem?_map,List.getElem?_take] at hu
   split at hu
   ·rw [List.getElem?_drop] at hu
    rw [cell_of_row w g (l+j) cur _ (0,0) hg]
    have hj:l+j<b.length:=by omega
    have h5:(cur.toList.take b.length)[l+j]? = (b.map bv)[l+j]?:=by rw [h4]
    rw [List.getElem?_take,if_pos hj,List.getElem?_map,hu] at h5
    simpa using h5
   ·simp at hu
  by_cases hcl:c=l
  ·rw [if_pos hcl]
   have hn:n=0:=by omega
   subst hn
   exact .inr ⟨_,_,rfl,Nat.zero_le _,fun j u hu=>by simp at hu⟩
  ·rw [if_neg hcl]
   refine .inr ⟨⟨g,l,none⟩,c - l,by simp [add_zero_off],by omega,fun j u hu=>?_⟩
   have hadd:(⟨g,l,none⟩:Addr).add j=⟨g,l+j,none⟩:=by unfold Addr.add;split <;> simp_all
   rw [hadd]
   exact hcell j u hu
theorem FRow.addr {w:World} {a:Option Addr} {m c:Nat} {b:List UInt8} (h:FRow w (.slice a m c) b):(a=none∧b=[]∧c=0)∨∃ g,a=some ⟨g,0,none⟩:=by
 rcases h.is with ⟨e,rfl⟩|⟨g,cap,cur,e,_⟩
 ·simp only [Value.slice.injEq] at e
  exact .inl ⟨e.1,rfl,e.2.2⟩
 ·simp only [Value.slice.injEq] at e
  exact .inr ⟨g,e.1⟩
theorem FRow.pre {w:World} {a:Option Addr} {m c:Nat} {b:List UInt8} (h:FRow w (.slice a m c) b) (n:Nat) (hn:n≤b.length):Reads w 1 (.slice a n c) n ((b.take n).map bv):=by
 have hl:(b.take n).length=n:=by rw [List.length_take];omega
 rcases h.addr with ⟨rfl,rfl,rfl⟩|⟨g,rfl⟩
 ·simp at hn
  subst hn
  exact ⟨rfl,.inl ⟨rfl,rfl⟩⟩
 ·obtain ⟨_,⟨e,_⟩|⟨ad,c',e,hm,hc⟩⟩:=h.reads
  ·cases e
  ·simp only [Value.slice.injEq,Option.some.injEq] at e
   obtain ⟨rfl,rfl,rfl⟩:=e
   refine ⟨by rw [List.length_map,hl,Nat.mul_one],.inr ⟨_,_,rfl,by omega,fun j u hu=>hc j u ?_⟩⟩
   rw [List.getElem?_map,List.getElem?_take] at hu
   split at hu
   ·rw [List.getElem?_map]
    exact hu
   ·simp at hu
theorem run_prefix (a:Option Addr) (len c n:Nat) (ha:(a=none∧c=0)∨∃ g,a=some ⟨g,0,none⟩) (hn:n≤c) (W:World):(Instr.slice 47 (.slice a len c) none (some (.int .i64 n)) none).run Tryz.prog W=.ok (.slice a n c) W:=by
 have hs:(sizeOf 5).run Tryz.prog W=.ok 1 W:=by kernel_rfl
 have e:(if c=0 then a else a.map (·.add (0 * 1)))=a:=by
  rcases ha with ⟨rfl,_⟩|⟨g,rfl⟩
  ·simp
  ·simp [add_zero_off]
 simp [Instr.slice,run_underlying Tryz.underlying47,Instr.sliceBounds,run_sliceBound,hs,Result.andThen,(by omega:(0:Int)≤(n:Int)),(by omega:(n:Int)≤(c:Int))]
 simpa using e
theorem run_clip (a:Option Addr) (n c:Nat) (ha:(a=none∧n=0)∨∃ g,a=some ⟨g,0,none⟩) (hn:n≤c) (W:World):(Instr.slice 47 (.slice a n c) none (some (.int .i64 n)) (some (.int .i64 n))).run Tryz.prog W=.ok (.slice a n n) W:=by
 have hs:(sizeOf 5).run Tryz.prog W=.ok 1 W:=by kernel_rfl
 have e:(if n=0 then a else a.map (·.add (0 * 1)))=a:=by
  rcases ha with ⟨rfl,_⟩|⟨g,rfl⟩
  ·simp
  ·simp [add_zero_off]
 simp [Instr.slice,run_underlying Tryz.underlying47,Instr.sliceBounds,run_sliceBound,hs,Result.andThen,(by omega:(0:Int)≤(n:Int)),(by omega:(n:Int)≤(c:Int))]
 simpa using e
theorem FRow.set {w:World} {g m c:Nat} {b:List UInt8} (h:FRow w (.slice (some ⟨g,0,none⟩) m c) b) (j:Nat) (x:UInt8) (_:j<b.length):FRow (w.setCell ⟨g,j,none⟩ (bv x)) (.slice (some ⟨g,0,none⟩) m c) (b.set j x):=by
 have hm:(b.set j x).map bv=(b.map bv).set j (bv x):=List.map_set
 rcases h with ⟨h0,⟨e,_⟩|⟨g',cap,cur,e,hb,hg,h1,h2,h3,h4⟩⟩|⟨g',cur,e,hg,h1,h2,h3⟩
 ·cases e
 ·simp only [Value.slice.injEq,Option.some.injEq,Addr.mk.injEq] at e
  obtain ⟨⟨rfl,_⟩,rfl,rfl⟩:=e
  refine .inl ⟨by simp,.inr ⟨g,c,_,by simp,Nat.zero_le _,heap_setCell_same w g j _ _ (bv x) hg,by simpa using h1,h2,by simpa using h3,?_⟩⟩
  rw [hm,←h4]
  simp [List.take_set]
 ·simp only [Value.slice.injEq,Option.some.injEq,Addr.mk.injEq] at e
  obtain ⟨⟨rfl,_⟩,rfl,rfl⟩:=e
  refine .inr ⟨g,_,by simp,heap_setCell_same w g j _ _ (bv x) hg,by simpa using h1,by simpa using h2,?_⟩
  rw [hm,←h3]
  simp [List.take_set]
variable {P:Program}
theorem wp_append_frow (w:World) {o:Oper} {a:Go.Act} {K:Go.Act→World→Prop} {Q:Exit→Go.Act→World→Prop} (s x:Operand) (t:TypeId)
  (ho:o.op=.call { callee:=.builtin .append,args:=#[s,x],argTypes:=#[t,t] }) (i:TypeInfo) (ht:P.underlying t=some (.slice 5)) (hi:P.info? 5=some i) (hz:i.zero=some (.int .u8 0)) (hsize:i.size=1) (hby:i.bytes=1)
  (v:Value) (b:List UInt8) (hs:a.eval s=v) (hown:FRow w v b) (vx:Value) (nb:List UInt8) (hx:a.eval x=vx) (hr:Reads w 1 vx nb.length (nb.map bv)) (hl:b.length+nb.length≤140737488355328)
  (h:∀ a' c' w',FRow w' (.slice a' (b.length+nb.length) c') (b ++ nb)→w.grownBy w' v.ownBlock→(∀ k,(Value.slice a' (b.length+nb.length) c').ownBlock=some k→v.ownBlock=some k∨w.heap.size≤k)→K (a.put o.dst (.slice a' (b.length+nb.length) c')) w'):o.wp P a w K Q:=by
 rcases hown with hown|⟨g,cur,rfl,hg,h1,h2,h3⟩
 ·refine wp_append_reads w s x t ho 0 5 i (.int .u8 0) 1 1 ht hi hz hsize hby rfl (by decide) v b.length (b.map bv) hs hown vx nb.length (nb.map bv) hx hr (bv_one nb) (by unfold maxLen;omega) (by omega) (Nat.zero_le _) fun v' w' h4 h5 h6=>?_
  obtain ⟨a',c',rfl⟩:=ownsRow_len h4
  refine h a' c' w' (FRow.own (by rw [List.map_append];exact h4)) h5 ?_
  intro k hk
  rcases h6 with e|e
  ·exact .inl (by rw [←e];exact hk)
  ·rw [hk] at e
   exact .inr (Nat.le_of_eq (Option.some.inj e).symm)
 ·have hold:∀ j u,(b.map bv)[j]? = some u→w.cell? ((⟨g,0,none⟩:Addr).add j)=some u:=by
   have:=FRow.reads (w:=w) (v:=.slice (some ⟨g,0,none⟩) b.length b.length) (.inr ⟨g,cur,rfl,hg,h1,h2,h3⟩)
   obtain ⟨_,⟨e,_⟩|⟨a0,c0,e,_,hc⟩⟩:=this
   ·cases e
   ·simp only [Value.slice.injEq,Option.some.injEq] at e
    rw [e.1]
    exact hc
  by_cases hnb:nb=[]
  ·subst hnb
   have hsrc:Src P i.size t vx 0 [] w:=by
    obtain ⟨_,⟨rfl,_⟩|⟨ad,c,rfl,_,_⟩⟩:=hr
    ·exact Src.ofNil w ht 0
    ·exact Src.ofSlice w ht ad 0 c [] (by simp) (fun j u h=>by simp at h) (fun u h=>by cases h)
   have hrun:=run_append_nothing (P:=P) w t t o.type 5 i ht hi (some ⟨g,0,none⟩) b.length b.length (Nat.le_refl _) vx hsrc
   unfold Oper.wp execOp
   simp only [ho,resolve,invoke,builtin,Sem.run_bind,Sem.run_pure,Result.andThen_ok,List.map_toArray,List.map_cons,List.map_nil,hs,hx,hrun]
   have:=h (some ⟨g,0,none⟩) b.length w (.inr ⟨g,cur,by simp,hg,by simpa using h1,by simpa using h2,by simpa using h3⟩) ⟨rfl,rfl,rfl,Nat.le_refl _,fun _ _ _=>rfl⟩ (fun k hk=>.inl hk)
   show K (a.put o.dst (.slice (some ⟨g,0,none⟩) b.length b.length)) w
   simpa using this
  ·obtain ⟨hl2,⟨e,h0⟩|⟨ad,c,rfl,_,hnews⟩⟩:=hr
   ·exact absurd (List.eq_nil_of_length_eq_zero h0) hnb
   ·have hpos:0<nb.length:=List.length_pos_iff.2 hnb
    obtain ⟨v',w',hrun,h4,h5⟩:=run_append_arg_grows (P:=P) w t o.type 5 i (.int .u8 0) 1 1 ht hi hz hsize hby rfl (by decide) ⟨g,0,none⟩ b.length b.length (b.map bv) (by simp) hold ad nb.length c (nb.map bv) hl2 hnews (by omega) (by unfold maxLen;omega) (by omega)
    obtain ⟨a',c',rfl⟩:=ownsRow_len h4
    unfold Oper.wp execOp
    simp only [ho,resolve,invoke,builtin,Sem.run_bind,Sem.run_pure,Result.andThen_ok,List.map_toArray,List.map_cons,List.map_nil,hs,hx,hrun]
    refine h a' c' w' (FRow.own (by rw [List.map_append];exact h4)) ⟨h5.os,h5.tape,h5.output,h5.size,fun k hk _=>h5.block k hk (by simp)⟩ fun k hk=>.inr (h4.lt k hk).1
theorem wpList_append_frow (w:World) {ops:Array Oper} {rest:List Oper} {o:Oper} {a:Go.Act} {Q:Exit→Go.Act→World→Prop} (hgd:o.guard=none) (s x:Operand) (t:TypeId)
  (ho:o.op=.call { callee:=.builtin .append,args:=#[s,x],argTypes:=#[t,t] }) (i:TypeInfo) (ht:P.underlying t=some (.slice 5)) (hi:P.info? 5=some i) (hz:i.zero=some (.int .u8 0)) (hsize:i.size=1) (hby:i.bytes=1)
  (v:Value) (b:List UInt8) (hs:a.eval s=v) (hown:FRow w v b) (vx:Value) (nb:List UInt8) (hx:a.eval x=vx) (hr:Reads w 1 vx nb.length (nb.map bv)) (hl:b.length+nb.length≤140737488355328)
  (h:∀ a' c' w',FRow w' (.slice a' (b.length+nb.length) c') (b ++ nb)→w.grownBy w' v.ownBlock→(∀ k,(Value.slice a' (b.length+nb.length) c').ownBlock=some k→v.ownBlock=some k∨w.heap.size≤k)→wpList P ops Q rest (a.put o.dst (.slice a' (b.length+nb.length) c')) w'):wpList P ops Q (o :: rest) a w:=
 wpList_plain hgd fun _ hK=>wp_append_frow w s x t ho i ht hi hz hsize hby v b hs hown vx nb hx hr hl fun a' c' w' h2 h3 h4=>hK _ _ (h a' c' w' h2 h3 h4)
end Go.Proofs.YtfpjfoajonbndaaGreatDoor
