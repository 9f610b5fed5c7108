import Derived.Test.YtfpjfoajonbndaaGreatDoorChAppReads
import Derived.Test.YtfpjfoajonbndaaGreatDoorCh2
import Derived.Test.YtfpjfoajonbndaaGreatDoorRows
import Derived.Deep.AppendSrc
import Derived.Deep.Upon
import Derived.ArgAppend
import Derived.Test.YtfpjfoajonbndaaGreatDoorDiskPlain
import Derived.Test.YtfpjfoajonbndaaGreatDoorChBase2
import Derived.Test.YtfpjfoajonbndaaGreatDoorChErr
import Derived.Maps.OwnSet
import Derived.Maps.OwnOps
import Derived.Sort.KeysCollected
import Derived.StringKeys
import Derived.LaidEqlPtr
import Derived.Deep.RegionLaw
import Derived.Maps.AppendAt
namespace Go.Proofs.YtfpjfoajonbndaaGreatDoor
set_option maxHeartbeats 8000000
set_option maxRecDepth 100000
open Go.RowKit
open Go.RowKit
def FRow (w:World) (v:Value) (b:List UInt8):Prop:=
  w.ownsRow 0 5 1 v b.length (b.map bv) ∨
  ∃ g cur,v=.slice (some ⟨g,0,none⟩) b.length b.length∧w.heap[g]? = some (.cells cur 5 (0,0))∧b.length≤maxLen∧b.length≤cur.size∧cur.toList.take b.length=b.map bv
theorem FRow.own{w:World}{base n:Nat}{v:Value}{b:List UInt8}(h:w.ownsRow base 5 1 v n (b.map bv)):FRow w v b:=by
  have hn:n=b.length:=by have:=h.1;simp at this;omega
  subst hn
  exact .inl (ownsRow_mono h (Nat.zero_le _))
theorem FRow.nil(w:World):FRow w (.slice none 0 0) []:=.inl (World.ownsRow_nil _ _ _ _)
theorem FRow.is{w:World}{v:Value}{b:List UInt8}(h:FRow w v b):(v=.slice none 0 0∧b=[]) ∨
    ∃ g cap cur,v=.slice (some ⟨g,0,none⟩) b.length cap∧w.heap[g]? = some (.cells cur 5 (0,0))∧b.length≤cap∧cap≤cur.size∧cap≤maxLen∧cur.toList.take b.length=b.map bv:=by
  rcases h with ⟨_,⟨rfl,h0⟩|⟨g,cap,cur,rfl,_,hg,h1,h2,h3,h4⟩⟩|⟨g,cur,rfl,hg,h1,h2,h3⟩
  · exact .inl ⟨rfl,List.eq_nil_of_length_eq_zero h0⟩
  · exact .inr ⟨g,cap,cur,rfl,hg,h1,by omega,h2,by simpa using h4⟩
  · exact .inr ⟨g,b.length,cur,rfl,hg,Nat.le_refl _,h2,h1,h3⟩
theorem FRow.len{w:World}{v:Value}{b:List UInt8}(h:FRow w v b):∃ a c,v=.slice a b.length c∧b.length≤c:=by
  rcases h.is with ⟨rfl,rfl⟩|⟨g,cap,cur,rfl,_,h1,_⟩
  · exact ⟨none,0,rfl,Nat.le_refl _⟩
  · exact ⟨_,_,rfl,h1⟩
theorem FRow.blk{w:World}{v:Value}{b:List UInt8}(h:FRow w v b){g:Nat}(hg:v.ownBlock=some g):∃ cur,w.heap[g]? = some (.cells cur 5 (0,0)):=by
  rcases h.is with ⟨rfl,_⟩|⟨g',cap,cur,rfl,h1,_⟩
  · cases hg
  · simp only [Value.ownBlock,Option.some.injEq] at hg
    subst hg
    exact ⟨cur,h1⟩
theorem FRow.lt{w:World}{v:Value}{b:List UInt8}(h:FRow w v b){g:Nat}(hg:v.ownBlock=some g):g<w.heap.size:=by
  obtain ⟨cur,hc⟩:=h.blk hg
  exact (Array.getElem?_eq_some_iff.1 hc).1
theorem FRow.reads{w:World}{v:Value}{b:List UInt8}(h:FRow w v b):Reads w 1 v b.length (b.map bv):=by
  rcases h.is with ⟨rfl,rfl⟩|⟨g,cap,cur,rfl,hg,h1,h2,h3,h4⟩
  · exact ⟨rfl,.inl ⟨rfl,rfl⟩⟩
  · refine ⟨by simp,.inr ⟨_,_,rfl,Nat.le_trans h1 h3,fun j u hu=>?_⟩⟩
    have hadd:(⟨g,0,none⟩:Addr).add j=⟨g,j,none⟩:=by unfold Addr.add;split <;> simp_all
    have hj:j<b.length:=by
      have:=(List.getElem?_eq_some_iff.1 hu).1
      simpa using this
    rw [hadd,cell_of_row w g j cur _ (0,0) hg]
    rw [←h4,List.getElem?_take,if_pos hj] at hu
    simpa using hu
theorem FRow.at{w w':World}{v:Value}{b:List UInt8}(h:FRow w v b)(hk:∀ k,v.ownBlock=some k→w'.heap[k]? = w.heap[k]?):FRow w' v b:=by
  rcases h with h|⟨g,cur,rfl,hg,h1,h2,h3⟩
  · exact .inl (ownsRow_at h hk)
  · exact .inr ⟨g,cur,rfl,(hk g rfl).trans hg,h1,h2,h3⟩
theorem FRow.keeps{w w':World}{G:Nat→Prop}{v:Value}{b:List UInt8}(h:FRow w v b)(hk:Keeps G w w')(hn:∀ k,v.ownBlock=some k→¬ G k):FRow w' v b:=
  h.at fun k hv=>hk.block k (h.lt hv) (hn k hv)
theorem FRow.below{w w':World}{v:Value}{b:List UInt8}(h:FRow w v b)(hb:Below w.heap.size w w'):FRow w' v b:=h.at fun k hv=>hb.block k (h.lt hv)
theorem FRow.clip{w:World}{a:Option Addr}{m c:Nat}{b:List UInt8}(h:FRow w (.slice a m c) b)(n:Nat)(hn:n≤b.length):FRow w (.slice a n n) (b.take n):=by
  have hl:(b.take n).length=n:=by rw [List.length_take];omega
  rcases h.is with ⟨e,rfl⟩|⟨g,cap,cur,e,hg,h1,h2,h3,h4⟩
  · simp only [Value.slice.injEq] at e
    simp at hn
    subst hn
    rw [e.1]
    exact FRow.nil w
  · simp only [Value.slice.injEq] at e
    refine .inr ⟨g,cur,by rw [e.1,hl],hg,by omega,by omega,?_⟩
    rw [hl,List.map_take,←h4,List.take_take,Nat.min_eq_left hn]
theorem add_zero_off(g j:Nat):(⟨g,0,none⟩:Addr).add j=⟨g,j,none⟩:=by unfold Addr.add;split <;> simp_all
theorem FRow.cut{w:World}{a:Option Addr}{m c:Nat}{b:List UInt8}(h:FRow w (.slice a m c) b)(l n:Nat)(hln:l+n≤b.length) :
    ∃ a' c',(∀ W,(Instr.slice 47 (.slice a b.length c) (some (.int .i64 l)) (some (.int .i64 ((l:Int)+n))) none).run Tryz.prog W=.ok (.slice a' n c') W)∧Reads w 1 (.slice a' n c') n (((b.drop l).take n).map bv):=by
  have hlen:((b.drop l).take n).length=n:=by rw [List.length_take,List.length_drop];omega
  have hs:∀ W,(sizeOf 5).run Tryz.prog W=.ok 1 W:=fun W=>by kernel_rfl
  obtain ⟨a0,c0,e,hc⟩:=h.len
  simp only [Value.slice.injEq] at e
  obtain ⟨rfl,rfl,rfl⟩:=e
  have hrun:∀ W,(Instr.slice 47 (.slice a b.length c) (some (.int .i64 l)) (some (.int .i64 ((l:Int)+n))) none).run Tryz.prog W=.ok (.slice (if c=l then a else a.map (·.add (l * 1))) n (c - l)) W:=fun W=>by
    simp [Instr.slice,run_underlying Tryz.underlying47,Instr.sliceBounds,run_sliceBound,hs,Result.andThen,(by omega:(0:Int)≤(l:Int)),(by omega:(0:Int)≤(l:Int)+(n:Int)),(by omega:(l:Int)+(n:Int)≤(c:Int)),(by omega:(l:Int)≤(l:Int)+(n:Int)),(by omega:((l:Int)+(n:Int)).toNat=l+n)]
  refine ⟨_,_,hrun,by rw [List.length_map,hlen,Nat.mul_one],?_⟩
  rcases h.is with ⟨e,rfl⟩|⟨g,cap,cur,e,hg,h1,h2,h3,h4⟩
  · simp only [Value.slice.injEq] at e
    simp at hln
    obtain ⟨rfl,rfl⟩:=hln
    obtain ⟨rfl,_,rfl⟩:=e
    exact .inl ⟨rfl,rfl⟩
  · simp only [Value.slice.injEq] at e
    obtain ⟨rfl,_,rfl⟩:=e
    have hcell:∀ j u,(((b.drop l).take n).map bv)[j]? = some u→w.cell? ⟨g,l+j,none⟩=some u:=fun j u hu=>by
      rw [List.getElem?_map,List.getElem?_take] at hu
      split at hu
      · rw [List.getElem?_drop] at hu
        rw [cell_of_row w g (l+j) cur _ (0,0) hg]
        have hj:l+j<b.length:=by omega
        have h5:(cur.toList.take b.length)[l+j]? = (b.map bv)[l+j]?:=by rw [h4]
        rw [List.getElem?_take,if_pos hj,List.getElem?_map,hu] at h5
        simpa using h5
      · simp at hu
    by_cases hcl:c=l
    · rw [if_pos hcl]
      have hn:n=0:=by omega
      subst hn
      exact .inr ⟨_,_,rfl,Nat.zero_le _,fun j u hu=>by simp at hu⟩
    · rw [if_neg hcl]
      refine .inr ⟨⟨g,l,none⟩,c - l,by simp [add_zero_off],by omega,fun j u hu=>?_⟩
      have hadd:(⟨g,l,none⟩:Addr).add j=⟨g,l+j,none⟩:=by unfold Addr.add;split <;> simp_all
      rw [hadd]
      exact hcell j u hu
theorem FRow.addr{w:World}{a:Option Addr}{m c:Nat}{b:List UInt8}(h:FRow w (.slice a m c) b):(a=none∧b=[]∧c=0)∨∃ g,a=some ⟨g,0,none⟩:=by
  rcases h.is with ⟨e,rfl⟩|⟨g,cap,cur,e,_⟩
  · simp only [Value.slice.injEq] at e
    exact .inl ⟨e.1,rfl,e.2.2⟩
  · simp only [Value.slice.injEq] at e
    exact .inr ⟨g,e.1⟩
theorem FRow.pre{w:World}{a:Option Addr}{m c:Nat}{b:List UInt8}(h:FRow w (.slice a m c) b)(n:Nat)(hn:n≤b.length):Reads w 1 (.slice a n c) n ((b.take n).map bv):=by
  have hl:(b.take n).length=n:=by rw [List.length_take];omega
  rcases h.addr with ⟨rfl,rfl,rfl⟩|⟨g,rfl⟩
  · simp at hn
    subst hn
    exact ⟨rfl,.inl ⟨rfl,rfl⟩⟩
  · obtain ⟨_,⟨e,_⟩|⟨ad,c',e,hm,hc⟩⟩:=h.reads
    · cases e
    · simp only [Value.slice.injEq,Option.some.injEq] at e
      obtain ⟨rfl,rfl,rfl⟩:=e
      refine ⟨by rw [List.length_map,hl,Nat.mul_one],.inr ⟨_,_,rfl,by omega,fun j u hu=>hc j u ?_⟩⟩
      rw [List.getElem?_map,List.getElem?_take] at hu
      split at hu
      · rw [List.getElem?_map]
        exact hu
      · simp at hu
theorem run_prefix(a:Option Addr)(len c n:Nat)(ha:(a=none∧c=0)∨∃ g,a=some ⟨g,0,none⟩)(hn:n≤c)(W:World):(Instr.slice 47 (.slice a len c) none (some (.int .i64 n)) none).run Tryz.prog W=.ok (.slice a n c) W:=by
  have hs:(sizeOf 5).run Tryz.prog W=.ok 1 W:=by kernel_rfl
  have e:(if c=0 then a else a.map (·.add (0 * 1)))=a:=by
    rcases ha with ⟨rfl,_⟩|⟨g,rfl⟩
    · simp
    · simp [add_zero_off]
  simp [Instr.slice,run_underlying Tryz.underlying47,Instr.sliceBounds,run_sliceBound,hs,Result.andThen,(by omega:(0:Int)≤(n:Int)),(by omega:(n:Int)≤(c:Int))]
  simpa using e
theorem run_clip(a:Option Addr)(n c:Nat)(ha:(a=none∧n=0)∨∃ g,a=some ⟨g,0,none⟩)(hn:n≤c)(W:World):(Instr.slice 47 (.slice a n c) none (some (.int .i64 n)) (some (.int .i64 n))).run Tryz.prog W=.ok (.slice a n n) W:=by
  have hs:(sizeOf 5).run Tryz.prog W=.ok 1 W:=by kernel_rfl
  have e:(if n=0 then a else a.map (·.add (0 * 1)))=a:=by
    rcases ha with ⟨rfl,_⟩|⟨g,rfl⟩
    · simp
    · simp [add_zero_off]
  simp [Instr.slice,run_underlying Tryz.underlying47,Instr.sliceBounds,run_sliceBound,hs,Result.andThen,(by omega:(0:Int)≤(n:Int)),(by omega:(n:Int)≤(c:Int))]
  simpa using e
theorem FRow.set{w:World}{g m c:Nat}{b:List UInt8}(h:FRow w (.slice (some ⟨g,0,none⟩) m c) b)(j:Nat)(x:UInt8)(_:j<b.length):FRow (w.setCell ⟨g,j,none⟩ (bv x)) (.slice (some ⟨g,0,none⟩) m c) (b.set j x):=by
  have hm:(b.set j x).map bv=(b.map bv).set j (bv x):=List.map_set
  rcases h with ⟨h0,⟨e,_⟩|⟨g',cap,cur,e,hb,hg,h1,h2,h3,h4⟩⟩|⟨g',cur,e,hg,h1,h2,h3⟩
  · cases e
  · simp only [Value.slice.injEq,Option.some.injEq,Addr.mk.injEq] at e
    obtain ⟨⟨rfl,_⟩,rfl,rfl⟩:=e
    refine .inl ⟨by simp,.inr ⟨g,c,_,by simp,Nat.zero_le _,heap_setCell_same w g j _ _ (bv x) hg,by simpa using h1,h2,by simpa using h3,?_⟩⟩
    rw [hm,←h4]
    simp [List.take_set]
  · simp only [Value.slice.injEq,Option.some.injEq,Addr.mk.injEq] at e
    obtain ⟨⟨rfl,_⟩,rfl,rfl⟩:=e
    refine .inr ⟨g,_,by simp,heap_setCell_same w g j _ _ (bv x) hg,by simpa using h1,by simpa using h2,?_⟩
    rw [hm,←h3]
    simp [List.take_set]
variable {P:Program}
theorem wp_append_frow(w:World){o:Oper}{a:Go.Act}{K:Go.Act→World→Prop}{Q:Exit→Go.Act→World→Prop}(s x:Operand)(t:TypeId)
    (ho:o.op=.call { callee:=.builtin .append,args:=#[s,x],argTypes:=#[t,t] }) (i:TypeInfo) (ht:P.underlying t=some (.slice 5)) (hi:P.info? 5=some i) (hz:i.zero=some (.int .u8 0)) (hsize:i.size=1) (hby:i.bytes=1)
    (v:Value) (b:List UInt8) (hs:a.eval s=v) (hown:FRow w v b) (vx:Value) (nb:List UInt8) (hx:a.eval x=vx) (hr:Reads w 1 vx nb.length (nb.map bv)) (hl:b.length+nb.length≤140737488355328)
    (h:∀ a' c' w',FRow w' (.slice a' (b.length+nb.length) c') (b ++ nb)→w.grownBy w' v.ownBlock→(∀ k,(Value.slice a' (b.length+nb.length) c').ownBlock=some k→v.ownBlock=some k∨w.heap.size≤k)→K (a.put o.dst (.slice a' (b.length+nb.length) c')) w'):o.wp P a w K Q:=by
  rcases hown with hown|⟨g,cur,rfl,hg,h1,h2,h3⟩
  · refine wp_append_reads w s x t ho 0 5 i (.int .u8 0) 1 1 ht hi hz hsize hby rfl (by decide) v b.length (b.map bv) hs hown vx nb.length (nb.map bv) hx hr (bv_one nb) (by unfold maxLen;omega) (by omega) (Nat.zero_le _) fun v' w' h4 h5 h6=>?_
    obtain ⟨a',c',rfl⟩:=ownsRow_len h4
    refine h a' c' w' (FRow.own (by rw [List.map_append];exact h4)) h5 ?_
    intro k hk
    rcases h6 with e|e
    · exact .inl (by rw [←e];exact hk)
    · rw [hk] at e
      exact .inr (Nat.le_of_eq (Option.some.inj e).symm)
  · have hold:∀ j u,(b.map bv)[j]? = some u→w.cell? ((⟨g,0,none⟩:Addr).add j)=some u:=by
      have:=FRow.reads (w:=w) (v:=.slice (some ⟨g,0,none⟩) b.length b.length) (.inr ⟨g,cur,rfl,hg,h1,h2,h3⟩)
      obtain ⟨_,⟨e,_⟩|⟨a0,c0,e,_,hc⟩⟩:=this
      · cases e
      · simp only [Value.slice.injEq,Option.some.injEq] at e
        rw [e.1]
        exact hc
    by_cases hnb:nb=[]
    · subst hnb
      have hsrc:Src P i.size t vx 0 [] w:=by
        obtain ⟨_,⟨rfl,_⟩|⟨ad,c,rfl,_,_⟩⟩:=hr
        · exact Src.ofNil w ht 0
        · exact Src.ofSlice w ht ad 0 c [] (by simp) (fun j u h=>by simp at h) (fun u h=>by cases h)
      have hrun:=run_append_nothing (P:=P) w t t o.type 5 i ht hi (some ⟨g,0,none⟩) b.length b.length (Nat.le_refl _) vx hsrc
      unfold Oper.wp execOp
      simp only [ho,resolve,invoke,builtin,Sem.run_bind,Sem.run_pure,Result.andThen_ok,List.map_toArray,List.map_cons,List.map_nil,hs,hx,hrun]
      have:=h (some ⟨g,0,none⟩) b.length w (.inr ⟨g,cur,by simp,hg,by simpa using h1,by simpa using h2,by simpa using h3⟩) ⟨rfl,rfl,rfl,Nat.le_refl _,fun _ _ _=>rfl⟩ (fun k hk=>.inl hk)
      show K (a.put o.dst (.slice (some ⟨g,0,none⟩) b.length b.length)) w
      simpa using this
    · obtain ⟨hl2,⟨e,h0⟩|⟨ad,c,rfl,_,hnews⟩⟩:=hr
      · exact absurd (List.eq_nil_of_length_eq_zero h0) hnb
      · have hpos:0<nb.length:=List.length_pos_iff.2 hnb
        obtain ⟨v',w',hrun,h4,h5⟩:=run_append_arg_grows (P:=P) w t o.type 5 i (.int .u8 0) 1 1 ht hi hz hsize hby rfl (by decide) ⟨g,0,none⟩ b.length b.length (b.map bv) (by simp) hold ad nb.length c (nb.map bv) hl2 hnews (by omega) (by unfold maxLen;omega) (by omega)
        obtain ⟨a',c',rfl⟩:=ownsRow_len h4
        unfold Oper.wp execOp
        simp only [ho,resolve,invoke,builtin,Sem.run_bind,Sem.run_pure,Result.andThen_ok,List.map_toArray,List.map_cons,List.map_nil,hs,hx,hrun]
        refine h a' c' w' (FRow.own (by rw [List.map_append];exact h4)) ⟨h5.os,h5.tape,h5.output,h5.size,fun k hk _=>h5.block k hk (by simp)⟩ fun k hk=>.inr (h4.lt k hk).1
theorem wpList_append_frow(w:World){ops:Array Oper}{rest:List Oper}{o:Oper}{a:Go.Act}{Q:Exit→Go.Act→World→Prop}(hgd:o.guard=none)(s x:Operand)(t:TypeId)
    (ho:o.op=.call { callee:=.builtin .append,args:=#[s,x],argTypes:=#[t,t] }) (i:TypeInfo) (ht:P.underlying t=some (.slice 5)) (hi:P.info? 5=some i) (hz:i.zero=some (.int .u8 0)) (hsize:i.size=1) (hby:i.bytes=1)
    (v:Value) (b:List UInt8) (hs:a.eval s=v) (hown:FRow w v b) (vx:Value) (nb:List UInt8) (hx:a.eval x=vx) (hr:Reads w 1 vx nb.length (nb.map bv)) (hl:b.length+nb.length≤140737488355328)
    (h:∀ a' c' w',FRow w' (.slice a' (b.length+nb.length) c') (b ++ nb)→w.grownBy w' v.ownBlock→(∀ k,(Value.slice a' (b.length+nb.length) c').ownBlock=some k→v.ownBlock=some k∨w.heap.size≤k)→wpList P ops Q rest (a.put o.dst (.slice a' (b.length+nb.length) c')) w'):wpList P ops Q (o :: rest) a w:=
  wpList_plain hgd fun _ hK=>wp_append_frow w s x t ho i ht hi hz hsize hby v b hs hown vx nb hx hr hl fun a' c' w' h2 h3 h4=>hK _ _ (h a' c' w' h2 h3 h4)
open Go.RowKit Go.Maps
theorem heap_new(w:World)(o:Obj):(w.alloc o).heap[w.heap.size]? = some o:=(MapKept.heap_alloc w o).1
theorem blk_new{w:World}{k:Nat}(o:Obj)(hk:w.heap.size=k):(w.alloc o).heap[k]? = some o:=by
  subst hk
  exact heap_new w o
theorem blk_alloc{w:World}{k:Nat}{x:Obj}(h:w.heap[k]? = some x)(o:Obj):(w.alloc o).heap[k]? = some x:=
  (Below.heap_alloc w o k (Array.getElem?_eq_some_iff.1 h).1).trans h
theorem blk_lt{w:World}{k:Nat}{x:Obj}(h:w.heap[k]? = some x):k<w.heap.size:=(Array.getElem?_eq_some_iff.1 h).1
theorem blk_set{w:World}{k:Nat}{x:Obj}(h:w.heap[k]? = some x)(a:Addr)(v:Value)(hne:k≠a.block):(w.setCell a v).heap[k]? = some x:=(Below.heap_setCell w a v k hne).trans h
theorem blk_put{w:World}{b:Nat}{arr:Array Value}{t:TypeId}(h:w.heap[b]? = some (.cells arr t (0,0)))(i:Nat)(v:Value):(w.setCell ⟨b,i,none⟩ v).heap[b]? = some (.cells (arr.setIfInBounds i v) t (0,0)):=
  heap_setCell_same w b i _ t v h
theorem blk_below{w w':World}{k:Nat}{x:Obj}(h:w.heap[k]? = some x)(hb:Below w.heap.size w w'):w'.heap[k]? = some x:=(hb.block k (blk_lt h)).trans h
theorem cells1{w:World}{b:Nat}{t:TypeId}{v0:Value}(h:w.heap[b]? = some (.cells #[v0] t (0,0))):w.cell? ⟨b,0,none⟩=some v0∧∀ o,w.frozen? ⟨b,o,none⟩=false:=
  ⟨cell_of_row w b 0 _ _ _ h,fun o=>frozen_of_row w b o _ _ h⟩
theorem cells3{w:World}{b:Nat}{t:TypeId}{v0 v1 v2:Value}(h:w.heap[b]? = some (.cells #[v0,v1,v2] t (0,0))) :
    w.cell? ⟨b,0,none⟩=some v0∧w.cell? ⟨b,1,none⟩=some v1∧w.cell? ⟨b,2,none⟩=some v2∧∀ o,w.frozen? ⟨b,o,none⟩=false:=by
  have e:=fun j=>cell_of_row w b j _ _ _ h
  exact ⟨e 0,e 1,e 2,fun o=>frozen_of_row w b o _ _ h⟩
theorem cells6{w:World}{b:Nat}{t:TypeId}{v0 v1 v2 v3 v4 v5:Value}(h:w.heap[b]? = some (.cells #[v0,v1,v2,v3,v4,v5] t (0,0))) :
    w.cell? ⟨b,0,none⟩=some v0∧w.cell? ⟨b,1,none⟩=some v1∧w.cell? ⟨b,2,none⟩=some v2∧w.cell? ⟨b,3,none⟩=some v3∧w.cell? ⟨b,4,none⟩=some v4∧w.cell? ⟨b,5,none⟩=some v5∧∀ o,w.frozen? ⟨b,o,none⟩=false:=by
  have e:=fun j=>cell_of_row w b j _ _ _ h
  exact ⟨e 0,e 1,e 2,e 3,e 4,e 5,fun o=>frozen_of_row w b o _ _ h⟩
theorem law_str:Keyed Tryz.prog 9:=string_keyed Tryz.underlying9
def ptrR (v:Value):Option (DataW Unit×List MemPlace):=
  match v with
  | .pointer none=>some (.lit (.int .i64 (-1)),[])
  | .pointer (some ⟨b,0,none⟩)=>some (.lit (.int .i64 b),[])
  | _=>none
theorem ptrR_mk(b:Nat):ptrR ((.pointer (some ⟨b,0,none⟩)))=some (.lit (.int .i64 b),[]):=rfl
theorem ptrR_at{v:Value}{b:Nat}{ps:List MemPlace}(h:ptrR v=some (.lit (.int .i64 b),ps)):v=(.pointer (some ⟨b,0,none⟩)):=by
  unfold ptrR at h
  split at h
  · simp at h
  · simp at h;obtain rfl:=Int.ofNat.inj h.1;rfl
  · cases h
theorem ptrR_no{v:Value}{ps:List MemPlace}(h:ptrR v=some (.lit (.int .i64 (-1)),ps)):v=.pointer none:=by
  unfold ptrR at h
  split at h
  · rfl
  · simp at h
  · cases h
theorem key_str{s:Nm}(h:s.length≤maxLen):keyOf Tryz.prog 9 (.string ⟨s.toArray⟩)=some (.string s):=by
  have:=WideMaps.keyOf_string_mk (P:=Tryz.prog) (k:=9) Tryz.underlying9 (s:=⟨s.toArray⟩) (by show s.toArray.size≤maxLen;simpa using h)
  simpa using this
def DirAt (w:World) (b:Nat) (g:Nat→Nat) (l:Dir):Prop:=w.ownsMap Tryz.prog 9 ptrR b l.length (dirD g l)
theorem DirAt.of{w:World}{b n:Nat}{g:Nat→Nat}{l:Dir}(h:w.ownsMap Tryz.prog 9 ptrR b n (dirD g l)):DirAt w b g l:=by
  obtain ⟨es,clock,hb,F,_,hD⟩:=h
  refine ⟨es,clock,hb,F,?_,hD⟩
  have:=congrArg Maps.size hD
  rw [dirD_size] at this
  rw [this]
  simp [Maps.size,length_sorted]
theorem DirAt.lt{w:World}{b:Nat}{g:Nat→Nat}{l:Dir}(h:DirAt w b g l):b<w.heap.size:=World.ownsMap.lt h
theorem DirAt.at{w w':World}{b:Nat}{g:Nat→Nat}{l:Dir}(h:DirAt w b g l)(hb:w'.heap[b]? = w.heap[b]?):DirAt w' b g l:=by
  obtain ⟨es,clock,h1,h2⟩:=h
  exact ⟨es,clock,hb.trans h1,h2⟩
theorem DirAt.congr{w:World}{b:Nat}{g g':Nat→Nat}{l:Dir}(h:DirAt w b g l)(hg:∀ p∈l,g p.2=g' p.2):DirAt w b g' l:=by
  unfold DirAt at h ⊢
  rw [←dirD_congr hg]
  exact h
theorem DirAt.ne{w:World}{b c:Nat}{g:Nat→Nat}{l:Dir}{arr:Array Value}{t:TypeId}(h:DirAt w b g l)(hc:w.heap[c]? = some (.cells arr t (0,0))):b≠c:=by
  rintro rfl
  obtain ⟨es,clock,h1,_⟩:=h
  rw [hc] at h1
  cases h1
def BoxS (w:World) (b:Nat) (s:Nm):Prop:=w.heap[b]? = some (.cells #[.string ⟨s.toArray⟩] 9 (0,0))∧s.length≤maxLen
def BoxP (w:World) (b f:Nat):Prop:=w.heap[b]? = some (.cells #[(.pointer (some ⟨f,0,none⟩))] 124 (0,0))
def DeedAt (w:World) (F:Nat→Prop) (g:Nat→Nat) (v:Value) (x:Deed):Prop:=
  (x.kind=0∧∃ bf bt,v=.func (.func 134) #[] #[(.pointer (some ⟨bf,0,none⟩)),(.pointer (some ⟨bt,0,none⟩))]∧F bf∧F bt∧BoxP w bf (g x.file)∧BoxS w bt x.to) ∨
  (x.kind=1∧∃ bs bf bt,v=.func (.func 138) #[] #[(.pointer (some ⟨bs,0,none⟩)),(.pointer (some ⟨bf,0,none⟩)),(.pointer (some ⟨bt,0,none⟩))]∧F bs∧F bf∧F bt∧BoxS w bs x.frm∧BoxP w bf (g x.file)∧BoxS w bt x.to) ∨
  (x.kind=2∧∃ bs,v=.func (.func 137) #[] #[(.pointer (some ⟨bs,0,none⟩))]∧F bs∧BoxS w bs x.frm)
def kindO:Obj→Nat
  | .cells _ t _=>t+1
  | _=>0
def Hits (w:World) (G:Nat→Prop) (n:Nat):Prop:=∀ (k:Nat) (x:Obj),G k→w.heap[k]? = some x→kindO x=n
theorem hits_one{w:World}{k:Nat}{x:Obj}(h:w.heap[k]? = some x):Hits w (fun i=>i=k) (kindO x):=fun i y hi hy=>by
  subst hi
  rw [h] at hy
  cases hy
  rfl
theorem hits_row{w:World}{base:Nat}{e:TypeId}{sz n:Nat}{v:Value}{xs:List Value}(h:w.ownsRow base e sz v n xs):Hits w (fun i=>v.ownBlock=some i) (e+1):=fun i y hi hy=>by
  rcases h.2 with ⟨rfl,_⟩|⟨g,cap,cur,rfl,_,hg,_⟩
  · cases hi
  · simp only [Value.ownBlock,Option.some.injEq] at hi
    subst hi
    rw [hg] at hy
    cases hy
    rfl
theorem hits_dir{w:World}{b:Nat}{g:Nat→Nat}{l:Dir}(h:DirAt w b g l):Hits w (fun i=>i=b) 0:=fun i y hi hy=>by
  subst hi
  obtain ⟨es,clock,hb,_⟩:=h
  rw [hb] at hy
  cases hy
  rfl
theorem keep_blk{w w':World}{G:Nat→Prop}{n k:Nat}{x:Obj}(hk:Keeps G w w')(hh:Hits w G n)(hb:w.heap[k]? = some x)(hne:kindO x≠n):w'.heap[k]? = some x:=
  (hk.block k (blk_lt hb) (fun hg=>hne (hh k x hg hb))).trans hb
theorem keep_row{w w':World}{G:Nat→Prop}{n base:Nat}{e:TypeId}{sz m:Nat}{v:Value}{xs:List Value}(hk:Keeps G w w')(hh:Hits w G n)(h:w.ownsRow base e sz v m xs)(hne:e+1≠n):w'.ownsRow base e sz v m xs:=
  ownsRow_keeps h hk fun k hv hg=>by
    rcases h.2 with ⟨rfl,_⟩|⟨g,cap,cur,rfl,_,hb,_⟩
    · cases hv
    · simp only [Value.ownBlock,Option.some.injEq] at hv
      subst hv
      exact hne (hh _ _ hg hb)
theorem hits_frow{w:World}{v:Value}{b:List UInt8}(h:FRow w v b):Hits w (fun i=>v.ownBlock=some i) (5+1):=fun i y hi hy=>by
  obtain ⟨cur,hc⟩:=h.blk hi
  rw [hc] at hy
  cases hy
  rfl
theorem keep_frow{w w':World}{G:Nat→Prop}{n:Nat}{v:Value}{b:List UInt8}(hk:Keeps G w w')(hh:Hits w G n)(h:FRow w v b)(hne:5+1≠n):FRow w' v b:=
  h.keeps hk fun k hv hg=>by
    obtain ⟨cur,hc⟩:=h.blk hv
    exact hne (hh _ _ hg hc)
theorem DirAt.hits{w w':World}{G:Nat→Prop}{n b:Nat}{g:Nat→Nat}{l:Dir}(h:DirAt w b g l)(hk:Keeps G w w')(hh:Hits w G n)(hne:n≠0):DirAt w' b g l:=
  h.at (hk.block _ h.lt fun hg=>by
    obtain ⟨es,clock,hb,_⟩:=h
    exact hne (hh _ _ hg hb).symm)
theorem DeedAt.at{w w':World}{F G:Nat→Prop}{g g':Nat→Nat}{v:Value}{x:Deed}(h:DeedAt w F g v x)(hw:∀ k,F k→(∃ a t,w.heap[k]? = some (.cells a t (0,0))∧(t=9∨t=124))→w'.heap[k]? = w.heap[k]?)(hF:∀ k,F k→G k)(hg:x.kind≤1→g x.file=g' x.file):DeedAt w' G g' v x:=by
  have hs:∀ {b:Nat} {s:Nm},F b→BoxS w b s→BoxS w' b s:=fun hb h=>⟨(hw _ hb ⟨_,_,h.1,.inl rfl⟩).trans h.1,h.2⟩
  have hp:∀ {b f:Nat},F b→BoxP w b f→BoxP w' b f:=fun hb h=>(hw _ hb ⟨_,_,h,.inr rfl⟩).trans h
  rcases h with ⟨hk,bf,bt,rfl,f1,f2,h1,h2⟩|⟨hk,bs,bf,bt,rfl,f1,f2,f3,h1,h2,h3⟩|⟨hk,bs,rfl,f1,h1⟩
  · exact .inl ⟨hk,bf,bt,rfl,hF _ f1,hF _ f2,by rw [←hg (by omega)];exact hp f1 h1,hs f2 h2⟩
  · exact .inr (.inl ⟨hk,bs,bf,bt,rfl,hF _ f1,hF _ f2,hF _ f3,hs f1 h1,by rw [←hg (by omega)];exact hp f2 h2,hs f3 h3⟩)
  · exact .inr (.inr ⟨hk,bs,rfl,hF _ f1,hs f1 h1⟩)
structure FilesAt (w:World) (F:Nat→Prop) (fb:Nat→Nat) (fv:Nat→Value) (fs:List DFile):Prop where
  fi:∀ (i:Nat) (f:DFile),fs[i]? = some f→w.heap[fb i]? = some (.cells #[.int .i64 i,fv i,.int .i64 f.lasts] 138 (0,0))∧FRow w (fv i) f.b
  inj:∀ i j:Nat,i<fs.length→j<fs.length→fb i=fb j→i=j
  apart:∀ i j g:Nat,i<fs.length→j<fs.length→(fv i).ownBlock=some g→(fv j).ownBlock=some g→i=j
  ff:∀ i,i<fs.length→F (fb i)∧∀ g,(fv i).ownBlock=some g→F g
theorem FilesAt.keeps{w w':World}{F G:Nat→Prop}{fb:Nat→Nat}{fv:Nat→Value}{fs:List DFile}(h:FilesAt w F fb fv fs)(hk:Keeps G w w')(hG:∀ k,F k→¬ G k):FilesAt w' F fb fv fs:=
  ⟨fun i f hf=>by
    obtain ⟨h1,h2⟩:=h.fi i f hf
    have hi:i<fs.length:=(List.getElem?_eq_some_iff.1 hf).1
    exact ⟨(hk.block _ (blk_lt h1) (hG _ (h.ff i hi).1)).trans h1,h2.keeps hk fun k hv=>hG _ ((h.ff i hi).2 k hv)⟩,h.inj,h.apart,h.ff⟩
theorem FilesAt.hits{w w':World}{F G:Nat→Prop}{n:Nat}{fb:Nat→Nat}{fv:Nat→Value}{fs:List DFile}(h:FilesAt w F fb fv fs)(hk:Keeps G w w')(hh:Hits w G n)(h1:138+1≠n)(h2:5+1≠n):FilesAt w' F fb fv fs:=
  ⟨fun i f hf=>⟨keep_blk hk hh (h.fi i f hf).1 h1,keep_frow hk hh (h.fi i f hf).2 h2⟩,h.inj,h.apart,h.ff⟩
theorem FilesAt.mono{w:World}{F G:Nat→Prop}{fb:Nat→Nat}{fv:Nat→Value}{fs:List DFile}(h:FilesAt w F fb fv fs)(hF:∀ k,F k→G k):FilesAt w G fb fv fs:=
  ⟨h.fi,h.inj,h.apart,fun i hi=>⟨hF _ (h.ff i hi).1,fun g hg=>hF _ ((h.ff i hi).2 g hg)⟩⟩
structure DeedsAt (w:World) (F:Nat→Prop) (fb:Nat→Nat) (vd:Value) (ds:List Value) (xs:List Deed):Prop where
  row:w.ownsRow 0 134 1 vd xs.length ds
  dd:∀ (i:Nat) (x:Deed),xs[i]? = some x→∃ v,ds[i]? = some v∧DeedAt w F fb v x
  fvd:∀ g,vd.ownBlock=some g→F g
theorem DeedsAt.keeps{w w':World}{F G:Nat→Prop}{fb:Nat→Nat}{vd:Value}{ds:List Value}{xs:List Deed}(h:DeedsAt w F fb vd ds xs)(hk:Keeps G w w')(hG:∀ k,F k→¬ G k):DeedsAt w' F fb vd ds xs:=
  ⟨ownsRow_keeps h.row hk fun k hv=>hG _ (h.fvd k hv),fun i x hx=>by
    obtain ⟨v,hv,hd⟩:=h.dd i x hx
    exact ⟨v,hv,hd.at (fun k hF ⟨a,t,hb,_⟩=>hk.block _ (blk_lt hb) (hG _ hF)) (fun _ h=>h) (fun _=>rfl)⟩,h.fvd⟩
theorem DeedsAt.hits{w w':World}{F G:Nat→Prop}{n:Nat}{fb:Nat→Nat}{vd:Value}{ds:List Value}{xs:List Deed}(h:DeedsAt w F fb vd ds xs)(hk:Keeps G w w')(hh:Hits w G n)
    (h1:134+1≠n) (h2:9+1≠n) (h3:124+1≠n):DeedsAt w' F fb vd ds xs:=
  ⟨keep_row hk hh h.row h1,fun i x hx=>by
    obtain ⟨v,hv,hd⟩:=h.dd i x hx
    refine ⟨v,hv,hd.at (fun k hF ⟨a,t,hb,ht⟩=>hk.block _ (blk_lt hb) fun hg=>?_) (fun _ h=>h) (fun _=>rfl)⟩
    have:=hh _ _ hg hb
    rcases ht with rfl|rfl
    · exact h2 this
    · exact h3 this,h.fvd⟩
theorem DeedsAt.mono{w:World}{F G:Nat→Prop}{fb fb':Nat→Nat}{vd:Value}{ds:List Value}{xs:List Deed}(h:DeedsAt w F fb vd ds xs)(hF:∀ k,F k→G k)(hg:∀ x∈xs,x.kind≤1→fb x.file=fb' x.file):DeedsAt w G fb' vd ds xs:=
  ⟨h.row,fun i x hx=>by
    obtain ⟨v,hv,hd⟩:=h.dd i x hx
    exact ⟨v,hv,hd.at (fun _ _ _=>rfl) hF (hg x (List.mem_of_getElem? hx))⟩,fun g hg=>hF _ (h.fvd g hg)⟩
structure DW where
  bn:Nat
  bl:Nat
  vd:Value
  ds:List Value
  fb:Nat→Nat
  fv:Nat→Value
structure DiskAt (w:World) (d:Nat) (F:Nat→Prop) (q:DW) (st:Dk):Prop where
  blk:w.heap[d]? = some (.cells #[.int .i64 st.cap,.int .i64 st.files.length,.map (some q.bn),.map (some q.bl),q.vd,.int .i64 st.armed] 104 (0,0))
  now:DirAt w q.bn q.fb st.now
  last:DirAt w q.bl q.fb st.lasting
  ne:q.bn≠q.bl
  deeds:DeedsAt w F q.fb q.vd q.ds st.deeds
  files:FilesAt w F q.fb q.fv st.files
  fd:F d
  fn:F q.bn
  fl:F q.bl
theorem DiskAt.keeps{w w':World}{d:Nat}{F G:Nat→Prop}{q:DW}{st:Dk}(h:DiskAt w d F q st)(hk:Keeps G w w')(hG:∀ k,F k→¬ G k):DiskAt w' d F q st:=
  ⟨(hk.block _ (blk_lt h.blk) (hG _ h.fd)).trans h.blk,h.now.at (hk.block _ h.now.lt (hG _ h.fn)),h.last.at (hk.block _ h.last.lt (hG _ h.fl)),h.ne,h.deeds.keeps hk hG,h.files.keeps hk hG,h.fd,h.fn,h.fl⟩
theorem DiskAt.below{w w':World}{d:Nat}{F:Nat→Prop}{q:DW}{st:Dk}(h:DiskAt w d F q st)(hb:Below w.heap.size w w'):DiskAt w' d F q st:=
  h.keeps (G:=fun _=>False) ⟨hb.os,hb.tape,hb.output,hb.size,fun k hk _=>hb.block k hk⟩ (fun _ _ hf=>hf)
theorem DiskAt.mono{w:World}{d:Nat}{F G:Nat→Prop}{q:DW}{st:Dk}(h:DiskAt w d F q st)(hF:∀ k,F k→G k):DiskAt w d G q st:=
  ⟨h.blk,h.now,h.last,h.ne,h.deeds.mono hF (fun _ _ _=>rfl),h.files.mono hF,hF _ h.fd,hF _ h.fn,hF _ h.fl⟩
theorem DiskAt.file{w:World}{d:Nat}{F:Nat→Prop}{q:DW}{st:Dk}(h:DiskAt w d F q st){i:Nat}(hi:i<st.files.length) :
    w.heap[q.fb i]? = some (.cells #[.int .i64 i,q.fv i,.int .i64 (st.fileAt i).lasts] 138 (0,0))∧FRow w (q.fv i) (st.fileAt i).b:=by
  have e:=List.getElem?_eq_getElem hi
  have hf:st.fileAt i=st.files[i]:=by unfold Dk.fileAt;rw [e];rfl
  rw [hf]
  exact h.files.fi i _ e
def DiskIs (w:World) (d:Nat) (F:Nat→Prop) (st:Dk):Prop:=∃ q,DiskAt w d F q st
theorem DeedAt.lt{w:World}{F:Nat→Prop}{g:Nat→Nat}{v:Value}{x:Deed}(h:DeedAt w F g v x):DeedAt w (fun k=>F k∧k<w.heap.size) g v x:=by
  rcases h with ⟨hk,bf,bt,rfl,f1,f2,h1,h2⟩|⟨hk,bs,bf,bt,rfl,f1,f2,f3,h1,h2,h3⟩|⟨hk,bs,rfl,f1,h1⟩
  · exact .inl ⟨hk,bf,bt,rfl,⟨f1,blk_lt h1⟩,⟨f2,blk_lt h2.1⟩,h1,h2⟩
  · exact .inr (.inl ⟨hk,bs,bf,bt,rfl,⟨f1,blk_lt h1.1⟩,⟨f2,blk_lt h2⟩,⟨f3,blk_lt h3.1⟩,h1,h2,h3⟩)
  · exact .inr (.inr ⟨hk,bs,rfl,⟨f1,blk_lt h1.1⟩,h1⟩)
theorem DiskAt.trim{w:World}{d:Nat}{F:Nat→Prop}{q:DW}{st:Dk}(h:DiskAt w d F q st):DiskAt w d (fun k=>F k∧k<w.heap.size) q st:=
  ⟨h.blk,h.now,h.last,h.ne,⟨h.deeds.row,fun i x hx=>by
      obtain ⟨v,hv,hd⟩:=h.deeds.dd i x hx
      exact ⟨v,hv,hd.lt⟩,fun g hg=>⟨h.deeds.fvd g hg,(h.deeds.row.lt g hg).2⟩⟩,
    ⟨h.files.fi,h.files.inj,h.files.apart,fun i hi=>by
      obtain ⟨h1,h2⟩:=h.files.fi i _ (List.getElem?_eq_getElem hi)
      exact ⟨⟨(h.files.ff i hi).1,blk_lt h1⟩,fun g hg=>⟨(h.files.ff i hi).2 g hg,h2.lt hg⟩⟩⟩,⟨h.fd,blk_lt h.blk⟩,⟨h.fn,h.now.lt⟩,⟨h.fl,h.last.lt⟩⟩
def DiskTo (w w':World) (d:Nat) (F:Nat→Prop) (st:Dk):Prop:=DiskIs w' d (fun k=>(F k∨w.heap.size≤k)∧k<w'.heap.size) st∧Keeps F w w'
theorem DiskAt.to{w w':World}{d:Nat}{F G:Nat→Prop}{q:DW}{st:Dk}(h:DiskAt w' d G q st)(hk:Keeps F w w')(hG:∀ k,G k→F k∨w.heap.size≤k):DiskTo w w' d F st:=⟨⟨q,(h.mono hG).trim⟩,hk⟩
theorem DiskAt.same{w:World}{d:Nat}{F:Nat→Prop}{q:DW}{st:Dk}(h:DiskAt w d F q st):DiskTo w w d F st:=h.to (Keeps.refl _ _) fun _ h=>.inl h
theorem keeps_below{w w':World}(F:Nat→Prop)(hb:Below w.heap.size w w'):Keeps F w w':=⟨hb.os,hb.tape,hb.output,hb.size,fun k hk _=>hb.block k hk⟩
theorem DiskAt.later{w w':World}{d:Nat}{F:Nat→Prop}{q:DW}{st:Dk}(h:DiskAt w d F q st)(hb:Below w.heap.size w w'):DiskTo w w' d F st:=
  (h.below hb).to (keeps_below F hb) fun _ h=>.inl h
theorem DiskAt.blkTo{w w':World}{d:Nat}{F:Nat→Prop}{q:DW}{st:Dk}(h:DiskAt w d F q st)(hk:Keeps (fun k=>k=d) w w')(c:Nat)(a:Int)
    (hb:w'.heap[d]? = some (.cells #[.int .i64 c,.int .i64 st.files.length,.map (some q.bn),.map (some q.bl),q.vd,.int .i64 a] 104 (0,0))):DiskAt w' d F q ⟨c,st.now,st.lasting,st.deeds,st.files,a⟩:=
  have hh:=hits_one h.blk
  ⟨hb,h.now.hits hk hh (by simp [kindO]),h.last.hits hk hh (by simp [kindO]),h.ne,h.deeds.hits hk hh (by simp [kindO]) (by simp [kindO]) (by simp [kindO]),h.files.hits hk hh (by simp [kindO]) (by simp [kindO]),h.fd,h.fn,h.fl⟩
theorem keeps_set{w:World}{b:Nat}(o:Nat)(v:Value):Keeps (fun k=>k=b) w (w.setCell ⟨b,o,none⟩ v):=(Keeps.refl _ _).setCell _ _ fun _=>rfl
theorem DiskAt.armTo{w:World}{d:Nat}{F:Nat→Prop}{q:DW}{st:Dk}(h:DiskAt w d F q st)(n:Int):DiskAt (w.setCell ⟨d,5,none⟩ (.int .i64 n)) d F q { st with armed:=n }:=
  h.blkTo (keeps_set _ _) st.cap n (by simpa using blk_put h.blk 5 (.int .i64 n))
open Go.RowKit Go.Maps
theorem zero_file(w:World):(zeroValue 124).run Tryz.prog w=.ok (.pointer none) w:=by kernel_rfl
theorem wpList_name(w:World){ops:Array Oper}{rest:List Oper}{o:Oper}{a:Act}{Q:Exit→Act→World→Prop}(hg:o.guard=none)(m x:Operand)(hop:o.op=Op.lookup 101 m x false)
    (b:Nat) (g:Nat→Nat) (l:Dir) (hm:a.eval m=.map (some b)) (h:DirAt w b g l) (s:Nm) (hx:a.eval x=.string ⟨s.toArray⟩) (hs:s.length≤maxLen)
    (hK:wpList Tryz.prog ops Q rest (a.put o.dst (match dirGet l s with|some i=>(.pointer (some ⟨g i,0,none⟩))|none=>.pointer none)) w):wpList Tryz.prog ops Q (o :: rest) a w:=by
  refine wpList_plain hg fun K' hK'=>?_
  obtain ⟨v,ps,hrun,hv⟩:=World.ownsMap.lookup h law_str Tryz.underlying101 (zero_file w) (zd:=.lit (.int .i64 (-1))) (zp:=[]) rfl (key_str hs)
  rw [dirD_get] at hv
  have e:v=match dirGet l s with|some i=>(.pointer (some ⟨g i,0,none⟩))|none=>.pointer none:=by
    cases hd:dirGet l s with
    | none=>rw [hd] at hv;exact ptrR_no hv
    | some i=>rw [hd] at hv;exact ptrR_at hv
  subst e
  unfold Oper.wp
  simp [execOp,hop,hm,hx,hrun,Result.andThen]
  exact hK' _ _ hK
theorem run_name_some{w:World}{b:Nat}{g:Nat→Nat}{l:Dir}(h:DirAt w b g l){s:Nm}(hs:s.length≤maxLen){i:Nat}(hd:dirGet l s=some i) :
    (Instr.lookup 101 (.map (some b)) (.string ⟨s.toArray⟩) false).run Tryz.prog w=.ok (.pointer (some ⟨g i,0,none⟩)) w:=by
  obtain ⟨v,ps,hrun,hv⟩:=World.ownsMap.lookup h law_str Tryz.underlying101 (zero_file w) (zd:=.lit (.int .i64 (-1))) (zp:=[]) rfl (key_str hs)
  rw [dirD_get,hd] at hv
  rw [hrun,ptrR_at hv]
theorem run_name_none{w:World}{b:Nat}{g:Nat→Nat}{l:Dir}(h:DirAt w b g l){s:Nm}(hs:s.length≤maxLen)(hd:dirGet l s=none) :
    (Instr.lookup 101 (.map (some b)) (.string ⟨s.toArray⟩) false).run Tryz.prog w=.ok (.pointer none) w:=by
  obtain ⟨v,ps,hrun,hv⟩:=World.ownsMap.lookup h law_str Tryz.underlying101 (zero_file w) (zd:=.lit (.int .i64 (-1))) (zp:=[]) rfl (key_str hs)
  rw [dirD_get,hd] at hv
  rw [hrun,ptrR_no hv]
theorem wpList_name_some(w:World){ops:Array Oper}{rest:List Oper}{o:Oper}{a:Act}{Q:Exit→Act→World→Prop}(hg:o.guard=none)(m x:Operand)(hop:o.op=Op.lookup 101 m x false)
    (b:Nat) (g:Nat→Nat) (l:Dir) (hm:a.eval m=.map (some b)) (h:DirAt w b g l) (s:Nm) (hx:a.eval x=.string ⟨s.toArray⟩) (hs:s.length≤maxLen) (i:Nat) (hd:dirGet l s=some i)
    (hK:wpList Tryz.prog ops Q rest (a.put o.dst (.pointer (some ⟨g i,0,none⟩))) w):wpList Tryz.prog ops Q (o :: rest) a w:=
  wpList_name w hg m x hop b g l hm h s hx hs (by rw [hd];exact hK)
theorem wpList_name_none(w:World){ops:Array Oper}{rest:List Oper}{o:Oper}{a:Act}{Q:Exit→Act→World→Prop}(hg:o.guard=none)(m x:Operand)(hop:o.op=Op.lookup 101 m x false)
    (b:Nat) (g:Nat→Nat) (l:Dir) (hm:a.eval m=.map (some b)) (h:DirAt w b g l) (s:Nm) (hx:a.eval x=.string ⟨s.toArray⟩) (hs:s.length≤maxLen) (hd:dirGet l s=none)
    (hK:wpList Tryz.prog ops Q rest (a.put o.dst (.pointer none)) w):wpList Tryz.prog ops Q (o :: rest) a w:=
  wpList_name w hg m x hop b g l hm h s hx hs (by rw [hd];exact hK)
theorem up_any(d:Nat)(F:Nat→Prop)(q:DW)(st:Dk)(w:World)(h:DiskAt w d F q st) :
    Calls Tryz.prog 75 #[(.pointer (some ⟨d,0,none⟩))] w fun e w'=>e=.returned (errV (if st.armed=0 then 12 else 0))∧w=w':=by
  obtain ⟨c0,c1,c2,c3,c4,c5,cf⟩:=cells6 h.blk
  by_cases ha:st.armed=0
  · rw [ha] at c5
    rw [if_pos ha]
    clear h c0 c1 c2 c3 c4 ha
    go_enter Tryz.func75,Tryz.ntmps75
    go_wp2
    go_ret
    exact ⟨rfl,rfl⟩
  · have hb:(st.armed == 0)=false:=beq_eq_false_iff_ne.2 ha
    rw [if_neg ha]
    clear h c0 c1 c2 c3 c4 ha
    go_enter Tryz.func75,Tryz.ntmps75
    go_wp2
    go_ret
    exact ⟨rfl,rfl⟩
theorem find_any(d:Nat)(F:Nat→Prop)(q:DW)(st:Dk)(s:Nm)(w:World)(h:DiskAt w d F q st)(hs:s.length≤maxLen) :
    Calls Tryz.prog 67 #[(.pointer (some ⟨d,0,none⟩)),.string ⟨s.toArray⟩] w fun e w'=>e=.returned (.tuple #[if (st.fnd s).1=0 then (.pointer (some ⟨q.fb (st.fnd s).2,0,none⟩)) else .pointer none,errV (st.fnd s).1])∧w=w':=by
  have H:=Hd h
  obtain ⟨c0,c1,c2,c3,c4,c5,cf⟩:=cells6 h.blk
  clear c0 c1 c3 c4 c5 cf h
  by_cases ha:st.armed=0
  · have e:st.fnd s=(12,0):=by unfold Dk.fnd;rw [if_pos ha]
    rw [e]
    have HA:=Hd ha
    clear e ha
    go_enter Tryz.func67,Tryz.ntmps67
    go_wp2_with fail
    refine (up_any d F q st _ H.out).mono ?_
    rintro e w' ⟨rfl,rfl⟩
    rw [if_pos HA.out,errV_ne (by omega)]
    go_wp2
    go_ret2
    exact ⟨rfl,rfl⟩
  · cases hd:dirGet st.now s with
    | none=>
      have e:st.fnd s=(6,0):=by unfold Dk.fnd;rw [if_neg ha,hd]
      rw [e]
      have HA:=Hd ha
      have HD:=Hd hd
      clear e ha hd
      go_enter Tryz.func67,Tryz.ntmps67
      go_wp2_with fail
      refine (up_any d F q st _ H.out).mono ?_
      rintro e w' ⟨rfl,rfl⟩
      rw [if_neg HA.out,errV_zero]
      go_wp2_with (at_lookup;refine wpList_name_none _ rfl _ _ rfl q.bn q.fb st.now rfl H.out.now s rfl hs HD.out ?_)
      go_ret2
      exact ⟨rfl,rfl⟩
    | some i=>
      have e:st.fnd s=(0,i):=by unfold Dk.fnd;rw [if_neg ha,hd]
      rw [e]
      have HA:=Hd ha
      have HD:=Hd hd
      clear e ha hd
      go_enter Tryz.func67,Tryz.ntmps67
      go_wp2_with fail
      refine (up_any d F q st _ H.out).mono ?_
      rintro e w' ⟨rfl,rfl⟩
      rw [if_neg HA.out,errV_zero]
      go_wp2_with (at_lookup;refine wpList_name_some _ rfl _ _ rfl q.bn q.fb st.now rfl H.out.now s rfl hs i HD.out ?_)
      go_ret2
      exact ⟨rfl,rfl⟩
open Go.RowKit Go.Maps
theorem did_any(d:Nat)(F:Nat→Prop)(q:DW)(st:Dk)(w:World)(h:DiskAt w d F q st)(ha : -1≤st.armed)(hb:st.armed≤9223372036854775807) :
    Calls Tryz.prog 136 #[(.pointer (some ⟨d,0,none⟩))] w fun e w'=>e=.returned (.tuple #[])∧DiskAt w' d F q st.did∧Keeps (fun k=>k=d) w w':=by
  have H:=Hd h
  obtain ⟨c0,c1,c2,c3,c4,c5,cf⟩:=cells6 h.blk
  clear c0 c1 c2 c3 c4 h
  by_cases h0:0<st.armed
  · have e:st.did = { st with armed:=st.armed - 1 }:=by unfold Dk.did;rw [if_pos h0]
    rw [e]
    clear e
    go_enter Tryz.func136,Tryz.ntmps136
    go_wp2
    go_end0
    exact ⟨rfl,H.out.armTo _,keeps_set _ _⟩
  · have e:st.did=st:=by unfold Dk.did;rw [if_neg h0]
    rw [e]
    clear e
    go_enter Tryz.func136,Tryz.ntmps136
    go_wp2
    go_end0
    exact ⟨rfl,H.out,Keeps.refl _ _⟩
theorem keeps_grown{w w':World}{b:Nat}(h:w.grownBy w' (some b)):Keeps (fun k=>k=b) w w':=⟨h.os,h.tape,h.output,h.size,fun k hk hn=>h.block k hk fun e=>hn (Option.some.inj e)⟩
theorem keeps_own{w w':World}{v:Value}(h:w.grownBy w' v.ownBlock):Keeps (fun k=>v.ownBlock=some k) w w':=⟨h.os,h.tape,h.output,h.size,fun k hk hn=>h.block k hk fun e=>hn e.symm⟩
theorem create1_any(b bf bt f:Nat)(g:Nat→Nat)(l:Dir)(s:Nm)(w:World)(h:DirAt w b g l)(hl:l.length≤64)(h1:BoxP w bf (g f))(h2:BoxS w bt s) :
    Calls Tryz.prog 134 #[.map (some b),(.pointer (some ⟨bf,0,none⟩)),(.pointer (some ⟨bt,0,none⟩))] w fun e w'=>e=.returned (.tuple #[])∧DirAt w' b g (dirPut l s f)∧Keeps (fun k=>k=b) w w':=by
  have H:=Hd h
  have HK:=Hd (key_str h2.2)
  obtain ⟨c1,-⟩:=cells1 h1
  obtain ⟨c2,-⟩:=cells1 h2.1
  clear h h1 h2
  go_enter Tryz.func134,Tryz.ntmps134
  go_wp2_with (at_mapUpdate;refine wpList_mapUpdate_own _ rfl _ _ _ 101 rfl 9 124 law_str Tryz.underlying101 ptrR b l.length (dirD g l) rfl H.out (by unfold maxLen;omega) _ _ (.string s) rfl rfl HK.out _ [] (ptrR_mk (g f)) ?_;intro w1 hown1 hg1)
  go_end0
  rw [←dirD_put] at hown1
  exact ⟨rfl,DirAt.of hown1,keeps_grown hg1⟩
theorem keeps_turned{w w':World}{b:Nat}(h:w.mapTurned w' b):Keeps (fun k=>k=b) w w':=keeps_grown h.grown
theorem rename1_any(b bs bf bt f:Nat)(g:Nat→Nat)(l:Dir)(s t:Nm)(w:World)(h:DirAt w b g l)(hl:l.length≤64)(h0:BoxS w bs s)(h1:BoxP w bf (g f))(h2:BoxS w bt t) :
    Calls Tryz.prog 138 #[.map (some b),(.pointer (some ⟨bs,0,none⟩)),(.pointer (some ⟨bf,0,none⟩)),(.pointer (some ⟨bt,0,none⟩))] w fun e w'=>e=.returned (.tuple #[])∧DirAt w' b g (dirPut (dirDel l s) t f)∧Keeps (fun k=>k=b) w w':=by
  have H:=Hd h
  have HK:=Hd (key_str h2.2)
  have HKS:=Hd (key_str h0.2)
  have HB:=Hd (And.intro h0 (And.intro h1 h2))
  obtain ⟨c0,-⟩:=cells1 h0.1
  clear h h1 h2 h0
  go_enter Tryz.func138,Tryz.ntmps138
  go_wp2_with (first|(at_delete;refine wpList_delete_own _ rfl _ _ 101 9 rfl 124 law_str Tryz.underlying101 ptrR b l.length (dirD g l) rfl H.out _ (.string s) rfl HKS.out ?_;intro w1 hown1 hg1;have hk1:=keeps_turned hg1;rw [←dirD_del] at hown1;have H1:=Hd (DirAt.of hown1);have hh:=hits_dir H.out;obtain ⟨c1,-⟩:=cells1 (keep_blk hk1 hh HB.out.2.1 (by simp [kindO]));obtain ⟨c2,-⟩:=cells1 (keep_blk hk1 hh HB.out.2.2.1 (by simp [kindO]));have HK1:=Hd hk1;clear hown1 hg1 hk1 hh)|(at_mapUpdate;refine wpList_mapUpdate_own _ rfl _ _ _ 101 rfl 9 124 law_str Tryz.underlying101 ptrR b (dirDel l s).length (dirD g (dirDel l s)) rfl H1.out (by have:=len_del l s;unfold maxLen;omega) _ _ (.string t) rfl rfl HK.out _ [] (ptrR_mk (g f)) ?_;intro w2 hown2 hg2))
  go_end0
  rw [←dirD_put] at hown2
  exact ⟨rfl,DirAt.of hown2,HK1.out.trans (keeps_grown hg2) (fun _ _ h=>h)⟩
theorem remove1_any(b bs:Nat)(g:Nat→Nat)(l:Dir)(s:Nm)(w:World)(h:DirAt w b g l)(h0:BoxS w bs s) :
    Calls Tryz.prog 137 #[.map (some b),(.pointer (some ⟨bs,0,none⟩))] w fun e w'=>e=.returned (.tuple #[])∧DirAt w' b g (dirDel l s)∧Keeps (fun k=>k=b) w w':=by
  have H:=Hd h
  have HKS:=Hd (key_str h0.2)
  obtain ⟨c0,-⟩:=cells1 h0.1
  clear h h0
  go_enter Tryz.func137,Tryz.ntmps137
  go_wp2_with (at_delete;refine wpList_delete_own _ rfl _ _ 101 9 rfl 124 law_str Tryz.underlying101 ptrR b l.length (dirD g l) rfl H.out _ (.string s) rfl HKS.out ?_;intro w1 hown1 hg1)
  go_end0
  rw [←dirD_del] at hown1
  exact ⟨rfl,DirAt.of hown1,keeps_turned hg1⟩
open Go.RowKit Go.Maps
theorem deedfn_info:(Tryz.prog.info? 134).map (fun i=>(i.zero,i.size,i.bytes))=some (some .nilFunc,1,8):=by kernel_rfl
theorem DiskAt.nowTo{w w':World}{d:Nat}{F:Nat→Prop}{q:DW}{st:Dk}(h:DiskAt w d F q st)(hk:Keeps (fun k=>k=q.bn) w w'){l:Dir}(hn:DirAt w' q.bn q.fb l):DiskAt w' d F q { st with now:=l }:=
  have hh:=hits_dir h.now
  ⟨keep_blk hk hh h.blk (by simp [kindO]),hn,h.last.at (hk.block _ h.last.lt fun e=>h.ne e.symm),h.ne,h.deeds.hits hk hh (by simp) (by simp) (by simp),h.files.hits hk hh (by simp) (by simp),h.fd,h.fn,h.fl⟩
theorem DiskAt.lastTo{w w':World}{d:Nat}{F:Nat→Prop}{q:DW}{st:Dk}(h:DiskAt w d F q st)(hk:Keeps (fun k=>k=q.bl) w w'){l:Dir}(hn:DirAt w' q.bl q.fb l):DiskAt w' d F q { st with lasting:=l }:=
  have hh:=hits_dir h.last
  ⟨keep_blk hk hh h.blk (by simp [kindO]),h.now.at (hk.block _ h.now.lt fun e=>h.ne e),hn,h.ne,h.deeds.hits hk hh (by simp) (by simp) (by simp),h.files.hits hk hh (by simp) (by simp),h.fd,h.fn,h.fl⟩
theorem DiskAt.pushTo{w w2:World}{d:Nat}{F:Nat→Prop}{q:DW}{st:Dk}(h:DiskAt w d F q st)(x:Deed)(v v':Value)(hv:DeedAt w F q.fb v x)
    (ho:w2.ownsRow 0 134 1 v' (st.deeds.length+1) (q.ds ++ [v])) (hk:Keeps (fun k=>q.vd.ownBlock=some k) w w2) (hloc:∀ g,v'.ownBlock=some g→F g∨w.heap.size≤g) :
    DiskAt (w2.setCell ⟨d,4,none⟩ v') d (fun k=>F k∨w.heap.size≤k) { q with vd:=v',ds:=q.ds ++ [v] } { st with deeds:=st.deeds ++ [x] }:=by
  have hh:=hits_row h.deeds.row
  have hb:=keep_blk hk hh h.blk (by simp [kindO])
  have hk2:Keeps (fun k=>k=d) w2 (w2.setCell ⟨d,4,none⟩ v'):=keeps_set _ _
  have hh2:=hits_one hb
  have hl:q.ds.length=st.deeds.length:=by simpa using h.deeds.row.1
  refine ⟨by simpa using blk_put hb 4 v',(h.now.hits hk hh (by simp)).hits hk2 hh2 (by simp [kindO]),(h.last.hits hk hh (by simp)).hits hk2 hh2 (by simp [kindO]),h.ne,⟨?_,fun i y hy=>?_,fun g hg=>hloc g hg⟩,((h.files.hits hk hh (by simp) (by simp)).hits hk2 hh2 (by simp [kindO]) (by simp [kindO])).mono (fun _ h=>.inl h),.inl h.fd,.inl h.fn,.inl h.fl⟩
  · have:=keep_row hk2 hh2 ho (by simp [kindO])
    exact ownsRow_cast this (by simp) rfl
  · have hA:∀ {v:Value} {y:Deed},DeedAt w F q.fb v y→DeedAt (w2.setCell ⟨d,4,none⟩ v') (fun k=>F k∨w.heap.size≤k) q.fb v y:=fun hd=>by
      refine hd.at (fun k hF ⟨a,t,hb,ht⟩=>?_) (fun _ h=>.inl h) (fun _=>rfl)
      have h1:w2.heap[k]? = some (.cells a t (0,0)):=keep_blk hk hh hb (by rcases ht with rfl|rfl <;> simp [kindO])
      exact (keep_blk hk2 hh2 h1 (by rcases ht with rfl|rfl <;> simp [kindO])).trans hb.symm
    by_cases hi:i<st.deeds.length
    · rw [List.getElem?_append_left hi] at hy
      obtain ⟨u,hu,hd⟩:=h.deeds.dd i y hy
      exact ⟨u,by show (q.ds ++ [v])[i]? = _;rw [List.getElem?_append_left (by omega)];exact hu,hA hd⟩
    · have hi':i=st.deeds.length:=by
        have:=(List.getElem?_eq_some_iff.1 hy).1
        simp at this
        omega
      subst hi'
      simp at hy
      subst hy
      exact ⟨v,by show (q.ds ++ [v])[st.deeds.length]? = _;rw [←hl];simp,hA hv⟩
theorem run_callFunc_body {P:Program} {f:FuncId} {fn:Func} (hf:P.funcs[f]? = some fn) (hname:(fn.name == "runtime.NumGoroutine")=false) (hb:fn.body.isNone=false) (args:Array Value) (w:World) :
    (callFunc f args).run P w=.ok (.enter f args) w:=by
  have h1:fn.name ≠ "runtime.NumGoroutine" := by simpa using hname
  cases hc:fn.body with
  | none=>rw [hc] at hb;cases hb
  | some c=>simp [callFunc,hf,h1,hc]
theorem DeedAt.hits{w w':World}{F G:Nat→Prop}{n:Nat}{g:Nat→Nat}{v:Value}{x:Deed}(h:DeedAt w F g v x)(hk:Keeps G w w')(hh:Hits w G n)(h2:9+1≠n)(h3:124+1≠n):DeedAt w' F g v x:=
  h.at (fun k _ ⟨a,t,hb,ht⟩=>(keep_blk hk hh hb (by rcases ht with rfl|rfl <;> assumption)).trans hb.symm) (fun _ h=>h) (fun _=>rfl)
theorem keeps_append{w w2:World}{o:Obj}{v:Value}(hg:(w.alloc o).grownBy w2 v.ownBlock):Keeps (fun k=>v.ownBlock=some k) w w2:=
  ⟨hg.os,hg.tape,hg.output,Nat.le_trans (by simp) hg.size,fun k hk hn=>(hg.block k (by simp;omega) (fun e=>hn e.symm)).trans (Below.heap_alloc w o k hk)⟩
theorem deed_any(_:Nat)(F:Nat→Prop)(q:DW)(_:Dk)(v:Value)(x:Deed)(b:Nat)(l:Dir)(w:World)(hn:DirAt w b q.fb l)(hl:l.length≤64)(hv:DeedAt w F q.fb v x) :
    ∃ f caps,v=.func (.func f) #[] caps∧(∀ as_ w,(callFunc f as_).run Tryz.prog w=.ok (.enter f as_) w)∧Calls Tryz.prog f (#[.map (some b)] ++ caps) w fun e w'=>e=.returned (.tuple #[])∧DirAt w' b q.fb (x.app l)∧Keeps (fun k=>k=b) w w':=by
  rcases hv with ⟨hk,bf,bt,rfl,_,_,h1,h2⟩|⟨hk,bs,bf,bt,rfl,_,_,_,h1,h2,h3⟩|⟨hk,bs,rfl,_,h1⟩
  · refine ⟨_,_,rfl,run_callFunc_body Tryz.func134 (by kernel_rfl) (by kernel_rfl),?_⟩
    rw [show x.app l=dirPut l x.to x.file from if_pos hk]
    exact create1_any b bf bt x.file q.fb l x.to w hn hl h1 h2
  · refine ⟨_,_,rfl,run_callFunc_body Tryz.func138 (by kernel_rfl) (by kernel_rfl),?_⟩
    rw [show x.app l=dirPut (dirDel l x.frm) x.to x.file by unfold Deed.app;rw [if_neg (by omega),if_pos hk]]
    exact rename1_any b bs bf bt x.file q.fb l x.frm x.to w hn hl h1 h2 h3
  · refine ⟨_,_,rfl,run_callFunc_body Tryz.func137 (by kernel_rfl) (by kernel_rfl),?_⟩
    rw [show x.app l=dirDel l x.frm by unfold Deed.app;rw [if_neg (by omega),if_neg (by omega)]]
    exact remove1_any b bs q.fb l x.frm w hn h1
theorem turn_any(d:Nat)(F:Nat→Prop)(q:DW)(st:Dk)(v:Value)(x:Deed)(K:Nat)(w:World)(h:DiskAt w d F q st)(hok:DkOk K st)(hK:K≤1099511627776)(hv:DeedAt w F q.fb v x) :
    Calls Tryz.prog 133 #[(.pointer (some ⟨d,0,none⟩)),v] w fun e w'=>e=.returned (.tuple #[])∧DiskTo w w' d F (st.turn x):=by
  have H:=Hd h
  have HV:=Hd hv
  have HOK:=Hd hok
  have hnd:st.deeds.length≤1099511627776:=Nat.le_trans hok.nd hK
  obtain ⟨c0,c1,c2,c3,c4,c5,cf⟩:=cells6 h.blk
  obtain ⟨i0,hi,hz0,hz1,hz2⟩:=info_parts deedfn_info
  obtain ⟨f,caps,hvf,hrun,hcall⟩:=deed_any d F q st v x q.bn st.now w h.now hok.lnow hv
  have HI:=Hd hi
  have HZ0:=Hd hz0
  have HZ1:=Hd hz1
  have HZ2:=Hd hz2
  have HC:=Hd hcall
  have HVF:=Hd hvf
  clear h hv hok hi hz0 hz1 hz2 c0 c1 c3 c4 c5 cf hcall
  subst hvf
  go_enter Tryz.func133,Tryz.ntmps133
  go_wp2_with fail
  refine HC.out.mono ?_
  rintro e w1 ⟨rfl,hn1,hk1⟩
  have HD1:=Hd (H.out.nowTo hk1 hn1)
  have HK1:=Hd hk1
  obtain ⟨c0,c1,c2',c3,c4,c5,cf⟩:=cells6 HD1.out.blk
  clear hn1 hk1 c0 c1 c2' c3 c5
  have hoc:(Value.func (.func f) #[] caps).oneCell'=true:=rfl
  obtain ⟨vd,hvd⟩:∃ vd,vd=q.vd:=⟨_,rfl⟩
  rw [←hvd] at c4
  have HVD:=Hd hvd
  have HRW:=Hd (show w1.ownsRow 0 134 1 vd st.deeds.length q.ds by rw [hvd];exact HD1.out.deeds.row)
  clear hvd
  go_wp2_with (at_builtin;refine wpList_append_own_at _ rfl _ _ 102 rfl 0 134 i0 .nilFunc 1 8 Tryz.underlying102 HI.out HZ0.out HZ1.out HZ2.out rfl (by decide) vd st.deeds.length q.ds rfl (HRW.out.alloc _) ⟨w1.heap.size,0,none⟩ 1 1 [.func (.func f) #[] caps] rfl rfl (cell_one_new _ _ _) (by simpa using hoc) (by unfold maxLen;omega) (by omega) (Nat.zero_le _) ?_;intro v2 w2 hown2 hg2 _ hloc2;obtain ⟨a2,k2,rfl⟩:=ownsRow_len hown2;have hkk:=keeps_append hg2;have HO2:=Hd hown2;have HL2:=Hd hloc2;obtain ⟨d0,d1,d2,d3,d4,d5,df⟩:=cells6 (keep_blk hkk (hits_row HRW.out) HD1.out.blk (by simp [kindO]));clear d0 d1 d2 d3 d5;have HKK:=Hd hkk;clear hown2 hloc2 hg2 hkk)
  have hloc:∀ g,(Value.slice a2 (st.deeds.length+1) k2).ownBlock=some g→F g∨w1.heap.size≤g:=fun g hg=>by
    rcases HL2.out with e|e
    · rw [hg,HVD.out] at e
      exact .inl (H.out.deeds.fvd g e.symm)
    · rw [hg] at e
      simp at e
      omega
  have h4:=HD1.out.pushTo x _ _ (HV.out.hits HK1.out (hits_dir H.out.now) (by simp) (by simp)) HO2.out (by rw [←HVD.out];exact HKK.out) hloc
  have HK4:=Hd (show Keeps F w (w2.setCell ⟨d,4,none⟩ (.slice a2 (st.deeds.length+1) k2)) from
    ((HK1.out.mono (G:=F) fun _ _ e=>e ▸ H.out.fn).trans (HKK.out.mono (G:=F) fun k _ e=>H.out.deeds.fvd k (by rw [←HVD.out];exact e)) fun _ _ h=>h).setCell _ _ fun _=>H.out.fd)
  have H4:=Hd h4
  have hz1:=HK1.out.size
  clear h4 hloc
  go_wp2_with fail
  refine (did_any d _ _ _ _ H4.out HOK.out.armed.1 HOK.out.armed.2).mono ?_
  rintro e w5 ⟨rfl,h5,hk5⟩
  have H5:=Hd h5
  have HK5:=Hd hk5
  clear h5 hk5
  go_wp2_with fail
  go_end0
  exact ⟨rfl,H5.out.to (HK4.out.trans HK5.out fun _ _ e=>e ▸ H.out.fd) (fun k hk=>hk.imp id (Nat.le_trans hz1))⟩
open Go.RowKit Go.Maps
theorem take_all_snoc(s:Nm)(k:Nat)(hk:k<s.length):(s.take (k+1)).all okc=((s.take k).all okc && okc s[k]):=by
  rw [List.take_succ_eq_append_getElem hk,List.all_append]
  simp
theorem all_false(s:Nm)(k:Nat)(hk:k<s.length)(h:okc s[k]=false):s.all okc=false:=by
  rw [List.all_eq_false]
  exact ⟨s[k],List.getElem_mem hk,by rw [h];simp⟩
theorem okc_of(c:UInt8)(x:Nat)(hx:c.toNat=x):okc c=((decide (97≤x) && decide (x≤122)) || (decide (48≤x) && decide (x≤57)) || x == 46):=by
  unfold okc
  rw [hx]
theorem named_any(s:Nm)(w:World)(hs:s.length≤maxLen) :
    Calls Tryz.prog 132 #[.string ⟨s.toArray⟩] w fun e w'=>e=.returned (.bool (namedB s))∧w=w':=by
  unfold maxLen at hs
  by_cases h0:s=[]
  · subst h0
    go_enter Tryz.func132,Tryz.ntmps132
    go_wp2
    go_ret
    exact ⟨rfl,rfl⟩
  have he:s.isEmpty=false:=by cases s <;> simp_all
  have he2:s.toArray.isEmpty=false:=by simpa using he
  by_cases h1:s.length≤32
  · have hd:decide ((32:Int)<(s.length:Int))=false:=by simp;omega
    have HN:=Hd (show namedB s=s.all okc by unfold namedB;rw [he];simp [h1])
    have H0:=Hd h0
    clear h0
    go_enter Tryz.func132,Tryz.ntmps132
    go_wp2
    go_loop [14] (fun i=>∃ k:Nat,k≤s.length∧i=.int .i64 k∧(s.take k).all okc=true) (fun i=>s.length - (intOf i).toNat)
    case atStart=>exact ⟨0,Nat.zero_le _,rfl,rfl⟩
    case round=>
      obtain ⟨k,hk,rfl,ha⟩:=hrel
      have HA:=Hd ha
      clear ha
      by_cases hlt:k<s.length
      · have hlt':(k:Int)<(s.length:Int):=by omega
        have hk0:(0:Int)≤(k:Int):=by omega
        obtain ⟨x,hx⟩:∃ x:Nat,s[k].toNat=x:=⟨_,rfl⟩
        have hx2:x<256:=by rw [←hx];exact s[k].toNat_lt
        have HO:=Hd (okc_of _ x hx)
        have hb:∀ h:k<(ByteArray.mk s.toArray).size,(ByteArray.mk s.toArray)[k]'h=s[k]:=fun _=>rfl
        go_wp2_with fail
        all_goals first
          | (go_ret
             exact ⟨by rw [HN.out,all_false s k hlt (by rw [HO.out];have hz:((x:Int) == 46)=false:=(by assumption);simp at hz ⊢;omega)];rfl,rfl⟩)
          | (go_round
             case rel=>exact ⟨k+1,by omega,by go_num,by rw [take_all_snoc s k hlt,HA.out,HO.out];first|(simp;omega)|(have hz:((x:Int) == 46)=true:=(by assumption);simp at hz ⊢;omega)⟩
             case measure=>simp [intOf];omega)
      · go_wp2
        go_ret
        exact ⟨by rw [HN.out,←HA.out,List.take_of_length_le (by omega)];rfl,rfl⟩
  · have hd:decide ((32:Int)<(s.length:Int))=true:=by simp;omega
    have HN:=Hd (show namedB s=false by unfold namedB;simp [h1])
    clear h0
    go_enter Tryz.func132,Tryz.ntmps132
    go_wp2
    go_ret
    exact ⟨by rw [HN.out];rfl,rfl⟩
end Go.Proofs.YtfpjfoajonbndaaGreatDoor
