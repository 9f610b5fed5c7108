import Derived.Test.YtfpjfoajonbndaaGreatDoorChIx5
import Derived.Test.YtfpjfoajonbndaaGreatDoorChAppReads
import Derived.Test.YtfpjfoajonbndaaGreatDoorChZeros
import Derived.Laws.CopyRow
import Derived.Lib.Overlaps
import Derived.Test.YtfpjfoajonbndaaGreatDoorCh9
namespace Go.Proofs.YtfpjfoajonbndaaGreatDoor
set_option maxHeartbeats 8000000
set_option maxRecDepth 100000
open Go.RowKit
open Go.RowKit
section
variable {P:Program}
theorem run_copy_rowN(w:World)(dT sT ty elem:TypeId)(sz g o dLen dCap:Nat)(a:Addr)(sLen sCap:Nat)(cur:Array Value)(t:TypeId)(cs:List Value)(n:Nat)
  (hu:P.underlying dT=some (.slice elem)) (hs:(P.info? elem).map (·.size)=some sz)
  (hg:w.heap[g]? = some (.cells cur t (0,0))) (hn:n=Nat.min sLen dLen) (hcl:cs.length=n * sz)
  (hsrc:∀ j v,cs[j]? = some v→w.cell? (a.add j)=some v) (hfit:o+cs.length≤cur.size) (h1:∀ v∈cs,v.oneCell'=true) :
  (Builtin.copy_ #[dT,sT] ty #[.slice (some ⟨g,o,none⟩) dLen dCap,.slice (some a) sLen sCap]).run P w =
   .ok (goInt n) (w.setRow g (cur.toList.take o ++ cs ++ cur.toList.drop (o+cs.length)).toArray):=by
 have hl:=run_loadCells_list (P:=P) w a cs hsrc
 have hst:=run_storeCells_at P g o t cs 0 cur w hg (by simpa using hfit) h1
 cases hq:P.info? elem with
 | none=>simp [hq] at hs
 | some i=>
  have hi:i.size=sz:=by simpa [hq] using hs
  simp [Builtin.copy_,run_underlying hu,Builtin.lenOf,Builtin.firstCells,sizeOf,typeInfo,hq,hi,←hn,←hcl,hl,hst]
theorem wp_copy_rowN(w:World){o:Oper}{a:Act}{K:Act→World→Prop}{Q:Exit→Act→World→Prop}(d s:Operand)(t t':TypeId)
  (ho:o.op=.call { callee:=.builtin .copy,args:=#[d,s],argTypes:=#[t,t'] }) (elem:TypeId) (sz g off dLen dCap:Nat) (x:Addr) (sLen sCap:Nat) (cur:Array Value) (T:TypeId) (cs:List Value) (n:Nat)
  (hu:P.underlying t=some (.slice elem)) (hs:(P.info? elem).map (·.size)=some sz) (hd:a.eval d=.slice (some ⟨g,off,none⟩) dLen dCap) (hx:a.eval s=.slice (some x) sLen sCap)
  (hg:w.heap[g]? = some (.cells cur T (0,0))) (hn:n=Nat.min sLen dLen) (hcl:cs.length=n * sz)
  (hsrc:∀ j v,cs[j]? = some v→w.cell? (x.add j)=some v) (hfit:off+cs.length≤cur.size) (h1:∀ v∈cs,v.oneCell'=true)
  (h:∀ w',w'.heap[g]? = some (.cells (cur.toList.take off ++ cs ++ cur.toList.drop (off+cs.length)).toArray T (0,0))→w.grownBy w' (some g)→w'.heap.size=w.heap.size→K (a.put o.dst (goInt n)) w'):o.wp P a w K Q:=by
 have hr:=run_copy_rowN (P:=P) w t t' o.type elem sz g off dLen dCap x sLen sCap cur T cs n hu hs hg hn hcl hsrc hfit h1
 unfold Oper.wp execOp
 simp only [ho,resolve,invoke,builtin,Sem.run_bind,Sem.run_pure,Result.andThen_ok,List.map_toArray,List.map_cons,List.map_nil,hd,hx,hr]
 exact h _ (setRow_heap w g cur _ T _ hg) ⟨rfl,rfl,rfl,by simp,fun j _ hj=>setRow_other w g j _ (fun e=>hj (by rw [e]))⟩ (by simp)
theorem wpList_copy_rowN(w:World){ops:Array Oper}{rest:List Oper}{o:Oper}{a:Act}{Q:Exit→Act→World→Prop}(hgd:o.guard=none)(d s:Operand)(t t':TypeId)
  (ho:o.op=.call { callee:=.builtin .copy,args:=#[d,s],argTypes:=#[t,t'] }) (elem:TypeId) (sz g off dLen dCap:Nat) (x:Addr) (sLen sCap:Nat) (cur:Array Value) (T:TypeId) (cs:List Value) (n:Nat)
  (hu:P.underlying t=some (.slice elem)) (hs:(P.info? elem).map (·.size)=some sz) (hd:a.eval d=.slice (some ⟨g,off,none⟩) dLen dCap) (hx:a.eval s=.slice (some x) sLen sCap)
  (hg:w.heap[g]? = some (.cells cur T (0,0))) (hn:n=Nat.min sLen dLen) (hcl:cs.length=n * sz)
  (hsrc:∀ j v,cs[j]? = some v→w.cell? (x.add j)=some v) (hfit:off+cs.length≤cur.size) (h1:∀ v∈cs,v.oneCell'=true)
  (h:∀ w',w'.heap[g]? = some (.cells (cur.toList.take off ++ cs ++ cur.toList.drop (off+cs.length)).toArray T (0,0))→w.grownBy w' (some g)→w'.heap.size=w.heap.size→wpList P ops Q rest (a.put o.dst (goInt n)) w'):wpList P ops Q (o :: rest) a w:=
 wpList_plain hgd fun _ hK=>wp_copy_rowN w d s t t' ho elem sz g off dLen dCap x sLen sCap cur T cs n hu hs hd hx hg hn hcl hsrc hfit h1 fun w' h2 h3 h4=>hK _ _ (h w' h2 h3 h4)
end
theorem ins_in(cur xs ys:List Value)(k m:Nat)(hx:cur.take xs.length=xs)(hk:k≤xs.length)(hy:ys.length=m)(hfit:xs.length+m≤cur.length) :
  ∀ C1,C1=cur.take (k+m) ++ xs.drop k ++ cur.drop (k+m+(xs.drop k).length)→∀ C2,C2=C1.take k ++ ys ++ C1.drop (k+ys.length)→C1.length=cur.length∧C2.length=cur.length∧C2.take (xs.length+m)=xs.take k ++ ys ++ xs.drop k:=by
 rintro C1 rfl C2 rfl
 have hck:cur.take k=xs.take k:=by
  have:=congrArg (List.take k) hx
  rwa [List.take_take,Nat.min_eq_left hk] at this
 have e1:(cur.take (k+m) ++ xs.drop k ++ cur.drop (k+m+(xs.drop k).length)).take k=xs.take k:=by
  rw [List.append_assoc,List.take_append_of_le_length (by rw [List.length_take];omega),List.take_take,Nat.min_eq_left (by omega),hck]
 have e2:(cur.take (k+m) ++ xs.drop k ++ cur.drop (k+m+(xs.drop k).length)).drop (k+ys.length)=xs.drop k ++ cur.drop (k+m+(xs.drop k).length):=by
  rw [List.append_assoc,hy]
  exact List.drop_left' (by rw [List.length_take];omega)
 have hl:(cur.take (k+m) ++ xs.drop k ++ cur.drop (k+m+(xs.drop k).length)).length=cur.length:=by
  simp only [List.length_append,List.length_take,List.length_drop]
  omega
 refine ⟨hl,?_,?_⟩
 ·rw [e1,e2]
  simp only [List.length_append,List.length_take,List.length_drop]
  omega
 ·rw [e1,e2,←List.append_assoc]
  exact List.take_left' (by simp only [List.length_append,List.length_take,List.length_drop];omega)
theorem ins_new(cur xs ys:List Value)(k m:Nat)(hx:cur.take k=xs.take k)(hk:k≤xs.length)(hy:ys.length=m)(hfit:xs.length+m≤cur.length) :
  ∀ C1,C1=cur.take k ++ ys ++ cur.drop (k+ys.length)→∀ C2,C2=C1.take (k+m) ++ xs.drop k ++ C1.drop (k+m+(xs.drop k).length)→C1.length=cur.length∧C2.length=cur.length∧C2.take (xs.length+m)=xs.take k ++ ys ++ xs.drop k:=by
 rintro C1 rfl C2 rfl
 have hl:(cur.take k ++ ys ++ cur.drop (k+ys.length)).length=cur.length:=by
  simp only [List.length_append,List.length_take,List.length_drop]
  omega
 have e1:(cur.take k ++ ys ++ cur.drop (k+ys.length)).take (k+m)=xs.take k ++ ys:=by
  rw [hx]
  exact List.take_left' (by simp only [List.length_append,List.length_take];omega)
 refine ⟨hl,?_,?_⟩
 ·simp only [List.length_append,List.length_take,List.length_drop]
  omega
 ·rw [e1]
  exact List.take_left' (by simp only [List.length_append,List.length_take,List.length_drop];omega)
theorem posT_info:(Tryz.prog.info? 152).map (fun i=>(i.zero,i.size,i.bytes))=some (some (.agg #[.int .u64 0,.int .i64 0,.int .i64 0,.int .u32 0,.bool false]),5,32):=by kernel_rfl
theorem psC_one1(p:Ps):∀ u∈psC p,u.oneCell'=true:=by
 intro u hu
 simp only [psC,List.mem_cons,List.not_mem_nil,or_false] at hu
 rcases hu with rfl|rfl|rfl|rfl|rfl <;> rfl
theorem reads_one{w:World}{vb:Nat}{p:Ps}(hv:w.heap[vb]? = some (.cells (psC p).toArray 152 (0,0))):Reads w 5 (.slice (some ⟨vb,0,none⟩) 1 1) 1 (psC p):=by
 refine ⟨rfl,.inr ⟨⟨vb,0,none⟩,1,rfl,by unfold maxLen;omega,fun j u hu=>?_⟩⟩
 rw [Addr.add_lit,Nat.zero_add,cell_of_row w vb j _ _ _ hv]
 simpa using hu
def InsOut (w:World) (base:Nat) (v:Value) (n i:Nat) (l:List Ps) (p:Ps) (e:Ending) (w':World):Prop:=
 ∃ v',e=.returned v'∧w'.ownsRow base 152 5 v' (n+1) ((l.take i ++ p :: l.drop i).flatMap psC)∧w.grownBy w' v.ownBlock∧(v'.ownBlock=v.ownBlock∨∃ k,w.heap.size≤k∧v'.ownBlock=some k)
theorem insert_end(base vb n:Nat)(v:Value)(l:List Ps)(p:Ps)(w:World)(hn:n=l.length)(hl:n≤4096)(hr:w.ownsRow base 152 5 v n (l.flatMap psC))(hb:base≤w.heap.size)
  (hv:w.heap[vb]? = some (.cells (psC p).toArray 152 (0,0))) :
  Calls Tryz.prog 140 #[v,.int .i64 n,.slice (some ⟨vb,0,none⟩) 1 1] w (InsOut w base v n n l p):=by
 obtain ⟨i0,hi,hz0,hz1,hz2⟩:=info_parts posT_info
 have HI:=Hd hi
 have HZ0:=Hd hz0
 have HZ1:=Hd hz1
 have HZ2:=Hd hz2
 have HN:=Hd hn
 have HR:=Hd hr
 have HV:=Hd (reads_one hv)
 have HBS:=Hd hb
 have HP:=Hd (psC_one1 p)
 obtain ⟨a,c,rfl,hnc⟩:=slice_of hr
 have hcc:n=0∨∃ g,a=some ⟨g,0,none⟩:=by
  rcases hr.2 with ⟨_,h0⟩|⟨g,cap,cur,e,_⟩
  ·exact .inl h0
  ·simp only [Value.slice.injEq] at e
   exact .inr ⟨g,e.1⟩
 clear hi hz0 hz1 hz2 hn hr hv hb hcc
 obtain ⟨O,hO⟩:∃ O,O=(Value.slice a n c).ownBlock:=⟨_,rfl⟩
 unfold InsOut
 rw [←hO]
 have HO:=Hd hO
 clear hO
 go_enter Tryz.func140,Tryz.ntmps140
 go_wp2_with (at_builtin;refine wpList_append_reads _ rfl _ _ 61 rfl base 152 i0 (.agg #[.int .u64 0,.int .i64 0,.int .i64 0,.int .u32 0,.bool false]) 5 32 Tryz.underlying61 HI.out HZ0.out HZ1.out HZ2.out rfl (by decide) (.slice a n c) n (l.flatMap psC) rfl HR.out (.slice (some ⟨vb,0,none⟩) 1 1) 1 (psC p) rfl HV.out HP.out (by unfold maxLen;omega) (by omega) HBS.out ?_;intro v7 w7 ho7 hg7 hat7;rw [←HO.out] at hg7 hat7;have HO7:=Hd ho7;have HG7:=Hd hg7;have HA7:=Hd hat7;clear ho7 hg7 hat7)
 all_goals
  go_ret
  refine ⟨v7,rfl,ownsRow_cast HO7.out rfl ?_,HG7.out,HA7.out.imp id fun h=>⟨_,Nat.le_refl _,h⟩⟩
  rw [List.take_of_length_le (by have:=HN.out;omega),List.drop_of_length_le (by have:=HN.out;omega)]
  simp
theorem flat_len(l:List Ps)(i:Nat)(h:i≤l.length):((l.take i).flatMap psC).length=i * 5:=by
 rw [length_flatMap_row psC 5 psC_len,List.length_take,Nat.min_eq_left h]
theorem flat_split(l:List Ps)(i:Nat):l.flatMap psC=(l.take i).flatMap psC ++ (l.drop i).flatMap psC:=by
 rw [←List.flatMap_append,List.take_append_drop]
theorem flat_take(l:List Ps)(i:Nat)(h:i≤l.length):(l.take i).flatMap psC=(l.flatMap psC).take (i * 5):=by
 rw [flat_split l i]
 exact (List.take_left' (flat_len l i h)).symm
theorem flat_drop(l:List Ps)(i:Nat)(h:i≤l.length):(l.drop i).flatMap psC=(l.flatMap psC).drop (i * 5):=by
 rw [flat_split l i]
 exact (List.drop_left' (flat_len l i h)).symm
theorem grown_trans{a b c:World}{r:Option Nat}(h:a.grownBy b r)(k:b.grownBy c r):a.grownBy c r:=
 ⟨k.os.trans h.os,k.tape.trans h.tape,k.output.trans h.output,Nat.le_trans h.size k.size,fun j hj hn=>(k.block j (Nat.lt_of_lt_of_le hj h.size) hn).trans (h.block j hj hn)⟩
theorem insert_room(base vb g c n i:Nat)(l:List Ps)(p:Ps)(w:World)(hn:n=l.length)(hl:n≤4096)(hi:i<n)(hc:n+1≤c)(hr:w.ownsRow base 152 5 (.slice (some ⟨g,0,none⟩) n c) n (l.flatMap psC))(_:base≤w.heap.size)(hne:vb≠g)
  (hv:w.heap[vb]? = some (.cells (psC p).toArray 152 (0,0))) :
  Calls Tryz.prog 140 #[.slice (some ⟨g,0,none⟩) n c,.int .i64 i,.slice (some ⟨vb,0,none⟩) 1 1] w (InsOut w base (.slice (some ⟨g,0,none⟩) n c) n i l p):=by
 obtain ⟨cur,hg,hcm,hsz,htk,hgb⟩:∃ cur,w.heap[g]? = some (.cells cur 152 (0,0))∧c≤maxLen∧cur.size=c * 5∧cur.toList.take (n * 5)=l.flatMap psC∧base≤g:=by
  rcases hr.2 with ⟨e,_⟩|⟨g',cap,cur,e,h1,h2,h3,h4,h5,h6⟩
  ·cases e
  ·simp only [Value.slice.injEq,Option.some.injEq,Addr.mk.injEq] at e
   obtain ⟨⟨rfl,_,_⟩,_,rfl⟩:=e
   exact ⟨cur,h2,h4,h5,h6,h1⟩
 have hov:∀ o lb cb,(callFunc 170 #[.slice (some ⟨vb,0,none⟩) 1 1,.slice (some ⟨g,o,none⟩) lb cb]).run Tryz.prog w=.ok (.value (.bool false)) w:=fun o lb cb=>by
  rw [run_callFunc_extern Tryz.func170 (by kernel_rfl) (by kernel_rfl) (by kernel_rfl) (e:=Extern.SlicesOverlaps.overlaps #[61,61] #[4]) (by kernel_rfl),
   Lib.run_overlaps_apart w 61 4 152 Tryz.underlying61 5 (fun W=>by kernel_rfl) ⟨vb,0,none⟩ ⟨g,o,none⟩ 1 1 lb cb hne 152 152 5 cur.size (by simp [World.shape?,hv,psC]) (by simp [World.shape?,hg]) (by omega) (frozen_of_row w vb 0 _ _ hv) (frozen_of_row w vb 5 _ _ hv)]
  rfl
 unfold maxLen at hcm
 have HG:=Hd hg
 have HV:=Hd hv
 have HTK:=Hd htk
 have HSZ:=Hd hsz
 have HGB:=Hd hgb
 have HN:=Hd hn
 have HR:=Hd hr
 have HXL:=Hd (show (l.flatMap psC).length=n * 5 by rw [length_flatMap_row psC 5 psC_len,←hn])
 have HCL:=Hd (show ((l.flatMap psC).drop (i * 5)).length=(n - i) * 5 by rw [List.length_drop,HXL.out,Nat.sub_mul])
 have HSRC:=Hd (show ∀ j u,((l.flatMap psC).drop (i * 5))[j]? = some u→w.cell? ((⟨g,i * 5,none⟩:Addr).add j)=some u from fun j u hu=>by
  have:=hr.cells (g:=g) rfl (i * 5+j) u (by rwa [List.getElem?_drop] at hu)
  rw [Addr.add_lit,Nat.zero_add] at this
  rw [Addr.add_lit]
  exact this)
 have HONE:=Hd (show ∀ u∈(l.flatMap psC).drop (i * 5),u.oneCell'=true from fun u hu=>psC_one l u (List.mem_of_mem_drop hu))
 have HINF:=Hd (show (Tryz.prog.info? 152).map (·.size)=some 5 by kernel_rfl)
 have hw1:IntKind.i64.wrap ((i:Int)+1)=(i:Int)+1:=by rw [IntKind.wrap_i64];omega
 have htn:((i:Int)+1).toNat=i+1:=by omega
 have hb1:(0:Int)≤(i:Int)+1:=by omega
 have hb2:¬ (c=i+1):=by omega
 have hb3:(i:Int)+1≤(n:Int)+1:=by omega
 have hb4:¬ (c=i):=by omega
 have hb5:(i:Int)≤(n:Int)+1:=by omega
 clear hg hv htk hsz hgb hn hr
 go_enter Tryz.func140,Tryz.ntmps140
 go_wp2_with (simp only [hov])
 obtain ⟨SS,HSD⟩:∃ SS:World→Prop,Hid (SS=fun w'=>w'.heap[g]? = some (.cells cur 152 (0,0))):=⟨_,Hd rfl⟩
 refine wp_region_mask0 SS [] [0,0,0,6,15,0,0,96,255] (.op 0 0 (.op 1 0 (.op 2 0 (.op 3 0 (.op 4 0 (.op 5 0 (.op 6 0 (.op 7 0 (.op 8 1 .nil))))))))) (by kernel_rfl) (by kernel_rfl) rfl (by kernel_rfl) (by kernel_rfl) ?_ ?_
 (focus (rw [HSD.out];exact HG.out));(iterate 8 refine stepM0 rfl rfl fun K hK=>?_;go_simp;refine hK _ ?_;clear hK K);refine stepM1 rfl rfl (by kernel_rfl) fun K hK=>?_
 (refine wp_copy_rowN _ _ _ 61 61 rfl 152 5 g ((i+1) * 5) _ _ ⟨g,i * 5,none⟩ _ _ cur 152 ((l.flatMap psC).drop (i * 5)) (n - i) Tryz.underlying61 HINF.out rfl rfl HG.out (by simp only [Nat.min_def];split <;> omega) HCL.out HSRC.out (by rw [HCL.out,HSZ.out];omega) HONE.out ?_;intro w1 hg1 hgr1 hz1;have HG1:=Hd hg1;have HGR1:=Hd hgr1;have HZ1:=Hd hz1;clear hg1 hgr1 hz1;go_upto_region 16 with fail)
 try refine stepMnil0 ?_
 clear HSD SS
 obtain ⟨C1,hC1⟩:∃ C1:List Value,C1=cur.toList.take ((i+1) * 5) ++ (l.flatMap psC).drop (i * 5) ++ cur.toList.drop ((i+1) * 5+((l.flatMap psC).drop (i * 5)).length):=⟨_,rfl⟩
 have hg1:=HG1.out
 rw [←hC1] at hg1
 have hC:=ins_in cur.toList (l.flatMap psC) (psC p) (i * 5) 5 (by rw [HXL.out];exact HTK.out) (by rw [HXL.out];omega) rfl (by rw [HXL.out,Array.length_toList,HSZ.out];omega) C1 (by rw [hC1,Nat.add_mul,Nat.one_mul])
 have hC1l:=(hC _ rfl).1
 have HCC:=Hd hC
 have HC1L:=Hd (show C1.toArray.size=c * 5 by rw [List.size_toArray,hC1l,Array.length_toList];exact HSZ.out)
 have HVL:=Hd (blk_lt HV.out)
 have HV1:=Hd ((HGR1.out.block vb (blk_lt HV.out) (by simp;omega)).trans HV.out)
 have HG1':=Hd hg1
 have HSRC1:=Hd (show ∀ j u,(psC p)[j]? = some u→w1.cell? ((⟨vb,0,none⟩:Addr).add j)=some u from fun j u hu=>by
  rw [Addr.add_lit,Nat.zero_add,cell_of_row w1 vb j _ _ _ HV1.out]
  simpa using hu)
 clear hC1 hg1 hC hC1l
 go_wp2_with (refine wpList_copy_rowN _ rfl _ _ 61 61 rfl 152 5 g (i * 5) _ _ ⟨vb,0,none⟩ _ _ C1.toArray 152 (psC p) 1 Tryz.underlying61 HINF.out rfl rfl HG1'.out (by simp only [Nat.min_def];split <;> omega) rfl HSRC1.out (by rw [HC1L.out,psC_len];omega) (psC_one1 p) ?_;intro w2 hg2 hgr2 hz2;have HG2:=Hd hg2;have HGR2:=Hd hgr2;clear hg2 hgr2 hz2)
 go_ret
 obtain ⟨h1,h2,h3⟩:=HCC.out _ rfl
 refine ⟨_,rfl,⟨?_,.inr ⟨g,c,_,rfl,HGB.out,HG2.out,hc,by unfold maxLen;exact hcm,?_,?_⟩⟩,grown_trans (⟨HGR1.out.os,HGR1.out.tape,HGR1.out.output,HGR1.out.size,HGR1.out.block⟩:w.grownBy w1 (some g)) HGR2.out,.inl rfl⟩
 ·rw [length_flatMap_row psC 5 psC_len]
  simp
  have:=HN.out
  omega
 ·rw [List.size_toArray]
  rw [←HSZ.out,←Array.length_toList,←h2]
 ·rw [HXL.out] at h3
  rw [List.flatMap_append,List.flatMap_cons]
  show List.take ((n+1) * 5) (C1.take (i * 5) ++ psC p ++ C1.drop (i * 5+(psC p).length))=_
  rw [Nat.add_mul,Nat.one_mul,h3]
  rw [flat_take l i (by have:=HN.out;omega),flat_drop l i (by have:=HN.out;omega),List.append_assoc]
open Go.RowKit Go.Lib
theorem wpList_append_eq{P:Program}{w:World}{ops:Array Oper}{rest:List Oper}{o:Oper}{a:Act}{Q:Exit→Act→World→Prop}(hgd:o.guard=none)(s x:Operand)(t t':TypeId)
  (ho:o.op=.call { callee:=.builtin .append,args:=#[s,x],argTypes:=#[t,t'] }) (v u:Value) (hs:a.eval s=v) (hx:a.eval x=u) {v':Value} {w':World}
  (hr:(Builtin.append_ #[t,t'] o.type #[v,u]).run P w=.ok v' w') (h:wpList P ops Q rest (a.put o.dst v') w'):wpList P ops Q (o :: rest) a w:=
 wpList_plain hgd fun K hK=>by
  unfold Oper.wp execOp
  simp only [ho,resolve,invoke,builtin,Sem.run_bind,Sem.run_pure,Result.andThen_ok,List.map_toArray,List.map_cons,List.map_nil,hs,hx,hr]
  exact hK _ _ h
theorem insert_grow(base vb g n i:Nat)(l:List Ps)(p:Ps)(w:World)(hn:n=l.length)(hl:n≤4096)(hi:i<n)(hr:w.ownsRow base 152 5 (.slice (some ⟨g,0,none⟩) n n) n (l.flatMap psC))(hb:base≤w.heap.size)(_:vb≠g)
  (hv:w.heap[vb]? = some (.cells (psC p).toArray 152 (0,0))) :
  Calls Tryz.prog 140 #[.slice (some ⟨g,0,none⟩) n n,.int .i64 i,.slice (some ⟨vb,0,none⟩) 1 1] w (InsOut w base (.slice (some ⟨g,0,none⟩) n n) n i l p):=by
 obtain ⟨i0,hi0,hz0,hz1,hz2⟩:=info_parts posT_info
 obtain ⟨k,hk⟩:∃ k,k=n+1 - i:=⟨_,rfl⟩
 have hik:i+k=n+1:=by omega
 have hXL:(l.flatMap psC).length=n * 5:=by rw [length_flatMap_row psC 5 psC_len,←hn]
 have hgh:=(hr.lt g rfl).2
 have holds:∀ j u,((l.take i).flatMap psC)[j]? = some u→w.drew.cell? ((⟨g,0,none⟩:Addr).add j)=some u:=fun j u hu=>by
  rw [flat_take l i (by omega),List.getElem?_take] at hu
  split at hu
  ·exact hr.cells (g:=g) rfl j u hu
  ·cases hu
 have hold:=run_firstCells_some (P:=Tryz.prog) w.drew 5 i ⟨g,0,none⟩ i n ((l.take i).flatMap psC) (flat_len l i (by omega)) holds
 rw [←hz1] at hold
 have hrun:=run_append_grow_zeros (P:=Tryz.prog) w 61 3 61 152 i0 _ .i64 .i64 Tryz.underlying61 Tryz.underlying3 hi0 hz0 (some ⟨g,0,none⟩) i n ((l.take i).flatMap psC) hold k (by omega) (by omega) (by omega) (by omega) (by rw [hz2];omega) (growslice_fits (by omega) (by rw [hz2];omega))
 rw [hik] at hrun
 obtain ⟨cap,hcap⟩:∃ cap,cap=grownCap w (n+1) n 152:=⟨_,rfl⟩
 have hge:=grownCap_ge w (n+1) n 152
 have hcm:=grownCap_le_maxLen w (n+1) n 152 (by unfold maxLen;omega)
 rw [←hcap] at hrun hge hcm
 obtain ⟨C0,hC0⟩:∃ C0,C0=((l.take i).flatMap psC).toArray ++ Builtin.zeroCells (Value.agg #[.int .u64 0,.int .i64 0,.int .i64 0,.int .u32 0,.bool false]).cells k ++ Builtin.zeroCells (Value.agg #[.int .u64 0,.int .i64 0,.int .i64 0,.int .u32 0,.bool false]).cells (cap - (n+1)):=⟨_,rfl⟩
 rw [←hC0] at hrun
 have hC0s:C0.size=cap * 5:=by
  rw [hC0]
  simp only [Array.size_append,List.size_toArray,size_zeroCells,flat_len l i (by omega)]
  show i * 5+k * 5+(cap - (n+1)) * 5=cap * 5
  omega
 have hC0t:C0.toList.take (i * 5)=(l.flatMap psC).take (i * 5):=by
  rw [hC0,←flat_take l i (by omega)]
  simp only [Array.toList_append,List.append_assoc]
  exact List.take_left' (flat_len l i (by omega))
 obtain ⟨w1,hw1⟩:∃ w1,w1=w.drew.alloc (.cells C0 152):=⟨_,rfl⟩
 have hg1:w1.heap[w.heap.size]? = some (.cells C0 152 (0,0)):=by rw [hw1];exact heap_alloc_new w.drew _
 have hgr1:w.grownBy w1 none:=by rw [hw1];exact ⟨rfl,rfl,rfl,by simp,fun j hj _=>Below.heap_alloc w.drew _ j hj⟩
 rw [←hw1] at hrun
 have hvl:=blk_lt hv
 have hv1:=(hgr1.block vb hvl (by simp)).trans hv
 have hk2:IntKind.i64.wrap ((n:Int)+1 - i)=(k:Int):=by rw [IntKind.wrap_i64];omega
 have hk3:(n:Int)+1 - i=(k:Int):=by omega
 have hb2:¬ (n=i):=by omega
 have hw1':IntKind.i64.wrap ((i:Int)+1)=(i:Int)+1:=by rw [IntKind.wrap_i64];omega
 have htn:((i:Int)+1).toNat=i+1:=by omega
 have hb1:(0:Int)≤(i:Int)+1:=by omega
 have hb6:¬ (cap=i+1):=by omega
 have hb7:¬ (cap=i):=by omega
 have hb3:(i:Int)+1≤(n:Int)+1:=by omega
 have hb5:(i:Int)≤(n:Int)+1:=by omega
 have HINF:=Hd (show (Tryz.prog.info? 152).map (·.size)=some 5 by kernel_rfl)
 have HSRC1:=Hd (show ∀ j u,(psC p)[j]? = some u→w1.cell? ((⟨vb,0,none⟩:Addr).add j)=some u from fun j u hu=>by
  rw [Addr.add_lit,Nat.zero_add,cell_of_row w1 vb j _ _ _ hv1]
  simpa using hu)
 have HCL:=Hd (show ((l.flatMap psC).drop (i * 5)).length=(n - i) * 5 by rw [List.length_drop,hXL,Nat.sub_mul])
 have HSRC:=Hd (show ∀ j u,((l.flatMap psC).drop (i * 5))[j]? = some u→w.cell? ((⟨g,i * 5,none⟩:Addr).add j)=some u from fun j u hu=>by
  have:=hr.cells (g:=g) rfl (i * 5+j) u (by rwa [List.getElem?_drop] at hu)
  rw [Addr.add_lit,Nat.zero_add] at this
  rw [Addr.add_lit]
  exact this)
 have HONE:=Hd (show ∀ u∈(l.flatMap psC).drop (i * 5),u.oneCell'=true from fun u hu=>psC_one l u (List.mem_of_mem_drop hu))
 have HBS:=Hd hb
 have HGH:=Hd hgh
 have hb4:(i:Int)≤n:=by omega
 have HRUN:=Hd hrun
 have HN:=Hd hn
 have HR:=Hd hr
 have HK:=Hd hk
 have HG1:=Hd hg1
 have HGR1:=Hd hgr1
 have HV1:=Hd hv1
 have HC0S:=Hd hC0s
 have HC0T:=Hd hC0t
 have HXL:=Hd hXL
 clear hn hr hk hg1 hgr1 hv1 hC0s hC0t hXL hv hb
 clear hrun hi0 hz0 hz1 hz2 hold holds hcap hC0 hw1
 go_enter Tryz.func140,Tryz.ntmps140
 go_upto_region 10 with (at_builtin;refine wpList_append_eq rfl _ _ 61 3 rfl (.slice (some ⟨g,0,none⟩) i n) (.int .i64 k) rfl rfl HRUN.out ?_)
 obtain ⟨C1,hC1⟩:∃ C1:List Value,C1=C0.toList.take (i * 5) ++ psC p ++ C0.toList.drop (i * 5+(psC p).length):=⟨_,rfl⟩
 have hC:=ins_new C0.toList (l.flatMap psC) (psC p) (i * 5) 5 HC0T.out (by rw [HXL.out];omega) rfl (by rw [HXL.out,Array.length_toList,HC0S.out];omega) C1 hC1
 have HCC:=Hd hC
 have HC1L:=Hd (show C1.toArray.size=cap * 5 by rw [List.size_toArray,(hC _ rfl).1,Array.length_toList];exact HC0S.out)
 have HC1:=Hd hC1
 clear hC hC1
 have HS2:=Hd (show ∀ w2:World,w1.grownBy w2 (some w.heap.size)→∀ j u,((l.flatMap psC).drop (i * 5))[j]? = some u→w2.cell? ((⟨g,i * 5,none⟩:Addr).add j)=some u from fun w2 hgr2 j u hu=>by
  have h1:=HSRC.out j u hu
  rw [Addr.add_lit] at h1 ⊢
  rw [World.cell?_of_block (w:=w) ((hgr2.block g (Nat.lt_of_lt_of_le HGH.out HGR1.out.size) (by simp;have:=HGH.out;omega)).trans (HGR1.out.block g HGH.out (by simp)))]
  exact h1)
 go_upto_region 11 with (refine wpList_copy_rowN _ rfl _ _ 61 61 rfl 152 5 w.heap.size (i * 5) _ _ ⟨vb,0,none⟩ _ _ C0 152 (psC p) 1 Tryz.underlying61 HINF.out rfl rfl HG1.out (by simp only [Nat.min_def];split <;> omega) rfl HSRC1.out (by rw [HC0S.out,psC_len];omega) (psC_one1 p) ?_;intro w2 hg2 hgr2 hz2;rw [←HC1.out] at hg2;have HG2:=Hd hg2;have HGR2:=Hd hgr2;have HSRC2:=Hd (HS2.out w2 hgr2);clear hg2 hgr2 hz2)
 obtain ⟨SS,HSD⟩:∃ SS:World→Prop,Hid (SS=fun w'=>w'.heap[w.heap.size]? = some (.cells C1.toArray 152 (0,0))):=⟨_,Hd rfl⟩
 refine wp_region_mask0 SS [] [0,0,0,6,15,0,0,96,255] (.op 0 0 (.op 1 0 (.op 2 0 (.op 3 0 (.op 4 0 (.op 5 0 (.op 6 0 (.op 7 0 (.op 8 1 .nil))))))))) (by kernel_rfl) (by kernel_rfl) rfl (by kernel_rfl) (by kernel_rfl) ?_ ?_
 (focus (rw [HSD.out];exact HG2.out));(iterate 8 refine stepM0 rfl rfl fun K hK=>?_;go_simp;refine hK _ ?_;clear hK K);refine stepM1 rfl rfl (by kernel_rfl) fun K hK=>?_
 (refine wp_copy_rowN _ _ _ 61 61 rfl 152 5 w.heap.size ((i+1) * 5) _ _ ⟨g,i * 5,none⟩ _ _ C1.toArray 152 ((l.flatMap psC).drop (i * 5)) (n - i) Tryz.underlying61 HINF.out rfl rfl HG2.out (by simp only [Nat.min_def];split <;> omega) HCL.out HSRC2.out (by rw [HCL.out,HC1L.out];omega) HONE.out ?_;intro w3 hg3 hgr3 hz3;have HG3:=Hd hg3;have HGR3:=Hd hgr3;clear hg3 hgr3 hz3;go_wp2)
 try refine stepMnil0 ?_
 clear HSD SS
 go_wp2
 go_ret
 obtain ⟨h1,h2,h3⟩:=HCC.out _ rfl
 refine ⟨_,rfl,⟨?_,.inr ⟨w.heap.size,cap,_,rfl,HBS.out,HG3.out,hge,hcm,?_,?_⟩⟩,?_,.inr ⟨_,Nat.le_refl _,rfl⟩⟩
 ·rw [length_flatMap_row psC 5 psC_len]
  simp
  have:=HN.out
  omega
 ·rw [List.size_toArray]
  have e:∀ x:List Value,x.length=C0.toList.length→x.length=cap * 5:=fun x hx=>by rw [hx,Array.length_toList];exact HC0S.out
  refine e _ ?_
  rw [←h2]
  simp only [Nat.add_mul,Nat.one_mul]
 ·rw [HXL.out] at h3
  rw [List.flatMap_append,List.flatMap_cons,flat_take l i (by have:=HN.out;omega),flat_drop l i (by have:=HN.out;omega)]
  have e:(n+1) * 5=n * 5+5:=by omega
  have e2:(i+1) * 5=i * 5+5:=by omega
  rw [e,e2]
  refine Eq.trans h3 ?_
  rw [List.append_assoc]
 ·exact ⟨HGR3.out.os.trans (HGR2.out.os.trans HGR1.out.os),HGR3.out.tape.trans (HGR2.out.tape.trans HGR1.out.tape),HGR3.out.output.trans (HGR2.out.output.trans HGR1.out.output),Nat.le_trans HGR1.out.size (Nat.le_trans HGR2.out.size HGR3.out.size),fun j hj hn=>(HGR3.out.block j (Nat.lt_of_lt_of_le hj (Nat.le_trans HGR1.out.size HGR2.out.size)) (by simp;omega)).trans ((HGR2.out.block j (Nat.lt_of_lt_of_le hj HGR1.out.size) (by simp;omega)).trans (HGR1.out.block j hj (by simp)))⟩
theorem insert_any(base vb n i:Nat)(v:Value)(l:List Ps)(p:Ps)(w:World)(hn:n=l.length)(hl:n≤4096)(hi:i≤n)(hr:w.ownsRow base 152 5 v n (l.flatMap psC))(hb:base≤w.heap.size)(hne:v.ownBlock≠some vb)
  (hv:w.heap[vb]? = some (.cells (psC p).toArray 152 (0,0))) :
  Calls Tryz.prog 140 #[v,.int .i64 i,.slice (some ⟨vb,0,none⟩) 1 1] w (InsOut w base v n i l p):=by
 by_cases h:i=n
 ·subst h
  exact insert_end base vb i v l p w hn hl hr hb hv
 ·rcases hr.2 with ⟨_,h0⟩|⟨g,c,cur,rfl,_,_,hc,_⟩
  ·omega
  ·have hne':vb≠g:=fun e=>hne (by rw [e];rfl)
   by_cases h2:n+1≤c
   ·exact insert_room base vb g c n i l p w hn hl (by omega) h2 hr hb hne' hv
   ·have e:c=n:=by omega
    subst e
    exact insert_grow base vb g c i l p w hn hl (by omega) hr hb hne' hv
def IxTo (w:World) (base ix:Nat) (v:Value) (l':List Ps) (w':World):Prop:=
 ∃ v',IxAt w' base ix v' l'∧(∀ g,v'.ownBlock=some g→v.ownBlock=some g∨w.heap.size≤g)∧Keeps (fun b=>b=ix∨v.ownBlock=some b) w w'
theorem iput_new(base ix:Nat)(v:Value)(l:List Ps)(p:Ps)(w:World)(h:IxAt w base ix v l)(hx:ixFind l p.key=none)(hf:l.length<4096) :
  Calls Tryz.prog 98 #[.pointer (some ⟨ix,0,none⟩),psV p] w fun e w'=>e=.returned .nilIface∧IxTo w base ix v (ixPut l p) w':=by
 have hlt:=h.lt
 have hil:=ixAt_le l p.key
 obtain ⟨a,c,rfl⟩:=ownsRow_len h.row
 obtain ⟨i,hi⟩:∃ i,i=ixAt l p.key:=⟨_,rfl⟩
 have hput:ixPut l p=l.take i ++ p :: l.drop i:=by
  rw [hi]
  refine ixPut_insert h.srt fun q hq he=>?_
  rw [ixFind_at h.srt,hq] at hx
  simp [he] at hx
 have hsrt:IxS (ixPut l p):=h.srt.put
 rw [hput] at hsrt ⊢
 rw [←hi] at hil
 obtain ⟨pk,po,pl,pc,pg⟩:=p
 obtain ⟨n,hn⟩:∃ n,n=l.length:=⟨_,rfl⟩
 rw [←hn] at hil hf h ⊢
 have HN:=Hd hn
 have H:=Hd h
 have HX:=Hd hx
 have HI:=Hd hi
 have HS:=Hd hsrt
 unfold psV
 simp only at *
 clear h hx hi hput hsrt hn
 go_enter Tryz.func98,Tryz.ntmps98
 go_wp2_with fail
 obtain ⟨w0,hw0⟩:∃ w0:World,w0=w.alloc (.cells #[.int .u64 pk,.int .i64 po,.int .i64 pl,.int .u32 pc,.bool pg] 152):=⟨_,rfl⟩
 have HB0:=Hd (show Below w.heap.size w w0 by rw [hw0];exact belo)
 have kb0:w0.heap[w.heap.size]? = some (.cells #[.int .u64 pk,.int .i64 po,.int .i64 pl,.int .u32 pc,.bool pg] 152 (0,0)):=by rw [hw0];exact heap_new w _
 have hl0:=blk_lt kb0
 rw [←hw0]
 clear hw0
 refine (place_at base ix _ l pk _ (H.out.below HB0.out)).mono ?_
 rintro e w1 ⟨rfl,hb1⟩
 rw [←HI.out,HX.out,show (none:Option Ps).isSome=false from rfl]
 have HB1:=Hd (HB0.out.trans (hb1.mono HB0.out.size))
 have kb1:=(hb1.block w.heap.size hl0).trans kb0
 obtain ⟨q0,q1,q2,q3,q4⟩:=pcells kb1
 have HM:=Hd (H.out.below HB1.out)
 have hl1:=blk_lt kb1
 have kc:=HM.out.cell
 have kf:=HM.out.free
 have klt:=HM.out.lt
 have HR:=Hd HM.out.row
 rw [←HN.out] at HR
 have hbase:base≤w1.heap.size:=by have:=HM.out.lt;have:=HM.out.low;omega
 have HNE:=Hd (show (Value.slice a n c).ownBlock≠some w1.heap.size from fun e=>by have:=HR.out.lt _ e;omega)
 clear kb0 hb1 hl0
 go_upto_region 4 with fail
 obtain ⟨SS,HSD⟩:∃ SS:World→Prop,Hid (SS=fun w'=>w'.cell? ⟨ix,0,none⟩=some (.slice a n c)∧w'.cell? ⟨w.heap.size,0,none⟩=some (.int .u64 pk)∧w'.cell? ⟨w.heap.size,1,none⟩=some (.int .i64 po)∧w'.cell? ⟨w.heap.size,2,none⟩=some (.int .i64 pl)∧w'.cell? ⟨w.heap.size,3,none⟩=some (.int .u32 pc)∧w'.cell? ⟨w.heap.size,4,none⟩=some (.bool pg)):=⟨_,Hd rfl⟩
 refine wp_region_mask0 SS [4,6] [0,0,2,6,14,0,0,64,254,511,1023,2047] (.op 0 0 (.op 1 0 (.op 2 0 (.op 3 0 (.op 4 2 (.op 5 0 (.op 6 2 (.op 7 1 (.op 8 1 (.op 9 0 (.op 10 0 (.op 11 1 .nil)))))))))))) (by kernel_rfl) (by kernel_rfl) rfl (by kernel_rfl) (by kernel_rfl) ?_ ?_
 (focus (rw [HSD.out];exact ⟨kc,q0,q1,q2,q3,q4⟩));(iterate 4 refine stepM0 rfl rfl fun K hK=>?_;go_simp;refine hK _ ?_;clear hK K);refine stepM2 rfl rfl ?_ (fun w1 hS=>?_) fun K hK=>?_;rotate_left;(focus (rw [HSD.out] at hS;obtain ⟨s0,s1,s2,s3,s4,s5⟩:=hS;go_simp;rfl));go_simp;refine hK _ ?_;clear hK K;refine stepM0 rfl rfl fun K hK=>?_;go_simp;refine hK _ ?_;clear hK K;refine stepM2 rfl rfl ?_ (fun w1 hS=>?_) fun K hK=>?_;rotate_left;(focus (rw [HSD.out] at hS;obtain ⟨s0,s1,s2,s3,s4,s5⟩:=hS;go_simp;rfl));go_simp;refine hK _ ?_;clear hK K;refine stepM1S rfl rfl fun K hK=>?_;go_wp2
 refine ⟨by rw [HSD.out];exact (by refine ⟨?_,?_,?_,?_,?_,?_⟩ <;> go_simp),?_⟩
 refine stepM1 rfl rfl (by kernel_rfl) fun K hK=>?_
 (go_wp2_with fail;refine Calls.mono (insert_any base w1.heap.size n i (.slice a n c) l ⟨pk,po,pl,pc,pg⟩ _ HN.out (by omega) hil ((HR.out.alloc _).drew) (by simp;omega) HNE.out (heap_alloc_new w1 _)) ?_;rintro e w2 ⟨v2,rfl,ho2,hg2,ha2⟩;obtain ⟨a2,c2,rfl,-⟩:=slice_of ho2;have kc2:w2.cell? ⟨ix,0,none⟩=some (.slice a n c):=(grown_cell hg2 (by simp;omega) HM.out.ne).trans (by go_simp);have kf2:w2.frozen? ⟨ix,0,none⟩=false:=(grown_frozen hg2 (by simp;omega) HM.out.ne).trans (by go_simp);have HO2:=Hd ho2;have HG2:=Hd hg2;have HA2:=Hd ha2;clear ho2 hg2 ha2;go_wp2)
 (iterate 2 refine stepM0 rfl rfl fun K hK=>?_;go_simp;refine hK _ ?_;clear hK K);refine stepM1 rfl rfl (by kernel_rfl) fun K hK=>?_;go_wp2
 try refine stepMnil0 ?_
 clear HSD SS
 go_wp2
 go_ret
 have hb2:w2.heap[ix]? = some (.cells #[.slice a n c] 186 (0,0)):=by
  rw [HG2.out.block ix (by simp;omega) (fun e=>HM.out.ne e.symm)]
  exact (Below.heap_alloc _ _ _ klt).trans HM.out.blk
 have hne:(Value.slice a2 (n+1) c2).ownBlock≠some ix:=by
  intro e
  rcases HA2.out with h|⟨k,h1,h⟩
  ·rw [e] at h
   exact HM.out.ne h.symm
  ·rw [e] at h
   simp at h h1
   omega
 refine ⟨rfl,_,⟨?_,?_,HM.out.low,hne,?_,HS.out⟩,?_,?_⟩
 ·simpa using heap_setCell_same w2 ix 0 _ _ (.slice a2 (n+1) c2) hb2
 ·refine ownsRow_at (ownsRow_cast HO2.out ?_ rfl) (fun k hk=>heap_setCell_other w2 _ k _ (fun e=>hne (by rw [hk,e])))
  simp
  have:=HN.out
  omega
 ·simp
  have:=HN.out
  omega
 ·intro g hg
  rcases HA2.out with h|⟨k,h1,h⟩
  ·exact .inl (by rw [←hg,h])
  ·right
   rw [hg] at h
   simp at h h1
   have:=HB1.out.size
   omega
 ·have K1:Keeps (fun b=>b=ix∨(Value.slice a n c).ownBlock=some b) w w1:=Keeps.of_below HB1.out (fun k hk _=>hk)
  exact (((K1.alloc _).drew).grown HG2.out (fun k hk _=>.inr hk)).setCell _ _ (fun _=>.inl rfl)
theorem iput_old(base ix:Nat)(v:Value)(l:List Ps)(p q:Ps)(w:World)(h:IxAt w base ix v l)(hx:ixFind l p.key=some q) :
  Calls Tryz.prog 98 #[.pointer (some ⟨ix,0,none⟩),psV p] w fun e w'=>e=.returned .nilIface∧IxTo w base ix v (ixPut l p) w':=by
 have hlt:=h.lt
 obtain ⟨hg0,hqk⟩:=ixFind_get h.srt hx
 have hil:=(List.getElem?_eq_some_iff.1 hg0).1
 obtain ⟨g,c,rfl,hgl,hgb,hgx⟩:=h.some (by omega)
 obtain ⟨i,hi⟩:∃ i,i=ixAt l p.key:=⟨_,rfl⟩
 have hput:ixPut l p=l.set i p:=by
  rw [hi]
  exact ixPut_set h.srt hg0 hqk
 have hsrt:IxS (ixPut l p):=h.srt.put
 rw [hput] at hsrt ⊢
 rw [←hi] at hil hg0
 clear hqk
 obtain ⟨pk,po,pl,pc,pg⟩:=p
 obtain ⟨n,hn⟩:∃ n,n=l.length:=⟨_,rfl⟩
 rw [←hn] at hil h ⊢
 have HN:=Hd hn
 have H:=Hd h
 have HX:=Hd hx
 have HI:=Hd hi
 have HS:=Hd hsrt
 have HQ:=Hd hg0
 unfold psV
 simp only at *
 clear h hx hi hput hsrt hn hg0
 go_enter Tryz.func98,Tryz.ntmps98
 go_wp2_with fail
 obtain ⟨w0,hw0⟩:∃ w0:World,w0=w.alloc (.cells #[.int .u64 pk,.int .i64 po,.int .i64 pl,.int .u32 pc,.bool pg] 152):=⟨_,rfl⟩
 have HB0:=Hd (show Below w.heap.size w w0 by rw [hw0];exact belo)
 have kb0:w0.heap[w.heap.size]? = some (.cells #[.int .u64 pk,.int .i64 po,.int .i64 pl,.int .u32 pc,.bool pg] 152 (0,0)):=by rw [hw0];exact heap_new w _
 have hl0:=blk_lt kb0
 rw [←hw0]
 clear hw0
 refine (place_at base ix _ l pk _ (H.out.below HB0.out)).mono ?_
 rintro e w1 ⟨rfl,hb1⟩
 rw [←HI.out,HX.out,show (some q).isSome=true from rfl]
 have HB1:=Hd (HB0.out.trans (hb1.mono HB0.out.size))
 have kb1:=(hb1.block w.heap.size hl0).trans kb0
 obtain ⟨q0,q1,q2,q3,q4⟩:=pcells kb1
 have HM:=Hd (H.out.below HB1.out)
 have hl1:=blk_lt kb1
 have kc:=HM.out.cell
 have klt:=HM.out.lt
 have HR:=Hd HM.out.row
 rw [←HN.out] at HR
 obtain ⟨cur,hcur⟩:∃ cur,w1.heap[g]? = some (.cells cur 152 (0,0)):=by
  rcases HR.out.2 with ⟨e,_⟩|⟨g',cap,cur,e,h1,h2,_⟩
  ·cases e
  ·simp only [Value.slice.injEq,Option.some.injEq,Addr.mk.injEq] at e
   obtain ⟨⟨rfl,_,_⟩,_,rfl⟩:=e
   exact ⟨cur,h2⟩
 obtain ⟨r0,r1,r2,r3,r4⟩:=row_at HR.out HQ.out
 have t0:=frozen_of_row w1 g (i * 5) _ _ hcur
 have t1:=frozen_of_row w1 g (i * 5+1) _ _ hcur
 have t2:=frozen_of_row w1 g (i * 5+2) _ _ hcur
 have t3:=frozen_of_row w1 g (i * 5+3) _ _ hcur
 have t4:=frozen_of_row w1 g (i * 5+4) _ _ hcur
 have hgw:g≠w.heap.size:=by omega
 clear kb0 hb1 hl0 hcur
 go_upto_region 6 with fail
 obtain ⟨SS,HSD⟩:∃ SS:World→Prop,Hid (SS=fun w'=>w'.cell? ⟨ix,0,none⟩=some (.slice (some ⟨g,0,none⟩) n c)∧w'.cell? ⟨w.heap.size,0,none⟩=some (.int .u64 pk)∧w'.cell? ⟨w.heap.size,1,none⟩=some (.int .i64 po)∧w'.cell? ⟨w.heap.size,2,none⟩=some (.int .i64 pl)∧w'.cell? ⟨w.heap.size,3,none⟩=some (.int .u32 pc)∧w'.cell? ⟨w.heap.size,4,none⟩=some (.bool pg)):=⟨_,Hd rfl⟩
 refine wp_region_mask0 SS [3,5] [0,1,3,7,0,0,63,127] (.op 0 0 (.op 1 0 (.op 2 0 (.op 3 2 (.op 4 0 (.op 5 2 (.op 6 0 (.op 7 1 .nil)))))))) (by kernel_rfl) (by kernel_rfl) rfl (by kernel_rfl) (by kernel_rfl) ?_ ?_
 (focus (rw [HSD.out];exact ⟨kc,q0,q1,q2,q3,q4⟩));(iterate 3 refine stepM0 rfl rfl fun K hK=>?_;go_simp;refine hK _ ?_;clear hK K);refine stepM2 rfl rfl ?_ (fun w1 hS=>?_) fun K hK=>?_;rotate_left;(focus (rw [HSD.out] at hS;obtain ⟨s0,s1,s2,s3,s4,s5⟩:=hS;go_simp;rfl));go_simp;refine hK _ ?_;clear hK K;refine stepM0 rfl rfl fun K hK=>?_;go_simp;refine hK _ ?_;clear hK K;refine stepM2 rfl rfl ?_ (fun w1 hS=>?_) fun K hK=>?_;rotate_left;(focus (rw [HSD.out] at hS;obtain ⟨s0,s1,s2,s3,s4,s5⟩:=hS;go_simp;rfl));go_simp;refine hK _ ?_;clear hK K;refine stepM0 rfl rfl fun K hK=>?_;go_simp;refine hK _ ?_;clear hK K;refine stepM1 rfl rfl (by kernel_rfl) fun K hK=>?_;go_wp2
 try refine stepMnil0 ?_
 clear HSD SS
 go_wp2
 go_ret
 have K2:Keeps (fun b=>b=g) w1 ((((((w1.setCell ⟨g,i * 5,none⟩ (.int .u64 pk)).setCell ⟨g,i * 5+1,none⟩ (.int .i64 po)).setCell ⟨g,i * 5+2,none⟩ (.int .i64 pl)).setCell ⟨g,i * 5+3,none⟩ (.int .u32 pc)).setCell ⟨g,i * 5+4,none⟩ (.bool pg)).drew):=
  ((((((Keeps.refl (fun b=>b=g) w1).setCell ⟨g,i * 5,none⟩ (.int .u64 pk) (fun _=>rfl)).setCell ⟨g,i * 5+1,none⟩ (.int .i64 po) (fun _=>rfl)).setCell ⟨g,i * 5+2,none⟩ (.int .i64 pl) (fun _=>rfl)).setCell ⟨g,i * 5+3,none⟩ (.int .u32 pc) (fun _=>rfl)).setCell ⟨g,i * 5+4,none⟩ (.bool pg) (fun _=>rfl)).drew
 have hgx':¬ ix=g:=fun e=>hgx e.symm
 have hrow:=ownsRow_struct psC 5 psC_len l i ⟨pk,po,pl,pc,pg⟩ (by have:=HN.out;omega) HR.out
 refine ⟨rfl,_,⟨(K2.block ix klt hgx').trans HM.out.blk,ownsRow_cast (ownsRow_at hrow (fun _ _=>rfl)) (by rw [List.length_set];exact HN.out) rfl,HM.out.low,HM.out.ne,by rw [List.length_set];exact HM.out.few,HS.out⟩,fun k hk=>.inl hk,?_⟩
 have K1:Keeps (fun b=>b=ix∨(Value.slice (some ⟨g,0,none⟩) n c).ownBlock=some b) w w1:=Keeps.of_below HB1.out (fun k hk _=>hk)
 exact K1.trans (K2.mono (fun k _ e=>.inr (by rw [e];rfl))) (fun k _ hk=>hk)
end Go.Proofs.YtfpjfoajonbndaaGreatDoor
