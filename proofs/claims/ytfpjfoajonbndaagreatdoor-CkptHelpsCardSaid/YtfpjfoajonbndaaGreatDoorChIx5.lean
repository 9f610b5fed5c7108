import Derived.Test.YtfpjfoajonbndaaGreatDoorCh12
import Derived.Test.YtfpjfoajonbndaaGreatDoorCh2
namespace Go.Proofs.YtfpjfoajonbndaaGreatDoor
set_option maxHeartbeats 8000000
set_option maxRecDepth 100000
open Go.RowKit
set_option maxRecDepth 100000
set_option maxHeartbeats 8000000
open Go.RowKit
theorem add_none(x:Addr):x.add 0=x:=by
 obtain ⟨b,o,r⟩:=x
 unfold Addr.add
 cases r <;> simp
theorem pcut{w:World}{base:Nat}{a:Option Addr}{c:Nat}{l:List Ps}(h:w.ownsRow base 152 5 (.slice a l.length c) l.length (l.flatMap psC))(i m:Nat)(him:i+m≤l.length) :
  ∃ a',(∀ W,(Instr.slice 61 (.slice a l.length c) (some (.int .i64 i)) none none).run Tryz.prog W=.ok (.slice a' (l.length - i) (c - i)) W) ∧
   (∀ W,(Instr.slice 61 (.slice a' (l.length - i) (c - i)) none (some (.int .i64 m)) none).run Tryz.prog W=.ok (.slice a' m (c - i)) W)∧Reads w 5 (.slice a' m (c - i)) m (((l.drop i).take m).flatMap psC):=by
 have hs:∀ W,(sizeOf 152).run Tryz.prog W=.ok 5 W:=fun W=>by kernel_rfl
 have hlc:l.length≤c:=by
  rcases h.2 with ⟨e,h0⟩|⟨g,cap,cur,e,_,_,h1,_⟩
  ·omega
  ·simp only [Value.slice.injEq] at e
   omega
 have hr1:∀ W,(Instr.slice 61 (.slice a l.length c) (some (.int .i64 i)) none none).run Tryz.prog W=.ok (.slice (if c=i then a else a.map (·.add (i * 5))) (l.length - i) (c - i)) W:=fun W=>by
  simp [Instr.slice,run_underlying Tryz.underlying61,Instr.sliceBounds,run_sliceBound,hs,Result.andThen,(by omega:(0:Int)≤(i:Int)),(by omega:(i:Int)≤(l.length:Int))]
 generalize hA:(if c=i then a else a.map (·.add (i * 5)))=a' at hr1
 refine ⟨a',hr1,fun W=>?_,?_⟩
 ·simp [Instr.slice,run_underlying Tryz.underlying61,Instr.sliceBounds,run_sliceBound,hs,Result.andThen,(by omega:(0:Int)≤(m:Int)),(by omega:(m:Int)≤((c - i:Nat):Int))]
  intro _
  cases a' with
  | none=>rfl
  | some x=>exact congrArg some (add_none x)
 have hlen:(((l.drop i).take m).flatMap psC).length=m * 5:=by
  rw [length_flatMap_row psC 5 psC_len,List.length_take,List.length_drop,Nat.min_eq_left (by omega)]
 refine ⟨hlen,?_⟩
 rcases h.2 with ⟨e,h0⟩|⟨g,cap,cur,e,_,_,h1,h2,_⟩
 ·simp only [Value.slice.injEq] at e
  obtain ⟨rfl,_,rfl⟩:=e
  have hi0:i=0:=by omega
  have hm0:m=0:=by omega
  subst hi0 hm0
  exact .inl ⟨by rw [←hA];rfl,rfl⟩
 ·simp only [Value.slice.injEq] at e
  obtain ⟨rfl,_,rfl⟩:=e
  by_cases hci:c=i
  ·rw [if_pos hci] at hA
   have hm0:m=0:=by omega
   subst hm0
   rw [←hA]
   exact .inr ⟨_,_,rfl,by unfold maxLen;omega,fun j u hu=>by simp at hu⟩
  ·rw [if_neg hci] at hA
   rw [←hA]
   refine .inr ⟨(⟨g,0,none⟩:Addr).add (i * 5),c - i,rfl,by omega,fun j u hu=>?_⟩
   have hj:j<m * 5:=by rw [←hlen];exact (List.getElem?_eq_some_iff.1 hu).1
   have h3:((⟨g,0,none⟩:Addr).add (i * 5)).add j=(⟨g,0,none⟩:Addr).add (i * 5+j):=by
    unfold Addr.add
    by_cases h4:i * 5=0 <;> by_cases h5:j=0 <;> simp [h4,h5]
   rw [h3]
   refine h.cells (g:=g) rfl (i * 5+j) u ?_
   rw [←hu]
   have hq:j / 5<m:=by omega
   have e1:i * 5+j=(i+j / 5) * 5+j % 5:=by omega
   have e2:j=(j / 5) * 5+j % 5:=by omega
   rw [e1,getElem?_flatMap_row psC 5 psC_len l _ _ (by omega)]
   conv=>rhs;rw [e2,getElem?_flatMap_row psC 5 psC_len _ _ _ (by omega)]
   rw [List.getElem?_take,if_pos hq,List.getElem?_drop]
theorem ifrom_few(base ix:Nat)(v:Value)(l:List Ps)(k:Nat)(most:Int)(w:World)(h:IxAt w base ix v l)(hm:most<1) :
  Calls Tryz.prog 113 #[.pointer (some ⟨ix,0,none⟩),.int .u64 k,.int .i64 most] w fun e w'=>e=.returned (.slice none 0 0)∧w=w':=by
 have hlt:=h.lt
 clear h
 go_enter Tryz.func113,Tryz.ntmps113
 go_wp2
 go_ret
 exact ⟨rfl,rfl⟩
theorem ifrom_any(base ix:Nat)(v:Value)(l:List Ps)(k:Nat)(most:Int)(w:World)(h:IxAt w base ix v l)(hm:1≤most) :
  Calls Tryz.prog 113 #[.pointer (some ⟨ix,0,none⟩),.int .u64 k,.int .i64 most] w fun e w'=>∃ v',e=.returned v'∧w'.ownsRow w.heap.size 152 5 v' ((l.drop (ixAt l k)).take most.toNat).length (((l.drop (ixAt l k)).take most.toNat).flatMap psC)∧Below w.heap.size w w':=by
 have hlt:=h.lt
 have hf:=h.few
 have hil:=ixAt_le l k
 obtain ⟨a,c,rfl⟩:=ownsRow_len h.row
 obtain ⟨i,hi⟩:∃ i,i=ixAt l k:=⟨_,rfl⟩
 rw [←hi] at hil ⊢
 obtain ⟨m,hmm⟩:∃ m:Nat,(m:Int)=min most ((l.length:Int) - i):=⟨(min most ((l.length:Int) - i)).toNat,by omega⟩
 have him:i+m≤l.length:=by omega
 have hlen:((l.drop i).take most.toNat).length=m:=by rw [List.length_take,List.length_drop];omega
 have htk:(l.drop i).take most.toNat=(l.drop i).take m:=by
  rcases Nat.lt_or_ge (l.drop i).length most.toNat with h1|h1
  ·rw [List.take_of_length_le (by omega),List.take_of_length_le (by rw [List.length_drop] at h1 ⊢;omega)]
  ·congr 1
   rw [List.length_drop] at h1
   omega
 rw [hlen,htk]
 have hc:=h.cell
 have H:=Hd h
 have HI:=Hd hi
 have HT:=Hd htk
 have HL:=Hd hlen
 obtain ⟨n,hn⟩:∃ n,n=l.length:=⟨_,rfl⟩
 rw [←hn] at hc hf hil him hmm
 have HN:=Hd hn
 obtain ⟨b,hb⟩:∃ b,b=(ixFind l k).isSome:=⟨_,rfl⟩
 have HB:=Hd hb
 clear h hi htk hlen hn hb
 go_enter Tryz.func113,Tryz.ntmps113
 go_wp2_with fail
 refine (place_at base ix _ l k _ H.out).mono ?_
 rintro e w1 ⟨rfl,hb1⟩
 rw [←HI.out,←HB.out]
 have HB1:=Hd hb1
 have H1:=Hd (H.out.below hb1)
 have hlt1:=H1.out.lt
 obtain ⟨a',hr1,hr2,hrd⟩:=pcut (H1.out.row) i m (by rw [←HN.out];exact him)
 rw [←HN.out] at hr1 hr2
 have HRD:=Hd hrd
 clear hc hb1 hrd
 have hw:IntKind.i64.wrap ((n:Int) - i)=(n:Int) - i:=by rw [IntKind.wrap_i64];omega
 have hw2:min most ((n:Int) - i)=(m:Int):=hmm.symm
 clear hmm
 go_upto_region 4 with fail
 obtain ⟨SS,HSD⟩:∃ SS:World→Prop,Hid (SS=fun w'=>w'.cell? ⟨ix,0,none⟩=some (.slice a n c)):=⟨_,Hd rfl⟩
 refine wp_region_mask0 SS [3,10] [0,1,3,7,0,31,0,0,128,384,896,1920,0,8064,16320,32767,65535,131071] (.op 0 0 (.op 1 0 (.op 2 0 (.op 3 2 (.op 4 0 (.op 5 0 (.op 6 0 (.op 7 0 (.op 8 0 (.op 9 0 (.op 10 2 (.op 11 0 (.op 12 0 (.op 13 0 (.op 14 0 (.op 15 0 (.op 16 1 (.op 17 0 .nil)))))))))))))))))) (by kernel_rfl) (by kernel_rfl) rfl (by kernel_rfl) (by kernel_rfl) ?_ ?_
 (focus (rw [HSD.out];(rw [HN.out];exact H1.out.cell)));(iterate 3 refine stepM0 rfl rfl fun K hK=>?_;go_simp;refine hK _ ?_;clear hK K);refine stepM2 rfl rfl ?_ (fun w1 hS=>?_) fun K hK=>?_;rotate_left;(focus (rw [HSD.out] at hS;have hc:=hS;go_simp;rfl));go_simp;refine hK _ ?_;clear hK K;(iterate 6 refine stepM0 rfl rfl fun K hK=>?_;go_simp;refine hK _ ?_;clear hK K);refine stepM2 rfl rfl ?_ (fun w1 hS=>?_) fun K hK=>?_;rotate_left;(focus (rw [HSD.out] at hS;have hc:=hS;go_simp;rfl));go_simp;refine hK _ ?_;clear hK K;(iterate 5 refine stepM0 rfl rfl fun K hK=>?_;go_simp;refine hK _ ?_;clear hK K);refine stepM1 rfl rfl (by kernel_rfl) fun K hK=>?_
 (go_wp2_with fail;refine Calls.mono (clone_Pos (.slice a' m (c - i)) m (((l.drop i).take m).flatMap psC) _ (HRD.out.below belo) (psC_one _) (by omega)) ?_;rintro e w2 ⟨v2,rfl,ho2,_,hb2⟩;have HO2:=Hd ho2;have HB2:=Hd (show Below w1.heap.size w1 w2 from Below.trans belo (hb2.mono (by first|exact Nat.le_refl _|(simp;done)|omega)));clear ho2 hb2;go_wp2)
 refine stepM0 rfl rfl fun K hK=>?_;go_simp;refine hK _ ?_;clear hK K
 try refine stepMnil0 ?_
 clear HSD SS
 go_wp2
 go_ret
 exact ⟨v2,rfl,ownsRow_mono HO2.out (by first|exact HB1.out.size|(simp;exact HB1.out.size)),HB1.out.trans (HB2.out.mono HB1.out.size)⟩
end Go.Proofs.YtfpjfoajonbndaaGreatDoor
