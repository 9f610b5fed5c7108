import Derived.Test.YtfpjfoajonbndaaGreatDoorIxPlain
import Derived.Test.YtfpjfoajonbndaaGreatDoorCh8
import Derived.Test.YtfpjfoajonbndaaGreatDoorChErr
import Derived.Deep.LoopGhost
namespace Go.Proofs.YtfpjfoajonbndaaGreatDoor
set_option maxHeartbeats 8000000
set_option maxRecDepth 100000
open Go.RowKit
set_option maxRecDepth 100000
set_option maxHeartbeats 8000000
open Go.RowKit
def psC (p:Ps):List Value:=[.int .u64 p.key,.int .i64 p.off,.int .i64 p.len,.int .u32 p.cookie,.bool p.gone]
def psV (p:Ps):Value:=.agg #[.int .u64 p.key,.int .i64 p.off,.int .i64 p.len,.int .u32 p.cookie,.bool p.gone]
theorem psC_len(p:Ps):(psC p).length=5:=rfl
def cmpN (a b:Nat):Int:=if a<b then -1 else if b<a then 1 else 0
theorem nan_any(a:Nat)(w:World):Calls Tryz.prog 193 #[.int .u64 a] w fun e w'=>e=.returned (.bool false)∧w=w':=by
 go_enter Tryz.func193,Tryz.ntmps193
 go_wp2
 go_ret
 exact ⟨rfl,rfl⟩
theorem cmpU_any(a b:Nat)(w:World):Calls Tryz.prog 169 #[.int .u64 a,.int .u64 b] w fun e w'=>e=.returned (.int .i64 (cmpN a b))∧w=w':=by
 obtain ⟨c,hc⟩:∃ c,c=cmpN a b:=⟨_,rfl⟩
 rw [←hc]
 have HC:=Hd hc
 clear hc
 by_cases h1:a<b
 ·have h1':(a:Int)<b:=by omega
  have HN:=Hd h1
  clear h1
  go_enter Tryz.func169,Tryz.ntmps169
  go_wp2_with (go_at_call 193;refine (nan_any _ _).mono ?_;rintro e w' ⟨rfl,rfl⟩)
  go_ret
  exact ⟨ret_int (by rw [HC.out,cmpN,if_pos HN.out]),rfl⟩
 ·by_cases h2:b<a
  ·have h1':¬ (a:Int)<b:=by omega
   have h2':(b:Int)<a:=by omega
   have HN:=Hd h1
   have HM:=Hd h2
   clear h1 h2
   go_enter Tryz.func169,Tryz.ntmps169
   go_wp2_with (go_at_call 193;refine (nan_any _ _).mono ?_;rintro e w' ⟨rfl,rfl⟩)
   go_ret
   exact ⟨ret_int (by rw [HC.out,cmpN,if_neg HN.out,if_pos HM.out]),rfl⟩
  ·have h1':¬ (a:Int)<b:=by omega
   have h2':¬ (b:Int)<a:=by omega
   have HN:=Hd h1
   have HM:=Hd h2
   clear h1 h2
   go_enter Tryz.func169,Tryz.ntmps169
   go_wp2_with (go_at_call 193;refine (nan_any _ _).mono ?_;rintro e w' ⟨rfl,rfl⟩)
   go_ret
   exact ⟨ret_int (by rw [HC.out,cmpN,if_neg HN.out,if_neg HM.out]),rfl⟩
theorem placed_any(p:Ps)(k:Nat)(w:World):Calls Tryz.prog 168 #[psV p,.int .u64 k] w fun e w'=>e=.returned (.int .i64 (cmpN p.key k))∧Below w.heap.size w w':=by
 obtain ⟨pk,po,pl,pc,pg⟩:=p
 unfold psV
 simp only
 go_enter Tryz.func168,Tryz.ntmps168
 go_wp2_with (go_at_call 169;refine (cmpU_any _ _ _).mono ?_;rintro e w' ⟨rfl,rfl⟩)
 go_ret
 exact ⟨rfl,belo⟩
theorem row_at{w:World}{base g c n:Nat}{l:List Ps}(hr:w.ownsRow base 152 5 (.slice (some ⟨g,0,none⟩) n c) n (l.flatMap psC)){i:Nat}{p:Ps}(hx:l[i]? = some p) :
  w.cell? ⟨g,i * 5,none⟩=some (.int .u64 p.key)∧w.cell? ⟨g,i * 5+1,none⟩=some (.int .i64 p.off)∧w.cell? ⟨g,i * 5+2,none⟩=some (.int .i64 p.len)∧w.cell? ⟨g,i * 5+3,none⟩=some (.int .u32 p.cookie)∧w.cell? ⟨g,i * 5+4,none⟩=some (.bool p.gone):=by
 have hc:=fun j hj=>ownsRow_cell psC 5 psC_len l hr i j p hx hj
 exact ⟨hc 0 (by omega),hc 1 (by omega),hc 2 (by omega),hc 3 (by omega),hc 4 (by omega)⟩
theorem search_any(base g c:Nat)(l:List Ps)(k n:Nat)(w:World)(hn:n=l.length)(hs:IxS l)(hl:n≤4096)(hr:w.ownsRow base 152 5 (.slice (some ⟨g,0,none⟩) n c) n (l.flatMap psC)) :
  Calls Tryz.prog 167 #[.slice (some ⟨g,0,none⟩) n c,.int .u64 k,.func (.func 168) #[] #[]] w fun e w'=>e=.returned (.tuple #[.int .i64 (ixAt l k),.bool (ixFind l k).isSome])∧Below w.heap.size w w':=by
 have HN:=Hd hn
 have HS:=Hd hs
 have HR:=Hd hr
 clear hn hs hr
 go_enter Tryz.func167,Tryz.ntmps167
 go_wp2_with fail
 go_loopw [9,10] (fun i j wr=>∃ p q:Nat,i=.int .i64 p∧j=.int .i64 q∧p≤q∧q≤n∧(∀ t x,t<p→l[t]? = some x→x.key<k)∧(∀ t x,q≤t→l[t]? = some x→k≤x.key)∧Below w.heap.size w wr) (fun i j _=>(intOf j).toNat - (intOf i).toNat)
 case atStart=>exact ⟨0,n,rfl,rfl,Nat.zero_le _,Nat.le_refl _,fun t x ht=>absurd ht (Nat.not_lt_zero t),fun t x ht hx=>absurd (List.getElem?_eq_some_iff.1 hx).1 (by have:=HN.out;omega),belo⟩
 case round=>
  obtain ⟨p,q,rfl,rfl,hpq,hqn,hlo,hhi,hb⟩:=hrel
  have HLO:=Hd hlo
  have HHI:=Hd hhi
  have HB:=Hd hb
  clear hlo hhi hb
  by_cases hlt:p<q
  ·obtain ⟨h,hh⟩:∃ h:Nat,h=(p+q) / 2:=⟨_,rfl⟩
   have hhn:h<n:=by omega
   have hhp:p≤h:=by omega
   have hhq:h<q:=by omega
   obtain ⟨x,hx⟩:∃ x,l[h]? = some x:=⟨_,List.getElem?_eq_getElem (by have:=HN.out;omega)⟩
   obtain ⟨c0,c1,c2,c3,c4⟩:=row_at (ownsRow_below HR.out (HB.out)) hx
   go_upto_region 5 with fail
   rw [show ((p:Int)+q) / 2=(h:Int) by omega]
   have HH:=Hd hh
   have HX:=Hd hx
   clear hh hx
   by_cases hxk:x.key<k
   ·go_wp2_with fail
    refine (placed_any x k _).mono ?_
    rintro e w1 ⟨rfl,hb1⟩
    rw [show cmpN x.key k = -1 by rw [cmpN,if_pos hxk]]
    have HB1:=Hd (HB.out.trans (hb1.mono HB.out.size))
    clear hb1
    go_wp2_with fail
    go_round
    case rel=>
     refine ⟨h+1,q,by go_num,rfl,by omega,hqn,fun t y ht hy=>?_,HHI.out,HB1.out⟩
     by_cases hth:t=h
     ·rw [hth,HX.out] at hy
      cases hy
      exact hxk
     ·rcases Nat.lt_or_ge t p with h1|h1
      ·exact HLO.out t y h1 hy
      ·have:=(List.pairwise_iff_getElem.1 HS.out) t h (List.getElem?_eq_some_iff.1 hy).1 (List.getElem?_eq_some_iff.1 HX.out).1 (by omega)
       rw [(List.getElem?_eq_some_iff.1 hy).2,(List.getElem?_eq_some_iff.1 HX.out).2] at this
       omega
    case measure=>simp [intOf];omega
   ·obtain ⟨r,hr0,hr1⟩:∃ r:Int,cmpN x.key k=r∧0≤r:=⟨_,rfl,by unfold cmpN;rw [if_neg hxk];split <;> omega⟩
    go_wp2_with fail
    refine (placed_any x k _).mono ?_
    rintro e w1 ⟨rfl,hb1⟩
    rw [hr0]
    have HB1:=Hd (HB.out.trans (hb1.mono HB.out.size))
    have HR0:=Hd hr0
    clear hb1 hr0
    go_wp2_with fail
    go_round
    case rel=>
     refine ⟨p,h,rfl,rfl,by omega,by omega,HLO.out,fun t y ht hy=>?_,HB1.out⟩
     rcases Nat.lt_or_ge t q with h1|h1
     ·by_cases hth:t=h
      ·rw [hth,HX.out] at hy
       cases hy
       omega
      ·have:=(List.pairwise_iff_getElem.1 HS.out) h t (List.getElem?_eq_some_iff.1 HX.out).1 (List.getElem?_eq_some_iff.1 hy).1 (by omega)
       rw [(List.getElem?_eq_some_iff.1 hy).2,(List.getElem?_eq_some_iff.1 HX.out).2] at this
       omega
     ·exact HHI.out t y h1 hy
    case measure=>simp [intOf];omega
  ·have hpq':p=q:=by omega
   subst hpq'
   have HA:=Hd (ixAt_eq (l:=l) (k:=k) (i:=p) (by have:=HN.out;omega) HLO.out (fun x hx=>HHI.out p x (Nat.le_refl _) hx))
   have HF:=Hd (ixFind_at (l:=l) (k:=k) HS.out)
   by_cases hpn:p<n
   ·obtain ⟨x,hx⟩:∃ x,l[p]? = some x:=⟨_,List.getElem?_eq_getElem (by have:=HN.out;omega)⟩
    obtain ⟨c0,c1,c2,c3,c4⟩:=row_at (ownsRow_below HR.out (HB.out)) hx
    obtain ⟨r,hr0⟩:∃ r:Int,cmpN x.key k=r:=⟨_,rfl⟩
    have HX:=Hd hx
    clear hx
    go_wp2_with fail
    refine (placed_any x k _).mono ?_
    rintro e w1 ⟨rfl,hb1⟩
    rw [hr0]
    have HB1:=Hd (HB.out.trans (hb1.mono HB.out.size))
    have HR0:=Hd hr0
    clear hb1 hr0
    go_wp2_with fail
    go_ret2
    refine ⟨?_,HB1.out⟩
    rw [←HR0.out]
    show Ending.returned (.tuple #[.int .i64 p,.bool (cmpN x.key k == 0)])=_
    have hge:=HHI.out p x (Nat.le_refl _) HX.out
    rw [HF.out,HA.out,HX.out]
    have hd:(cmpN x.key k == 0)=(if x.key=k then some x else none).isSome:=by
     unfold cmpN
     by_cases he:x.key=k
     ·simp [he]
     ·rw [if_neg (by omega),if_pos (by omega),if_neg he]
      rfl
    rw [hd]
   ·go_wp2_with fail
    go_ret2
    refine ⟨?_,HB.out⟩
    show Ending.returned (.tuple #[.int .i64 p,.bool false])=_
    rw [HF.out,HA.out,List.getElem?_eq_none (by have:=HN.out;omega)]
    rfl
theorem clone_info_Pos:(Tryz.prog.info? 152).map (fun i=>(i.zero,i.size,i.bytes))=some (some (.agg #[.int .u64 0,.int .i64 0,.int .i64 0,.int .u32 0,.bool false]),5,32):=by kernel_rfl
theorem clone_Pos(v:Value)(n:Nat)(xs:List Value)(w:World)(h:Reads w 5 v n xs)(h1:∀ u∈xs,u.oneCell'=true)(hb:n * 32≤140737488355328) :
  Calls Tryz.prog 153 #[v] w (CloneOut w 152 5 v n xs):=by
 obtain ⟨i0,hi,hz0,hz1,hz2⟩:=info_parts clone_info_Pos
 obtain ⟨hlen,⟨rfl,rfl⟩|⟨a,c,rfl,hm,hcell⟩⟩:=h
 ·have hx:xs=[]:=List.eq_nil_of_length_eq_zero (by simpa using hlen)
  subst hx
  clear hi hz0 hz1 hz2 hlen h1 hb
  have hne:=fun (wx:World)=>Lib.run_eql_slice_nil (P:=Tryz.prog) wx 61 152 none 0 0 0 0 Tryz.underlying61
  go_enter Tryz.func153,Tryz.ntmps153
  go_wp2
  go_ret
  exact ⟨_,rfl,World.ownsRow_nil _ _ _ _,Iff.rfl,Below.refl _ _⟩
 ·have hne:=fun (wx:World)=>Lib.run_eql_slice_nil (P:=Tryz.prog) wx 61 152 (some a) n c 0 0 Tryz.underlying61
  have HI:=Hd hi
  have HZ0:=Hd hz0
  have HZ1:=Hd hz1
  have HZ2:=Hd hz2
  have HL:=Hd hlen
  have HC:=Hd hcell
  have H1:=Hd h1
  clear hi hz0 hz1 hz2 hlen hcell h1
  go_enter Tryz.func153,Tryz.ntmps153
  go_wp2_with (at_builtin;refine wpList_append_own _ rfl _ _ 61 rfl w.heap.size 152 i0 (.agg #[.int .u64 0,.int .i64 0,.int .i64 0,.int .u32 0,.bool false]) 5 32 Tryz.underlying61 HI.out HZ0.out HZ1.out HZ2.out rfl (by decide) (.slice (some ⟨w.heap.size,0,none⟩) 0 0) 0 [] rfl (World.ownsRow_lit w #[] 0 (Nat.le_refl _) (by unfold maxLen;omega) rfl) a n c xs rfl HL.out (fun j u hu=>cell_later ((Below.refl _ _).alloc (Nat.le_refl _) _) (HC.out j u hu)) H1.out (by omega) (by omega) (by simp) ?_;intro v' w1 hown' hgrow hnil)
  go_ret
  exact ⟨_,rfl,by simpa using hown',by simpa using hnil,(((Below.refl _ _).alloc (Nat.le_refl _) _).grown hgrow (by simp) (by simp [Value.ownBlock]))⟩

theorem psC_one(l:List Ps):∀ u∈l.flatMap psC,u.oneCell'=true:=by
 intro u hu
 obtain ⟨x,_,hx⟩:=List.mem_flatMap.1 hu
 simp only [psC,List.mem_cons,List.not_mem_nil,or_false] at hx
 rcases hx with rfl|rfl|rfl|rfl|rfl <;> rfl
structure IxAt (w:World) (base ix:Nat) (v:Value) (l:List Ps):Prop where
 blk:w.heap[ix]? = some (.cells #[v] 186 (0,0))
 row:w.ownsRow base 152 5 v l.length (l.flatMap psC)
 low:base≤ix
 ne:v.ownBlock≠some ix
 few:l.length≤4096
 srt:IxS l
theorem IxAt.lt{w:World}{base ix:Nat}{v:Value}{l:List Ps}(h:IxAt w base ix v l):ix<w.heap.size:=(Array.getElem?_eq_some_iff.1 h.blk).1
theorem IxAt.cell{w:World}{base ix:Nat}{v:Value}{l:List Ps}(h:IxAt w base ix v l):w.cell? ⟨ix,0,none⟩=some v:=by
 rw [cell_of_row w ix 0 _ _ _ h.blk];rfl
theorem IxAt.free{w:World}{base ix:Nat}{v:Value}{l:List Ps}(h:IxAt w base ix v l):w.frozen? ⟨ix,0,none⟩=false:=frozen_of_row w ix 0 _ _ h.blk
theorem IxAt.keeps{w w':World}{base ix:Nat}{v:Value}{l:List Ps}{F:Nat→Prop}(h:IxAt w base ix v l)(hk:Keeps F w w')(h1:¬ F ix)(h2:∀ k,v.ownBlock=some k→¬ F k):IxAt w' base ix v l:=
 ⟨by rw [hk.block ix h.lt h1];exact h.blk,ownsRow_keeps h.row hk h2,h.low,h.ne,h.few,h.srt⟩
theorem IxAt.below{w w':World}{base ix:Nat}{v:Value}{l:List Ps}(h:IxAt w base ix v l)(hk:Below w.heap.size w w'):IxAt w' base ix v l:=
 h.keeps (F:=fun _=>False) (Keeps.of_below hk fun _ hk _=>hk) (fun h=>h) (fun _ _ h=>h)
theorem IxAt.mono{w:World}{base base' ix:Nat}{v:Value}{l:List Ps}(h:IxAt w base ix v l)(hb:base'≤base):IxAt w base' ix v l:=
 ⟨h.blk,ownsRow_mono h.row hb,Nat.le_trans hb h.low,h.ne,h.few,h.srt⟩
theorem search_nil(k:Nat)(w:World) :
  Calls Tryz.prog 167 #[.slice none 0 0,.int .u64 k,.func (.func 168) #[] #[]] w fun e w'=>e=.returned (.tuple #[.int .i64 0,.bool false])∧Below w.heap.size w w':=by
 go_enter Tryz.func167,Tryz.ntmps167
 go_wp2_with fail
 go_loopw [9,10] (fun i j wr=>i=.int .i64 0∧j=.int .i64 0∧Below w.heap.size w wr) (fun _ _ _=>0)
 case atStart=>exact ⟨rfl,rfl,belo⟩
 case round=>
  obtain ⟨rfl,rfl,hb⟩:=hrel
  have HB:=Hd hb
  clear hb
  go_wp2_with fail
  go_ret2
  exact ⟨rfl,HB.out⟩
theorem place_at(base ix:Nat)(v:Value)(l:List Ps)(k:Nat)(w:World)(h:IxAt w base ix v l) :
  Calls Tryz.prog 139 #[.pointer (some ⟨ix,0,none⟩),.int .u64 k] w fun e w'=>e=.returned (.tuple #[.int .i64 (ixAt l k),.bool (ixFind l k).isSome])∧Below w.heap.size w w':=by
 have hc:=h.cell
 have hlt:=h.lt
 have HS:=Hd h.srt
 have HR:=Hd h.row
 have hf:=h.few
 clear h
 obtain ⟨_,⟨rfl,h0⟩|⟨g,c,cur,rfl,_⟩⟩:=HR.out
 ·have hl:l=[]:=List.eq_nil_of_length_eq_zero h0
  subst hl
  clear HS HR
  go_enter Tryz.func139,Tryz.ntmps139
  go_wp2_with fail
  refine (search_nil k _).mono ?_
  rintro e w1 ⟨rfl,hb1⟩
  have HB1:=Hd (show Below w.heap.size w w1 from Below.trans belo (hb1.mono (by first|exact Nat.le_refl _|(simp;done)|omega)))
  clear hb1
  go_wp2_with fail
  go_ret2
  exact ⟨rfl,HB1.out⟩
 ·obtain ⟨n,hn⟩:∃ n,n=l.length:=⟨_,rfl⟩
  rw [←hn] at hc hf HR
  have HN:=Hd hn
  clear hn
  obtain ⟨p,hp⟩:∃ p,p=ixAt l k:=⟨_,rfl⟩
  obtain ⟨b,hb⟩:∃ b,b=(ixFind l k).isSome:=⟨_,rfl⟩
  have HP:=Hd hp
  have HQ:=Hd hb
  rw [←hp,←hb]
  clear hp hb
  go_enter Tryz.func139,Tryz.ntmps139
  go_wp2_with fail
  refine (search_any base g c l k n _ HN.out HS.out hf (ownsRow_below HR.out belo)).mono ?_
  rintro e w1 ⟨rfl,hb1⟩
  rw [←HP.out,←HQ.out]
  have HB1:=Hd (show Below w.heap.size w w1 from Below.trans belo (hb1.mono (by first|exact Nat.le_refl _|(simp;done)|omega)))
  clear hb1
  go_wp2_with fail
  go_ret2
  exact ⟨rfl,HB1.out⟩
theorem ixFind_get{l:List Ps}{k:Nat}{x:Ps}(hs:IxS l)(h:ixFind l k=some x):l[ixAt l k]? = some x∧x.key=k:=by
 rw [ixFind_at hs] at h
 split at h
 ·rename_i q hq
  split at h
  ·cases h
   exact ⟨hq,by assumption⟩
  ·cases h
 ·cases h
theorem IxAt.some{w:World}{base ix:Nat}{v:Value}{l:List Ps}(h:IxAt w base ix v l)(hl:0<l.length):∃ g c,v=.slice (some ⟨g,0,none⟩) l.length c∧g<w.heap.size∧base≤g∧g≠ix:=by
 have hlt:=h.row.lt
 have hne:=h.ne
 rcases h.row.2 with ⟨_,hz⟩|⟨g,cap,cur,rfl,hg,_⟩
 ·omega
 ·exact ⟨g,cap,rfl,(hlt g rfl).2,(hlt g rfl).1,fun e=>hne (by rw [e];rfl)⟩
theorem pcells{w:World}{b:Nat}{c0 c1 c2 c3 c4:Value}(h:w.heap[b]? = some (.cells #[c0,c1,c2,c3,c4] 152 (0,0))) :
  w.cell? ⟨b,0,none⟩=some c0∧w.cell? ⟨b,1,none⟩=some c1∧w.cell? ⟨b,2,none⟩=some c2∧w.cell? ⟨b,3,none⟩=some c3∧w.cell? ⟨b,4,none⟩=some c4:=by
 refine ⟨?_,?_,?_,?_,?_⟩ <;> (rw [cell_of_row w b _ _ _ _ h];rfl)
def set5 (w:World) (b:Nat) (u0 u1 u2 u3 u4:Value):World:=((((w.setCell ⟨b,0,none⟩ u0).setCell ⟨b,1,none⟩ u1).setCell ⟨b,2,none⟩ u2).setCell ⟨b,3,none⟩ u3).setCell ⟨b,4,none⟩ u4
theorem store5{w:World}{b:Nat}{v0 v1 v2 v3 v4:Value}{t:TypeId}(h:w.heap[b]? = some (.cells #[v0,v1,v2,v3,v4] t (0,0)))(u0 u1 u2 u3 u4:Value):(set5 w b u0 u1 u2 u3 u4).heap[b]? = some (.cells #[u0,u1,u2,u3,u4] t (0,0)):=by
 have h0:(w.setCell ⟨b,0,none⟩ u0).heap[b]? = some (.cells #[u0,v1,v2,v3,v4] t (0,0)):=by simpa using heap_setCell_same w b 0 _ t u0 h
 have h1:((w.setCell ⟨b,0,none⟩ u0).setCell ⟨b,1,none⟩ u1).heap[b]? = some (.cells #[u0,u1,v2,v3,v4] t (0,0)):=by simpa using heap_setCell_same (w.setCell ⟨b,0,none⟩ u0) b 1 _ t u1 h0
 have h2:(((w.setCell ⟨b,0,none⟩ u0).setCell ⟨b,1,none⟩ u1).setCell ⟨b,2,none⟩ u2).heap[b]? = some (.cells #[u0,u1,u2,v3,v4] t (0,0)):=by simpa using heap_setCell_same ((w.setCell ⟨b,0,none⟩ u0).setCell ⟨b,1,none⟩ u1) b 2 _ t u2 h1
 have h3:((((w.setCell ⟨b,0,none⟩ u0).setCell ⟨b,1,none⟩ u1).setCell ⟨b,2,none⟩ u2).setCell ⟨b,3,none⟩ u3).heap[b]? = some (.cells #[u0,u1,u2,u3,v4] t (0,0)):=by simpa using heap_setCell_same (((w.setCell ⟨b,0,none⟩ u0).setCell ⟨b,1,none⟩ u1).setCell ⟨b,2,none⟩ u2) b 3 _ t u3 h2
 simpa [set5] using heap_setCell_same ((((w.setCell ⟨b,0,none⟩ u0).setCell ⟨b,1,none⟩ u1).setCell ⟨b,2,none⟩ u2).setCell ⟨b,3,none⟩ u3) b 4 _ t u4 h3
theorem pfree{w:World}{b:Nat}{c0 c1 c2 c3 c4:Value}{t:TypeId}(h:w.heap[b]? = some (.cells #[c0,c1,c2,c3,c4] t (0,0))) :
  w.frozen? ⟨b,0,none⟩=false∧w.frozen? ⟨b,1,none⟩=false∧w.frozen? ⟨b,2,none⟩=false∧w.frozen? ⟨b,3,none⟩=false∧w.frozen? ⟨b,4,none⟩=false:=
 ⟨frozen_of_row w b 0 _ _ h,frozen_of_row w b 1 _ _ h,frozen_of_row w b 2 _ _ h,frozen_of_row w b 3 _ _ h,frozen_of_row w b 4 _ _ h⟩
theorem ifind_yes(base ix:Nat)(v:Value)(l:List Ps)(k:Nat)(x:Ps)(w:World)(h:IxAt w base ix v l)(hx:ixFind l k=some x) :
  Calls Tryz.prog 120 #[.pointer (some ⟨ix,0,none⟩),.int .u64 k] w fun e w'=>e=.returned (.tuple #[psV x,.nilIface])∧Below w.heap.size w w':=by
 have hi:=(ixFind_get h.srt hx).1
 obtain ⟨g,c,rfl,hg,_,_⟩:=h.some (by have:=(List.getElem?_eq_some_iff.1 hi).1;omega)
 have hil:=(List.getElem?_eq_some_iff.1 hi).1
 obtain ⟨p,hp⟩:∃ p,p=ixAt l k:=⟨_,rfl⟩
 have H:=Hd h
 have hc:=h.cell
 have hlt:=h.lt
 rw [←hp] at hi hil
 obtain ⟨n,hn⟩:∃ n,n=l.length:=⟨_,rfl⟩
 rw [←hn] at hc hil
 have HN:=Hd hn
 have HP:=Hd hp
 have HI:=Hd hi
 have HX:=Hd hx
 obtain ⟨xk,xo,xl,xc,xg⟩:=x
 unfold psV
 simp only
 clear h hn hp hi hx
 go_enter Tryz.func120,Tryz.ntmps120
 go_wp2_with fail
 obtain ⟨w0,hw0⟩:∃ w0:World,w0=w.alloc (.cells #[.int .u64 0,.int .i64 0,.int .i64 0,.int .u32 0,.bool false] 152):=⟨_,rfl⟩
 have HB0:=Hd (show Below w.heap.size w w0 by rw [hw0];exact belo)
 have kb0:w0.heap[w.heap.size]? = some (.cells #[.int .u64 0,.int .i64 0,.int .i64 0,.int .u32 0,.bool false] 152 (0,0)):=by rw [hw0];exact heap_new w _
 have hl0:=blk_lt kb0
 rw [←hw0]
 clear hw0
 refine (place_at base ix _ l k _ (H.out.below HB0.out)).mono ?_
 rintro e w1 ⟨rfl,hb1⟩
 rw [←HP.out,HX.out,show (some (⟨xk,xo,xl,xc,xg⟩:Ps)).isSome=true from rfl]
 have HB1:=Hd (HB0.out.trans (hb1.mono HB0.out.size))
 have kb1:=(hb1.block w.heap.size hl0).trans kb0
 obtain ⟨q0,q1,q2,q3,q4⟩:=pcells kb1
 obtain ⟨f0,f1,f2,f3,f4⟩:=pfree kb1
 clear kb0
 obtain ⟨r0,r1,r2,r3,r4⟩:=row_at (ownsRow_below H.out.row HB1.out) (by rw [HI.out])
 have hc1:=(H.out.below HB1.out).cell
 rw [←HN.out] at hc1
 clear hb1 hc
 have hz1:=HB1.out.size
 go_wp2
 obtain ⟨wf,hwf⟩:∃ wf,wf=set5 w1 w.heap.size (.int .u64 xk) (.int .i64 xo) (.int .i64 xl) (.int .u32 xc) (.bool xg):=⟨_,rfl⟩
 have HB2:=Hd (show Below w.heap.size w wf by rw [hwf];unfold set5;exact HB1.out.trans belo)
 have kb2:=store5 kb1 (.int .u64 xk) (.int .i64 xo) (.int .i64 xl) (.int .u32 xc) (.bool xg)
 rw [←hwf] at kb2
 obtain ⟨s0,s1,s2,s3,s4⟩:=pcells kb2
 unfold set5 at hwf
 rw [←hwf]
 refine bodyPost_ret (v:=?_) ?_ rfl ?_
 rotate_left;(focus (simp [results,Tryz.results120,go_sem,s0,s1,s2,s3,s4];exact rfl))
 exact ⟨rfl,HB2.out⟩
theorem ifind_no(base ix:Nat)(v:Value)(l:List Ps)(k:Nat)(w:World)(h:IxAt w base ix v l)(hx:ixFind l k=none) :
  Calls Tryz.prog 120 #[.pointer (some ⟨ix,0,none⟩),.int .u64 k] w fun e w'=>e=.returned (.tuple #[psV ⟨0,0,0,0,false⟩,errV 6])∧Below w.heap.size w w':=by
 obtain ⟨p,hp⟩:∃ p,p=ixAt l k:=⟨_,rfl⟩
 have H:=Hd h
 have hlt:=h.lt
 have HP:=Hd hp
 have HX:=Hd hx
 unfold psV
 simp only
 clear h hp hx
 go_enter Tryz.func120,Tryz.ntmps120
 go_wp2_with fail
 obtain ⟨w0,hw0⟩:∃ w0:World,w0=w.alloc (.cells #[.int .u64 0,.int .i64 0,.int .i64 0,.int .u32 0,.bool false] 152):=⟨_,rfl⟩
 have HB0:=Hd (show Below w.heap.size w w0 by rw [hw0];exact belo)
 have kb0:w0.heap[w.heap.size]? = some (.cells #[.int .u64 0,.int .i64 0,.int .i64 0,.int .u32 0,.bool false] 152 (0,0)):=by rw [hw0];exact heap_new w _
 have hl0:=blk_lt kb0
 rw [←hw0]
 clear hw0
 refine (place_at base ix _ l k _ (H.out.below HB0.out)).mono ?_
 rintro e w1 ⟨rfl,hb1⟩
 rw [←HP.out,HX.out,show (none:Option Ps).isSome=false from rfl]
 have HB1:=Hd (HB0.out.trans (hb1.mono HB0.out.size))
 have kb1:=(hb1.block w.heap.size hl0).trans kb0
 obtain ⟨q0,q1,q2,q3,q4⟩:=pcells kb1
 obtain ⟨f0,f1,f2,f3,f4⟩:=pfree kb1
 clear kb0 hb1
 have hz1:=HB1.out.size
 go_wp2
 obtain ⟨wf,hwf⟩:∃ wf,wf=set5 w1 w.heap.size (.int .u64 0) (.int .i64 0) (.int .i64 0) (.int .u32 0) (.bool false):=⟨_,rfl⟩
 have HB2:=Hd (show Below w.heap.size w wf by rw [hwf];unfold set5;exact HB1.out.trans belo)
 have kb2:=store5 kb1 (.int .u64 0) (.int .i64 0) (.int .i64 0) (.int .u32 0) (.bool false)
 rw [←hwf] at kb2
 obtain ⟨s0,s1,s2,s3,s4⟩:=pcells kb2
 unfold set5 at hwf
 rw [←hwf]
 refine bodyPost_ret (v:=?_) ?_ rfl ?_
 rotate_left;(focus (simp [results,Tryz.results120,go_sem,s0,s1,s2,s3,s4];exact rfl))
 exact ⟨rfl,HB2.out⟩
theorem countP_snoc{α:Type}(f:α→Bool)(l:List α)(i:Nat)(x:α)(h:l[i]? = some x):(l.take (i+1)).countP f=(l.take i).countP f+if f x then 1 else 0:=by
 rw [List.take_add_one,h,List.countP_append]
 by_cases hf:f x <;> simp [hf]
theorem ilen_any(base ix:Nat)(v:Value)(l:List Ps)(w:World)(h:IxAt w base ix v l) :
  Calls Tryz.prog 114 #[.pointer (some ⟨ix,0,none⟩)] w fun e w'=>e=.returned (.tuple #[.int .i64 ((l.length - l.countP fun p=>p.gone:Nat):Int),.int .i64 (l.countP fun p=>p.gone:Nat)])∧Below w.heap.size w w':=by
 have hc:=h.cell
 have hlt:=h.lt
 have hf:=h.few
 have H:=Hd h
 obtain ⟨n,hn⟩:∃ n,n=l.length:=⟨_,rfl⟩
 obtain ⟨a,c,rfl⟩:=ownsRow_len h.row
 rw [←hn] at hc hf ⊢
 have HN:=Hd hn
 clear h hn
 go_enter Tryz.func114,Tryz.ntmps114
 go_wp2_with fail
 go_loopw [3,13] (fun m i wr=>∃ j:Nat,j≤n∧m=.int .i64 ((l.take j).countP fun p=>p.gone:Nat)∧i=.int .i64 j∧Below w.heap.size w wr) (fun _ i _=>n - (intOf i).toNat)
 case atStart=>exact ⟨0,Nat.zero_le _,rfl,rfl,belo⟩
 case round=>
  obtain ⟨j,hj,rfl,rfl,hb⟩:=hrel
  have HB:=Hd hb
  clear hb
  obtain ⟨m,hm⟩:∃ m,m=(l.take j).countP fun p=>p.gone:=⟨_,rfl⟩
  have hmj:m≤j:=by rw [hm];exact Nat.le_trans List.countP_le_length (by rw [List.length_take];omega)
  rw [←hm]
  have HM:=Hd hm
  clear hm
  by_cases hlt':j<n
  ·obtain ⟨g,c',e,hg,_,_⟩:=H.out.some (by have:=HN.out;omega)
   cases e
   obtain ⟨x,hx⟩:∃ x,l[j]? = some x:=⟨_,List.getElem?_eq_getElem (by have:=HN.out;omega)⟩
   obtain ⟨c0,c1,c2,c3,c4⟩:=row_at (ownsRow_below H.out.row HB.out) hx
   have HX:=Hd hx
   have hzr:=HB.out.size
   obtain ⟨xk,xo,xl,xc,xg⟩:=x
   simp only at c0 c1 c2 c3 c4
   clear hx
   cases xg
   all_goals
    go_wp2
    go_round
    case rel=>exact ⟨j+1,by omega,by first|(rw [countP_snoc _ _ _ _ HX.out,←HM.out];simp)|(rw [countP_snoc _ _ _ _ HX.out,←HM.out];rfl),by go_num,HB.out.trans belo⟩
    case measure=>simp [intOf];omega
  ·have hjn:j=n:=by omega
   subst hjn
   have hc1:=(H.out.below HB.out).cell
   rw [←HN.out] at hc1
   have HT:=Hd (show m=l.countP fun p=>p.gone by rw [HM.out,List.take_of_length_le (by have:=HN.out;omega)])
   go_wp2
   go_ret2
   refine ⟨?_,HB.out⟩
   rw [←HT.out]
   show Ending.returned (.tuple #[.int .i64 ((j:Int) - m),.int .i64 m])=_
   rw [Int.natCast_sub hmj]
theorem iall_any(base ix:Nat)(v:Value)(l:List Ps)(w:World)(h:IxAt w base ix v l) :
  Calls Tryz.prog 115 #[.pointer (some ⟨ix,0,none⟩)] w (CloneOut w 152 5 v l.length (l.flatMap psC)):=by
 have hc:=h.cell
 have hlt:=h.lt
 have HC:=Hd (clone_Pos v l.length (l.flatMap psC) w (reads_of_owns h.row) (psC_one l) (by have:=h.few;omega))
 clear h
 go_enter Tryz.func115,Tryz.ntmps115
 go_wp2_with (go_at_call 153;refine HC.out.mono ?_;rintro e w' ⟨v',rfl,ho,hn,hb⟩)
 go_ret
 exact ⟨_,rfl,ho,hn,hb⟩
theorem inew_nil(w:World):Calls Tryz.prog 48 #[.slice none 0 0] w fun e w'=>e=.returned (.pointer (some ⟨w.heap.size,0,none⟩))∧w.alloc (.cells #[.slice none 0 0] 186)=w':=by
 go_enter Tryz.func48,Tryz.ntmps48
 go_wp2_with fail
 go_loopw [10] (fun i wr=>i=.int .i64 0∧wr=w.alloc (.cells #[.slice none 0 0] 186)) (fun _ _=>0)
 case atStart=>exact ⟨rfl,rfl⟩
 case round=>
  obtain ⟨rfl,rfl⟩:=hrel
  go_wp2
  go_ret
  exact ⟨rfl,rfl⟩
theorem IxAt.made(w:World)(base:Nat)(hb:base≤w.heap.size):IxAt (w.alloc (.cells #[.slice none 0 0] 186)) base w.heap.size (.slice none 0 0) []:=
 ⟨heap_alloc_new w _,World.ownsRow_nil _ _ _ _,hb,by simp [Value.ownBlock],by simp,List.Pairwise.nil⟩
end Go.Proofs.YtfpjfoajonbndaaGreatDoor
