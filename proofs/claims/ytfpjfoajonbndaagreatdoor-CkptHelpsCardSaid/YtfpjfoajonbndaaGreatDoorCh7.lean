import Derived.Test.YtfpjfoajonbndaaGreatDoorCh6
import Derived.Shelf.SlMaps.Clone
import Derived.LoopTactic
namespace Go.Proofs.YtfpjfoajonbndaaGreatDoor
set_option maxHeartbeats 8000000
set_option maxRecDepth 100000
open Go.RowKit
set_option maxRecDepth 100000
set_option maxHeartbeats 8000000
open Go.RowKit Go.Maps
theorem dirclone_any(b:Nat)(g:Nat→Nat)(l:Dir)(w:World)(h:DirAt w b g l) :
  Calls Tryz.prog 58 #[.map (some b)] w fun e w'=>e=.returned (.map (some w.heap.size))∧DirAt w' w.heap.size g l∧Below w.heap.size w w'∧w.heap.size<w'.heap.size:=by
 obtain ⟨es,clock,hb,F,hs,hD⟩:=h
 have hq:=fun w=>run_eql_map_nil_sl (P:=Tryz.prog) w 101 _ _ (some b) Tryz.underlying101
 have h50:=@run_callFunc_extern Tryz.prog 106 _ Extern.MapsClone.clone Tryz.func106 (by kernel_rfl) (by kernel_rfl) (by kernel_rfl) (by kernel_rfl)
 have hrun:=run_maps_clone_sl (P:=Tryz.prog) w 101 hb
 have hta:=fun (W:World) (v:Value)=>run_typeAssert_map_sl (P:=Tryz.prog) W 101 20 _ _ v Tryz.underlying101
 have HF:=Hd F
 have HS:=Hd hs
 have HD:=Hd hD
 clear F hs hD hb
 go_enter Tryz.func58,Tryz.ntmps58
 go_wp2
 go_ret
 exact ⟨rfl,⟨es,clock,heap_new _ _,HF.out,HS.out,HD.out⟩,belo,by simp⟩
theorem DiskAt.syncTo{w w1 w':World}{d:Nat}{F:Nat→Prop}{q:DW}{st:Dk}(h:DiskAt w d F q st)(hb:Below w.heap.size w w1){nb:Nat}(hnb:w.heap.size≤nb)(hn:DirAt w1 nb q.fb st.now)(hk:Keeps (fun k=>k=d) w1 w')
  (hd:w'.heap[d]? = some (.cells #[.int .i64 st.cap,.int .i64 st.files.length,.map (some q.bn),.map (some nb),.slice none 0 0,.int .i64 st.armed] 104 (0,0))) :
  DiskAt w' d (fun k=>F k∨w.heap.size≤k) { q with bl:=nb,vd:=.slice none 0 0,ds:=[] } { st with lasting:=st.now,deeds:=[] }:=by
 have h1:=h.below hb
 have hh:=hits_one h1.blk
 have hlt:=h.now.lt
 exact ⟨hd,h1.now.hits hk hh (by simp [kindO]),hn.hits hk hh (by simp [kindO]),by show q.bn≠nb;omega,⟨World.ownsRow_nil _ _ _ _,fun i x hx=>by simp at hx,fun g hg=>by cases hg⟩,(h1.files.hits hk hh (by simp [kindO]) (by simp [kindO])).mono (fun _ h=>.inl h),.inl h.fd,.inl h.fn,.inr hnb⟩
theorem syncNames_any(d:Nat)(F:Nat→Prop)(q:DW)(st:Dk)(K:Nat)(w:World)(h:DiskAt w d F q st)(hok:DkOk K st) :
  Calls Tryz.prog 97 #[(.pointer (some ⟨d,0,none⟩))] w fun e w'=>e=.returned (errV st.syncNames.1)∧DiskTo w w' d F st.syncNames.2:=by
 have H:=Hd h
 have HOK:=Hd hok
 obtain ⟨c0,c1,c2,c3,c4,c5,cf⟩:=cells6 h.blk
 have hdl:=blk_lt h.blk
 clear h hok c0 c1 c3 c4 c5 cf
 by_cases ha:st.armed=0
 ·have e:st.syncNames=(12,st):=by unfold Dk.syncNames;rw [if_pos ha]
  rw [e]
  have HA:=Hd ha
  clear e ha
  go_enter Tryz.func97,Tryz.ntmps97
  go_wp2_with fail
  refine (up_any d F q st _ H.out).mono ?_
  rintro e w' ⟨rfl,rfl⟩
  rw [if_pos HA.out,errV_ne (by omega)]
  go_wp2
  go_ret
  exact ⟨rfl,H.out.same⟩
 ·have e:st.syncNames=(0,({ st with lasting:=st.now,deeds:=[] }:Dk).did):=by unfold Dk.syncNames;rw [if_neg ha]
  rw [e]
  have HA:=Hd ha
  clear e ha
  go_enter Tryz.func97,Tryz.ntmps97
  go_wp2_with fail
  refine (up_any d F q st _ H.out).mono ?_
  rintro e w' ⟨rfl,rfl⟩
  rw [if_neg HA.out,errV_zero]
  go_wp2_with fail
  refine (dirclone_any q.bn q.fb st.now _ H.out.now).mono ?_
  rintro e w1 ⟨rfl,hn1,hb1,hz1⟩
  have HN1:=Hd hn1
  have HB1:=Hd hb1
  have HBK:=Hd (blk_below H.out.blk hb1)
  obtain ⟨d0,d1,d2,d3,d4,d5,df⟩:=cells6 HBK.out
  clear hn1 hb1 d0 d1 d2 d5
  go_wp2_with fail
  have hkk:Keeps (fun j=>j=d) w1 ((w1.setCell ⟨d,3,none⟩ (.map (some w.heap.size))).setCell ⟨d,4,none⟩ (.slice none 0 0)):=(keeps_set _ _).trans (keeps_set _ _) fun _ _ e=>e
  have h6:=H.out.syncTo HB1.out (Nat.le_refl _) HN1.out hkk (by simpa using blk_put (blk_put HBK.out 3 (.map (some w.heap.size))) 4 (.slice none 0 0))
  refine (did_any d _ _ _ _ h6 HOK.out.armed.1 HOK.out.armed.2).mono ?_
  rintro e w7 ⟨rfl,h7,hk7⟩
  have H7:=Hd (h7.to (((keeps_below F HB1.out).trans (hkk.mono (G:=F) fun _ _ e=>e ▸ H.out.fd) fun _ _ h=>h).trans hk7 fun _ _ e=>e ▸ H.out.fd) (fun k hk=>hk))
  clear h7 hk7 h6 hkk
  go_wp2_with fail
  go_ret
  exact ⟨rfl,H7.out⟩
open Go.RowKit Go.Maps
theorem keepN_le(f:DFile)(p:DPick):keepN f p≤f.b.length - f.lasts:=Nat.min_le_right _ _
theorem settle_any(fb i:Nat)(v:Value)(f:DFile)(p:DPick)(w:World)(h1:w.heap[fb]? = some (.cells #[.int .i64 i,v,.int .i64 f.lasts] 138 (0,0)))(h2:FRow w v f.b)(hl:f.lasts≤f.b.length)(hb:f.b.length≤16777216)
  (hk1 : -9223372036854775808≤p.keep) (hk2:p.keep≤9223372036854775807) :
  Calls Tryz.prog 57 #[(.pointer (some ⟨fb,0,none⟩)),.agg #[.int .i64 p.keep,.int .u8 p.turn.toNat]] w fun e w'=>e=.returned (.tuple #[]) ∧
   ∃ v',w'.heap[fb]? = some (.cells #[.int .i64 i,v',.int .i64 (f.settle p).lasts] 138 (0,0))∧FRow w' v' (f.settle p).b∧(∀ g,v'.ownBlock=some g→w.heap.size≤g)∧Keeps (fun k=>k=fb) w w':=by
 obtain ⟨a,c,rfl,hac⟩:=h2.len
 obtain ⟨c0,c1,c2,cf⟩:=cells3 h1
 have H1:=Hd h1
 have H2:=Hd h2
 have hfl:=blk_lt h1
 obtain ⟨n,hn⟩:∃ n,n=f.b.length:=⟨_,rfl⟩
 obtain ⟨m,hm⟩:∃ m,m=f.lasts:=⟨_,rfl⟩
 obtain ⟨k,hk⟩:∃ k,k=keepN f p:=⟨_,rfl⟩
 have hkn:=keepN_le f p
 rw [←hn,←hm,←hk] at hkn
 have hkd:(k:Int)=min (max p.keep 0) ((n:Int) - (m:Int)):=by rw [hk,hn,hm];unfold keepN;omega
 rw [←hm] at c2 hl
 rw [←hn] at c1 hl hb hac
 have hwr:IntKind.i64.wrap ((n:Int) - (m:Int))=(n:Int) - (m:Int):=IntWalk.i64_in _ (by omega)
 have hwr2:IntKind.i64.wrap ((m:Int)+(k:Int))=(m:Int)+(k:Int):=IntWalk.i64_in _ (by omega)
 have HN:=Hd hn
 have HM:=Hd hm
 have HK:=Hd hk
 have HKD:=Hd hkd
 obtain ⟨k1,hk1'⟩:∃ k1:Int,k1=if p.keep<0 then 0 else p.keep:=⟨_,rfl⟩
 have he1:=hk1'.symm
 have he2:(if (n:Int) - (m:Int)<k1 then (n:Int) - (m:Int) else k1)=(k:Int):=by rw [hkd,hk1'];split <;> split <;> omega
 obtain ⟨xs,hxs⟩:∃ xs,xs=f.b.take (m+k):=⟨_,rfl⟩
 have hlen:xs.length=m+k:=by rw [hxs,List.length_take];omega
 have hrun:∀ W,(Instr.slice 47 (.slice a n c) none (some (.int .i64 ((m:Int)+(k:Int)))) none).run Tryz.prog W=.ok (.slice a xs.length c) W:=fun W=>by
  have:=run_prefix a n c (m+k) (h2.addr.imp (fun e=>⟨e.1,e.2.2⟩) id) (by omega) W
  rw [hlen]
  simpa using this
 have HRD:=Hd (show Reads w 1 (.slice a xs.length c) xs.length (xs.map bv) by
  have:=h2.pre (m+k) (by omega)
  rw [←hxs,←hlen] at this
  exact this)
 have HS:=Hd (show f.settle p=⟨if 0<k then xorAt xs (xs.length - 1) p.turn else xs,xs.length⟩ by
  unfold DFile.settle
  rw [←hk,←hm,←hxs]
  dsimp only
  split <;> simp [xorAt_len])
 have HLEN:=Hd hlen
 have hlen2:xs.length≤16777216:=by omega
 clear h1 h2 hn hm hk hkd c0 hk1' hxs hlen
 go_enter Tryz.func57,Tryz.ntmps57
 go_wp2_with fail
 refine wp_region_now0 [1,6,11] [(0,0),(1,2),(2,0),(3,0),(4,0),(5,0),(6,2),(7,0),(8,0),(9,0),(10,0),(11,2),(12,0),(13,0),(14,0)] (by kernel_rfl) (by kernel_rfl) rfl (by kernel_rfl) ?_
 refine stepE0 rfl rfl fun K hK=>?_;go_simp;refine hK _ ?_;clear hK K;refine stepE2 rfl rfl ?_ (fun w1 hS=>?_) fun K hK=>?_;rotate_left;(focus (obtain rfl:w1=_:=hS;go_simp;rfl));go_simp;refine hK _ ?_;clear hK K;(iterate 4 refine stepE0 rfl rfl fun K hK=>?_;go_simp;refine hK _ ?_;clear hK K);refine stepE2 rfl rfl ?_ (fun w1 hS=>?_) fun K hK=>?_;rotate_left;(focus (obtain rfl:w1=_:=hS;go_simp;rfl));go_simp;refine hK _ ?_;clear hK K;(iterate 4 refine stepE0 rfl rfl fun K hK=>?_;go_simp;refine hK _ ?_;clear hK K);refine stepE2 rfl rfl ?_ (fun w1 hS=>?_) fun K hK=>?_;rotate_left;(focus (obtain rfl:w1=_:=hS;go_simp;rfl));go_simp;refine hK _ ?_;clear hK K;(iterate 3 refine stepE0 rfl rfl fun K hK=>?_;go_simp;refine hK _ ?_;clear hK K)
 try refine stepEnil0 ?_
 clear he1 he2 hwr
 go_wp2_with fail
 refine wp_region_now0 [4,8] [(0,0),(1,0),(2,0),(3,0),(4,2),(5,0),(6,0),(7,0),(8,2),(9,0),(10,0),(11,0),(12,1),(13,0),(14,0),(15,1)] (by kernel_rfl) (by kernel_rfl) rfl (by kernel_rfl) ?_
 (iterate 4 refine stepE0 rfl rfl fun K hK=>?_;go_simp;refine hK _ ?_;clear hK K);refine stepE2 rfl rfl ?_ (fun w1 hS=>?_) fun K hK=>?_;rotate_left;(focus (obtain rfl:w1=_:=hS;go_simp;rfl));go_simp;refine hK _ ?_;clear hK K;(iterate 3 refine stepE0 rfl rfl fun K hK=>?_;go_simp;refine hK _ ?_;clear hK K);refine stepE2 rfl rfl ?_ (fun w1 hS=>?_) fun K hK=>?_;rotate_left;(focus (obtain rfl:w1=_:=hS;go_simp;rfl));go_simp;refine hK _ ?_;clear hK K;(iterate 3 refine stepE0 rfl rfl fun K hK=>?_;go_simp;refine hK _ ?_;clear hK K);refine stepE1 rfl rfl (by kernel_rfl) fun K hK=>?_
 (go_wp2_with fail;refine Calls.mono (bclone_any _ xs _ (HRD.out.below belo) (by omega)) ?_;rintro e w5 ⟨v5,rfl,ho5,_,hb5⟩;obtain ⟨a5,c5,rfl⟩:=ownsRow_len ho5;have HO5:=Hd ho5;have HB5:=Hd (show Below w.heap.size w w5 from Below.trans (((Below.refl w.heap.size w).alloc (Nat.le_refl _) _).drew.drew) (hb5.mono (by simp)));have HP5:=Hd (show w5.heap[w.heap.size]? = some (.cells #[.int .i64 p.keep,.int .u8 p.turn.toNat] 136 (0,0)) from (hb5.block w.heap.size (by simp)).trans (heap_new w _));have HF5:=Hd (blk_below H1.out HB5.out);have hz5:=hb5.size;obtain ⟨g0,g1,g2,gf⟩:=cells3 HF5.out;clear ho5 hb5 g0;go_wp2)
 (iterate 2 refine stepE0 rfl rfl fun K hK=>?_;go_simp;refine hK _ ?_;clear hK K);refine stepE1 rfl rfl (by kernel_rfl) fun K hK=>?_;go_wp2
 try refine stepEnil0 ?_
 clear hwr2 hrun
 have HR5:=Hd (FRow.own (b:=xs) HO5.out)
 have hbase:∀ g,(Value.slice a5 xs.length c5).ownBlock=some g→w.heap.size≤g:=fun g hg=>by
  have:=(HO5.out.lt g hg).1
  simp at this
  omega
 have HBASE:=Hd hbase
 clear hbase
 by_cases hk0:0<k
 ·have hk0':decide ((0:Int)<(k:Int))=true:=by simp;omega
  have hlen:=HLEN.out
  obtain ⟨j,hj⟩:∃ j,j+1=xs.length:=⟨xs.length - 1,by omega⟩
  have hjl:j<xs.length:=by omega
  obtain ⟨g,rfl⟩:∃ g,a5=some ⟨g,0,none⟩:=HR5.out.addr.elim (fun e=>by rw [e.2.1] at hjl;simp at hjl) id
  obtain ⟨y,hy⟩:∃ y,y=xs[j]:=⟨_,rfl⟩
  have hcell:w5.cell? ⟨g,j,none⟩=some (.int .u8 y.toNat):=by
   obtain ⟨_,⟨e,_⟩|⟨a0,c0,e,_,hc⟩⟩:=HR5.out.reads
   ·cases e
   ·simp only [Value.slice.injEq,Option.some.injEq] at e
    have:=hc j (bv xs[j]) (by rw [List.getElem?_map,List.getElem?_eq_getElem hjl];rfl)
    rw [←e.1,add_zero_off,←hy] at this
    exact this
  obtain ⟨cur,hcur⟩:=HR5.out.blk (g:=g) rfl
  have hfz:w5.frozen? ⟨g,j,none⟩=false:=frozen_of_row w5 g j _ _ hcur
  have hgs:w.heap.size≤g:=HBASE.out g rfl
  have hgn:g≠fb:=by omega
  have hgn2:fb≠g:=by omega
  have hpn:w.heap.size≠fb:=by omega
  have hpg:w.heap.size≠g:=fun e=>by rw [←e,HP5.out] at hcur;injection hcur with hcur;injection hcur with _ h9;exact absurd h9 (by decide)
  obtain ⟨p0,p1⟩:w5.cell? ⟨w.heap.size,0,none⟩=some (.int .i64 p.keep)∧w5.cell? ⟨w.heap.size,1,none⟩=some (.int .u8 p.turn.toNat):=by
   have e:=fun j=>cell_of_row w5 w.heap.size j _ _ _ HP5.out
   exact ⟨e 0,e 1⟩
  have hwr3:IntKind.i64.wrap ((xs.length:Int) - 1)=(j:Int):=by rw [IntWalk.i64_in _ (by omega)];omega
  have hjl':(j:Int)<(xs.length:Int):=by omega
  have hj0:(0:Int)≤(j:Int):=by omega
  have HX:=Hd (xor_bv y p.turn)
  have HJ:=Hd hj
  have HY:=Hd hy
  have hset:=HR5.out.set j (y ^^^ p.turn) hjl
  have HSET:=Hd hset
  have hfl5:=blk_lt HF5.out
  clear hj hy hcur hlen hset p0
  go_wp2_with fail
  refine wp_region_now0 [3,7,11,13] [(0,0),(1,0),(2,0),(3,2),(4,0),(5,0),(6,0),(7,2),(8,0),(9,0),(10,0),(11,2),(12,0),(13,2),(14,0),(15,0),(16,1)] (by kernel_rfl) (by kernel_rfl) rfl (by kernel_rfl) ?_
  (iterate 3 refine stepE0 rfl rfl fun K hK=>?_;go_simp;refine hK _ ?_;clear hK K);refine stepE2 rfl rfl ?_ (fun w1 hS=>?_) fun K hK=>?_;rotate_left;(focus (obtain rfl:w1=_:=hS;go_simp;rfl));go_simp;refine hK _ ?_;clear hK K;(iterate 3 refine stepE0 rfl rfl fun K hK=>?_;go_simp;refine hK _ ?_;clear hK K);refine stepE2 rfl rfl ?_ (fun w1 hS=>?_) fun K hK=>?_;rotate_left;(focus (obtain rfl:w1=_:=hS;go_simp;rfl));go_simp;refine hK _ ?_;clear hK K;(iterate 3 refine stepE0 rfl rfl fun K hK=>?_;go_simp;refine hK _ ?_;clear hK K);refine stepE2 rfl rfl ?_ (fun w1 hS=>?_) fun K hK=>?_;rotate_left;(focus (obtain rfl:w1=_:=hS;go_simp;rfl));go_simp;refine hK _ ?_;clear hK K;refine stepE0 rfl rfl fun K hK=>?_;go_simp;refine hK _ ?_;clear hK K;refine stepE2 rfl rfl ?_ (fun w1 hS=>?_) fun K hK=>?_;rotate_left;(focus (obtain rfl:w1=_:=hS;go_simp;rfl));go_simp;refine hK _ ?_;clear hK K;(iterate 2 refine stepE0 rfl rfl fun K hK=>?_;go_simp;refine hK _ ?_;clear hK K);refine stepE1 rfl rfl (by kernel_rfl) fun K hK=>?_;go_wp2
  try refine stepEnil0 ?_
  rw [HX.out]
  clear hwr3
  go_wp2_with fail
  go_end0
  have hbk:=blk_put (blk_set (blk_put HF5.out 1 (.slice (some ⟨g,0,none⟩) xs.length c5)) ⟨g,j,none⟩ (bv (y ^^^ p.turn)) hgn2) 2 (.int .i64 xs.length)
  have hr1:=keep_frow (keeps_set (b:=fb) 1 (.slice (some ⟨g,0,none⟩) xs.length c5)) (hits_one HF5.out) HR5.out (by simp [kindO])
  have hr2:=hr1.set j (y ^^^ p.turn) hjl
  have hr3:=keep_frow (keeps_set (b:=fb) 2 (.int .i64 xs.length)) (hits_one (blk_set (blk_put HF5.out 1 (.slice (some ⟨g,0,none⟩) xs.length c5)) ⟨g,j,none⟩ (bv (y ^^^ p.turn)) hgn2)) hr2 (by simp [kindO])
  refine ⟨rfl,.slice (some ⟨g,0,none⟩) xs.length c5,?_,?_,HBASE.out,?_⟩
  ·rw [HS.out]
   simp only [List.setIfInBounds_toArray,List.set_cons_succ,List.set_cons_zero] at hbk
   exact hbk
  ·rw [HS.out,if_pos hk0]
   have e:xorAt xs (xs.length - 1) p.turn=xs.set j (y ^^^ p.turn):=by
    have hj':xs.length - 1=j:=by have:=HJ.out;omega
    rw [hj',HY.out]
    unfold xorAt
    rw [List.getElem?_eq_getElem hjl]
    rfl
   rw [e]
   exact hr3
  ·exact ((((keeps_below (fun x=>x=fb) HB5.out).setCell _ _ fun _=>rfl).setCell ⟨g,j,none⟩ _ fun hl=>absurd hl (by show ¬ g<w.heap.size;omega)).setCell _ _ fun _=>rfl).drew
 ·have hk0':decide ((0:Int)<(k:Int))=false:=by simp;omega
  go_wp2_with fail
  go_end0
  have hkk:Keeps (fun x=>x=fb) w5 ((w5.setCell ⟨fb,1,none⟩ (.slice a5 xs.length c5)).setCell ⟨fb,2,none⟩ (.int .i64 xs.length)):=(keeps_set _ _).trans (keeps_set _ _) fun _ _ e=>e
  refine ⟨rfl,.slice a5 xs.length c5,?_,?_,HBASE.out,(keeps_below _ HB5.out).trans hkk fun _ _ e=>e⟩
  ·rw [HS.out]
   simpa using blk_put (blk_put HF5.out 1 (.slice a5 xs.length c5)) 2 (.int .i64 xs.length)
  ·rw [HS.out,if_neg hk0]
   exact keep_frow hkk (hits_one HF5.out) HR5.out (by simp [kindO])
open Go.RowKit Go.Maps
def DPick.row (p:DPick):List Value:=[.int .i64 p.keep,.int .u8 p.turn.toNat]
theorem DPick.row_len(p:DPick):p.row.length=2:=rfl
theorem run_prefixT(T e:TypeId)(hT:Tryz.prog.underlying T=some (.slice e))(hs:∀ W,(sizeOf e).run Tryz.prog W=.ok 1 W)(a:Option Addr)(len c n:Nat)(ha:(a=none∧c=0)∨∃ g,a=some ⟨g,0,none⟩)(hn:n≤c)(W:World):(Instr.slice T (.slice a len c) none (some (.int .i64 n)) none).run Tryz.prog W=.ok (.slice a n c) W:=by
 have e:(if c=0 then a else a.map (·.add (0 * 1)))=a:=by
  rcases ha with ⟨rfl,_⟩|⟨g,rfl⟩
  ·simp
  ·simp [add_zero_off]
 simp [Instr.slice,run_underlying hT,Instr.sliceBounds,run_sliceBound,hs,Result.andThen,(by omega:(0:Int)≤(n:Int)),(by omega:(n:Int)≤(c:Int))]
 simpa using e
theorem sameKey_str(a b:Nm):(Lit.string a).sameKey (.string b)=(a == b):=rfl
theorem get_of_mem:∀ {l:Dir} {x:Nm} {j:Nat},l.Pairwise (fun p q=>p.1≠q.1)→(x,j)∈l→dirGet l x=some j
 | [],_,_,_,h=>absurd h List.not_mem_nil
 | p :: r,x,j,hp,h=>by
  obtain ⟨h1,h2⟩:=List.pairwise_cons.1 hp
  unfold dirGet
  rw [List.find?_cons]
  rcases List.mem_cons.1 h with rfl|h
  ·simp
  ·have:(p.1 == x)=false:=beq_eq_false_iff_ne.2 (h1 _ h)
   rw [this]
   exact get_of_mem h2 h
def settleS (l:Dir) (p:DPicks) (left:Lit→Bool) (fs:List DFile):List DFile:=fs.mapIdx fun i f=>if l.any (fun x=>x.2 == i && !left (.string x.1)) then f.settle (p.at i) else f
theorem settleS_len(l:Dir)(p:DPicks)(left:Lit→Bool)(fs:List DFile):(settleS l p left fs).length=fs.length:=by simp [settleS]
theorem settleS_start(l:Dir)(p:DPicks)(g:Nat→Nat)(fs:List DFile):settleS l p (Maps.has (dirD g l)) fs=fs:=by
 unfold settleS
 refine List.ext_getElem? fun i=>?_
 rw [List.getElem?_mapIdx]
 cases h:fs[i]? with
 | none=>rfl
 | some f=>
  have e:(l.any fun x=>x.2 == i && !Maps.has (dirD g l) (.string x.1))=false:=by
   rw [List.any_eq_false]
   intro x hx
   rw [dirD_has,get_has hx]
   simp
  simp [e]
theorem settleS_end(l:Dir)(p:DPicks)(left:Lit→Bool)(fs:List DFile)(h:∀ kl,left kl=false):settleS l p left fs=settleAll l p fs:=by
 unfold settleS settleAll
 have e:∀ i:Nat,(l.any fun x=>x.2 == i && !left (.string x.1))=l.any fun x=>x.2 == i:=fun i=>by
  congr 1
  funext x
  rw [h]
  simp
 simp only [e]
theorem settleS_get(l:Dir)(p:DPicks)(left:Lit→Bool)(fs:List DFile)(i:Nat)(f:DFile)(h:fs[i]? = some f):∃ g,(settleS l p left fs)[i]? = some g∧(g=f∨g=f.settle (p.at i)):=by
 unfold settleS
 rw [List.getElem?_mapIdx,h]
 simp only [Option.map_some,Option.some.injEq,exists_eq_left']
 split
 ·exact .inr rfl
 ·exact .inl rfl
theorem settleS_step(l:Dir)(p:DPicks)(left:Lit→Bool)(fs:List DFile)(x:Nm)(i:Nat)(f:DFile)(hd:l.Pairwise (fun p q=>p.1≠q.1))(hx:dirGet l x=some i)(hf:(settleS l p left fs)[i]? = some f) :
  settleS l p (fun z=>left z && !z.sameKey (.string x)) fs=(settleS l p left fs).set i (f.settle (p.at i)):=by
 have hm:=get_mem hx
 refine List.ext_getElem? fun j=>?_
 by_cases hj:j=i
 ·subst hj
  have hl:j<(settleS l p left fs).length:=(List.getElem?_eq_some_iff.1 hf).1
  rw [List.getElem?_set_self hl]
  rw [settleS_len] at hl
  have h0:=List.getElem?_eq_getElem hl
  unfold settleS at hf ⊢
  rw [List.getElem?_mapIdx,h0] at hf ⊢
  simp only [Option.map_some,Option.some.injEq] at hf ⊢
  have ha:(l.any fun y=>y.2 == j && !(left (.string y.1) && !(Lit.string y.1).sameKey (.string x)))=true:=by
   rw [List.any_eq_true]
   exact ⟨(x,j),hm,by dsimp only;rw [sameKey_str];simp⟩
  rw [ha,if_pos rfl]
  subst hf
  split
  ·rw [settle_twice]
  ·rfl
 ·rw [List.getElem?_set_ne (Ne.symm hj)]
  unfold settleS
  rw [List.getElem?_mapIdx,List.getElem?_mapIdx]
  cases h:fs[j]? with
  | none=>rfl
  | some y=>
   simp only [Option.map_some,Option.some.injEq]
   have hap:(l.any fun y=>y.2 == j && !(left (.string y.1) && !(Lit.string y.1).sameKey (.string x)))=l.any fun y=>y.2 == j && !left (.string y.1):=by
    rw [Bool.eq_iff_iff,List.any_eq_true,List.any_eq_true]
    have hk:∀ y∈l,(y.2 == j && !(left (.string y.1) && !(Lit.string y.1).sameKey (.string x)))=(y.2 == j && !left (.string y.1)):=fun y hy=>by
     by_cases e:y.2=j
     ·have hne:y.1≠x:=fun e2=>hj (by
       have:=get_of_mem hd (show (y.1,y.2)∈l from hy)
       rw [e2,hx] at this
       simp at this
       omega)
      have:(Lit.string y.1).sameKey (.string x)=false:=beq_eq_false_iff_ne.2 hne
      rw [this]
      simp
     ·have:(y.2 == j)=false:=beq_eq_false_iff_ne.2 e
      rw [this]
      rfl
    constructor
    ·rintro ⟨y,hy,h1⟩
     exact ⟨y,hy,by rw [←hk y hy];exact h1⟩
    ·rintro ⟨y,hy,h1⟩
     exact ⟨y,hy,by rw [hk y hy];exact h1⟩
   rw [hap]
open Go.RowKit Go.Maps
theorem deedsApp_snoc(xs:List Deed)(j:Nat)(x:Deed)(l:Dir)(h:xs[j]? = some x):deedsApp (xs.take (j+1)) l=x.app (deedsApp (xs.take j) l):=by
 rw [List.take_add_one,h]
 simp [deedsApp,List.foldl_append]
theorem keeps_grow{w w':World}{b:Nat}(h:Keeps (fun k=>k=b) w w'):w.grownBy w' (some b):=⟨h.os,h.tape,h.output,h.size,fun i hi hne=>h.block i hi fun e=>hne (by rw [e])⟩
theorem settleS_bound(l:Dir)(p:DPicks)(left:Lit→Bool){fs:List DFile}(h:∀ f∈fs,f.lasts≤f.b.length∧f.b.length≤16777216){i:Nat}{g:DFile}(hg:(settleS l p left fs)[i]? = some g):g.lasts≤g.b.length∧g.b.length≤16777216:=by
 have hi:i<fs.length:=by
  have:=(List.getElem?_eq_some_iff.1 hg).1
  rwa [settleS_len] at this
 have hf:=List.getElem?_eq_getElem hi
 have hb:=h _ (List.getElem_mem hi)
 obtain ⟨g',h1,h2⟩:=settleS_get l p left fs i _ hf
 rw [hg] at h1
 cases h1
 rcases h2 with rfl|rfl
 ·exact hb
 ·have hk:=keepN_le fs[i] (p.at i)
  rw [settle_lasts,settle_len _ _ hb.1]
  omega
theorem DiskAt.crashTo{w w1 w':World}{d:Nat}{F:Nat→Prop}{q:DW}{st:Dk}(h:DiskAt w d F q st)(hb:Below w.heap.size w w1){nb:Nat}(hnb:w.heap.size≤nb)(hn:DirAt w1 nb q.fb st.lasting)(hk:Keeps (fun k=>k=d) w1 w')
  (hd:w'.heap[d]? = some (.cells #[.int .i64 st.cap,.int .i64 st.files.length,.map (some nb),.map (some q.bl),.slice none 0 0,.int .i64 (-1)] 104 (0,0))) :
  DiskAt w' d (fun k=>F k∨w.heap.size≤k) { q with bn:=nb,vd:=.slice none 0 0,ds:=[] } ⟨st.cap,st.lasting,st.lasting,[],st.files,-1⟩:=by
 have h1:=h.below hb
 have hh:=hits_one h1.blk
 have hlt:=h.last.lt
 exact ⟨hd,hn.hits hk hh (by simp [kindO]),h1.last.hits hk hh (by simp [kindO]),by show nb≠q.bl;omega,⟨World.ownsRow_nil _ _ _ _,fun i x hx=>by simp at hx,fun g hg=>by cases hg⟩,(h1.files.hits hk hh (by simp [kindO]) (by simp [kindO])).mono (fun _ h=>.inl h),.inl h.fd,.inr hnb,.inl h.fl⟩
theorem crash_any(d:Nat)(F:Nat→Prop)(q:DW)(st:Dk)(p:DPicks)(af:Option Addr)(cf:Nat)(K:Nat)(w:World)(h:DiskAt w d F q st)(hok:DkOk K st)(hK:K≤1099511627776)
  (hp:Reads w 2 (.slice af p.files.length cf) p.files.length (p.files.flatMap DPick.row)) (hpF:∀ a,af=some a→a.spot=none∧¬ F a.block∧a.block<w.heap.size) (hn1 : -9223372036854775808≤p.names) (hn2:p.names≤9223372036854775807)
  (hpk:∀ x∈p.files,-9223372036854775808≤x.keep∧x.keep≤9223372036854775807) :
  Calls Tryz.prog 18 #[(.pointer (some ⟨d,0,none⟩)),.agg #[.int .i64 p.names,.slice af p.files.length cf]] w fun e w'=>e=.returned .nilIface∧DiskTo w w' d F (st.crash p):=by
 obtain ⟨G,hG⟩:∃ G:Nat→Prop,G=fun k=>F k∧k<w.heap.size:=⟨_,rfl⟩
 have hg:=h.trim
 rw [←hG] at hg
 have H:=Hd hg
 have HG:=Hd (show ∀ k,G k→F k∧k<w.heap.size by rw [hG];exact fun _ h=>h)
 have HOK:=Hd hok
 have HP:=Hd hp
 have HPK:=Hd hpk
 have HPF:=Hd hpF
 have hnd:st.deeds.length≤1099511627776:=Nat.le_trans hok.nd hK
 have hnf:st.files.length≤1099511627776:=Nat.le_trans hok.nf hK
 obtain ⟨c0,c1,c2,c3,c4,c5,cfz⟩:=cells6 hg.blk
 obtain ⟨ad,cd,hvd⟩:=ownsRow_len hg.deeds.row
 rw [hvd] at c4
 have HVD:=Hd hvd
 have hcd:st.deeds.length≤cd:=by
  have hrow:=hg.deeds.row
  rw [hvd] at hrow
  rcases hrow.2 with ⟨e,h0⟩|⟨_,_,_,e,_,_,h1,_⟩
  ·omega
  ·simp only [Value.slice.injEq] at e
   omega
 have hda:(ad=none∧cd=0)∨∃ g,ad=some ⟨g,0,none⟩:=by
  have hrow:=hg.deeds.row
  rw [hvd] at hrow
  rcases hrow.2 with ⟨e,h0⟩|⟨g,_,_,e,_⟩
  ·simp only [Value.slice.injEq] at e
   exact .inl ⟨e.1,e.2.2⟩
  ·simp only [Value.slice.injEq] at e
   exact .inr ⟨g,e.1⟩
 obtain ⟨k,hk⟩:∃ k,k=min p.names.toNat st.deeds.length:=⟨_,rfl⟩
 have hkd:k≤st.deeds.length:=by rw [hk];exact Nat.min_le_right _ _
 obtain ⟨k1,hk1⟩:∃ k1:Int,k1=if p.names<0 then 0 else p.names:=⟨_,rfl⟩
 have he1:=hk1.symm
 have he2:(if (st.deeds.length:Int)<k1 then (st.deeds.length:Int) else k1)=(k:Int):=by rw [hk,hk1];split <;> split <;> omega
 have hrun:=run_prefixT 102 134 Tryz.underlying102 (fun W=>by kernel_rfl) ad st.deeds.length cd k hda (by omega)
 have HLD:=Hd (show st.lastDir p=deedsApp (st.deeds.take k) st.lasting by
  unfold Dk.lastDir
  rw [hk]
  by_cases e:p.names.toNat≤st.deeds.length
  ·rw [Nat.min_eq_left e]
  ·rw [Nat.min_eq_right (by omega),List.take_of_length_le (by omega),List.take_of_length_le (Nat.le_refl _)])
 have HDA:=Hd hda
 have hdl:=blk_lt hg.blk
 have HHD:=Hd hn1
 clear h hg hok hp hpk hpF hG c0 c1 c2 c5 hvd hda hk hk1
 go_enter Tryz.func18,Tryz.ntmps18
 go_wp2_with fail
 refine wp_region_now0 [3,5,10] [(0,0),(1,0),(2,0),(3,2),(4,0),(5,2),(6,0),(7,0),(8,0),(9,0),(10,2),(11,0),(12,0),(13,0),(14,0),(15,0)] (by kernel_rfl) (by kernel_rfl) rfl (by kernel_rfl) ?_
 (iterate 3 refine stepE0 rfl rfl fun K hK=>?_;go_simp;refine hK _ ?_;clear hK K);refine stepE2 rfl rfl ?_ (fun w1 hS=>?_) fun K hK=>?_;rotate_left;(focus (obtain rfl:w1=_:=hS;go_simp;rfl));go_simp;refine hK _ ?_;clear hK K;refine stepE0 rfl rfl fun K hK=>?_;go_simp;refine hK _ ?_;clear hK K;refine stepE2 rfl rfl ?_ (fun w1 hS=>?_) fun K hK=>?_;rotate_left;(focus (obtain rfl:w1=_:=hS;go_simp;rfl));go_simp;refine hK _ ?_;clear hK K;(iterate 4 refine stepE0 rfl rfl fun K hK=>?_;go_simp;refine hK _ ?_;clear hK K);refine stepE2 rfl rfl ?_ (fun w1 hS=>?_) fun K hK=>?_;rotate_left;(focus (obtain rfl:w1=_:=hS;go_simp;rfl));go_simp;refine hK _ ?_;clear hK K;(iterate 5 refine stepE0 rfl rfl fun K hK=>?_;go_simp;refine hK _ ?_;clear hK K)
 try refine stepEnil0 ?_
 clear he1 he2 hrun
 go_wp2_with fail
 obtain ⟨W1,hW1⟩:∃ W1:World,W1=(w.alloc (.cells #[.int .i64 p.names,.slice af p.files.length cf] 57)).drew:=⟨_,rfl⟩
 have hbW:Below w.heap.size w W1:=by rw [hW1];exact belo
 have HBW:=Hd hbW
 have HBX:=Hd (show W1.heap[w.heap.size]? = some (.cells #[.int .i64 p.names,.slice af p.files.length cf] 57 (0,0)) by rw [hW1];exact heap_new w _)
 rw [←hW1]
 clear hW1 hbW c3 c4 cfz
 go_loopw [28] (fun i wr=>∃ j:Nat,j≤k∧i=.int .i64 j∧DiskAt wr d G q { st with lasting:=deedsApp (st.deeds.take j) st.lasting }∧Keeps (fun x=>x=q.bl) W1 wr) (fun i _=>k - (intOf i).toNat)
 case atStart=>exact ⟨0,Nat.zero_le _,rfl,H.out.below HBW.out,Keeps.refl _ _⟩
 case round=>
  obtain ⟨j,hj,rfl,hd,hkw⟩:=hrel
  have HD:=Hd hd
  have HKW:=Hd hkw
  obtain ⟨e0,e1,e2,e3,e4,e5,ef⟩:=cells6 hd.blk
  clear hd hkw e0 e1 e2 e4 e5 ef
  by_cases hlt:j<k
  ·obtain ⟨x,hx⟩:∃ x,st.deeds[j]? = some x:=⟨_,List.getElem?_eq_getElem (by omega)⟩
   obtain ⟨v,hv,hdv⟩:=HD.out.deeds.dd j x hx
   obtain ⟨f,caps,rfl,hrun,hcall⟩:=deed_any d G q st v x q.bl _ wr HD.out.last (HOK.out.hist j) hdv
   obtain ⟨g,rfl⟩:∃ g,ad=some ⟨g,0,none⟩:=HDA.out.elim (fun e=>by omega) id
   have hcell:wr.cell? ⟨g,j,none⟩=some (.func (.func f) #[] caps):=by
    have:=HD.out.deeds.row.cells (g:=g) (by rw [HVD.out];rfl) j _ hv
    rwa [add_zero_off] at this
   have HC:=Hd hcall
   have HS:=Hd (deedsApp_snoc st.deeds j x st.lasting hx)
   have hj0:(0:Int)≤(j:Int):=by omega
   have hj1:(j:Int)<(k:Int):=by omega
   clear hx hv hdv hcall
   go_wp2_with fail
   refine HC.out.mono ?_
   rintro e w2 ⟨rfl,hn2',hk2⟩
   have HD2:=Hd (HD.out.lastTo hk2 hn2')
   have HK2:=Hd (HKW.out.trans hk2 fun _ _ e=>e)
   clear hn2' hk2
   go_wp2_with fail
   go_roundw
   case rel=>exact ⟨j+1,by omega,by go_num,by rw [HS.out];exact HD2.out,HK2.out⟩
   case measure=>simp [intOf];omega
  ·obtain rfl:j=k:=by omega
   have HD1:=Hd (show DiskAt wr d G q { st with lasting:=st.lastDir p } by rw [HLD.out];exact HD.out)
   go_wp2_with (at_range;refine wpList_range_own _ rfl _ 101 rfl 9 124 law_str Tryz.underlying101 ptrR q.bl (st.lastDir p).length (dirD q.fb (st.lastDir p)) rfl HD1.out.last ?_;intro w0 hrg0 hg0 hs0;have HR0:=Hd hrg0;have HG0:=Hd hg0;have HS0:=Hd hs0;clear hrg0 hg0 hs0)
   go_frame
   obtain ⟨wo,rfl⟩:∃ wo:World,wo=wr:=⟨_,rfl⟩
   have hgr:∀ x,G x→x<wo.heap.size:=fun x hx=>Nat.lt_of_lt_of_le (HG.out x hx).2 (Nat.le_trans HBW.out.size HKW.out.size)
   have hbx:wo.heap[w.heap.size]? = some (.cells #[.int .i64 p.names,.slice af p.files.length cf] 57 (0,0)):=
    (HKW.out.block _ (blk_lt HBX.out) fun e=>by have:=(HG.out _ (e ▸ H.out.fl)).2;omega).trans HBX.out
   have HBX2:=Hd hbx
   have HGR:=Hd hgr
   have hrp:Reads wo 2 (.slice af p.files.length cf) p.files.length (p.files.flatMap DPick.row):=by
    obtain ⟨hl,h0|⟨a0,c0,e,hm,hc⟩⟩:=HP.out
    ·exact ⟨hl,.inl h0⟩
    ·simp only [Value.slice.injEq] at e
     obtain ⟨hs1,hs2,hs3⟩:=HPF.out a0 e.1
     refine ⟨hl,.inr ⟨a0,c0,by rw [e.1,e.2.2],hm,fun m u hu=>?_⟩⟩
     have hb:(a0.add m).block=a0.block:=by unfold Addr.add;split <;> rfl
     have h1:=hc m u hu
     have h2:W1.cell? (a0.add m)=some u:=cell_later HBW.out h1
     rw [←h2]
     refine World.cell?_of_block (HKW.out.block _ (by rw [hb];exact Nat.lt_of_lt_of_le hs3 HBW.out.size) fun e=>hs2 ?_)
     rw [hb] at e
     exact (HG.out _ (e ▸ H.out.fl)).1
   have HRP:=Hd hrp
   have HAP:=Hd (dir_apart HD1.out.last)
   clear hgr hbx hrp e3
   go_loopw [8] (fun _ WS=>∃(left:Lit→Bool)(cnt:Nat)(fv:Nat→Value),WS.ranges Tryz.prog 9 ptrR q.bl wo.heap.size (st.lastDir p).length (dirD q.fb (st.lastDir p)) left cnt ∧
    DiskAt WS d (fun x=>G x∨wo.heap.size<x) { q with fv:=fv } { st with lasting:=st.lastDir p,files:=settleS (st.lastDir p) p left st.files }∧Keeps (fun x=>G x∨wo.heap.size≤x) wo WS) (fun _ WS=>WS.rangeLeft q.bl wo.heap.size)
   case atStart=>
    refine ⟨_,_,q.fv,HR0.out,?_,⟨HG0.out.os,HG0.out.tape,HG0.out.output,HG0.out.size,fun x hx _=>HG0.out.block x hx (by simp)⟩⟩
    rw [settleS_start]
    exact (HD1.out.below ⟨HG0.out.os,HG0.out.tape,HG0.out.output,HG0.out.size,fun x hx=>HG0.out.block x hx (by simp)⟩).mono fun _ h=>.inl h
   case round=>
    obtain ⟨left,cnt,fv,hrg,hds,hks⟩:=hrel
    have HRG:=Hd hrg
    have HDS:=Hd hds
    have HKS:=Hd hks
    clear hrg hds hks
    go_wp2_with (at_next;refine wpList_next_dir _ rfl _ rfl q.bl wo.heap.size (st.lastDir p).length q.fb (st.lastDir p) left cnt rfl HRG.out ?_ ?_)
    ·intro hl0
     have HL0:=Hd hl0
     clear hl0
     have HDE:=Hd (show DiskAt wr d (fun x=>G x∨wo.heap.size<x) { q with fv:=fv } { st with lasting:=st.lastDir p,files:=settleAll (st.lastDir p) p st.files } by
      have:=HDS.out
      rw [settleS_end _ _ _ _ HL0.out] at this
      exact this)
     obtain ⟨e0,e1,e2,e3,e4,e5,ef⟩:=cells6 HDE.out.blk
     have hdl2:=blk_lt HDE.out.blk
     clear e0 e1 e2 e4 e5 ef
     go_wp2_with fail
     refine (dirclone_any q.bl q.fb (st.lastDir p) _ HDE.out.last).mono ?_
     rintro e w1 ⟨rfl,hn1',hb1,hz1⟩
     have HN1:=Hd hn1'
     have HB1:=Hd hb1
     have HBK:=Hd (blk_below HDE.out.blk hb1)
     obtain ⟨d0,d1,d2,d3,d4,d5,df⟩:=cells6 HBK.out
     clear hn1' hb1 d0 d1 d3
     go_wp2_with fail
     have hkk:Keeps (fun j=>j=d) w1 (((w1.setCell ⟨d,2,none⟩ (.map (some wr.heap.size))).setCell ⟨d,4,none⟩ (.slice none 0 0)).setCell ⟨d,5,none⟩ (.int .i64 (-1))):=((keeps_set _ _).trans (keeps_set _ _) fun _ _ e=>e).trans (keeps_set _ _) fun _ _ e=>e
     have h6:=HDE.out.crashTo HB1.out (Nat.le_refl _) HN1.out hkk (by simpa using blk_put (blk_put (blk_put HBK.out 2 (.map (some wr.heap.size))) 4 (.slice none 0 0)) 5 (.int .i64 (-1)))
     have hfd:F d:=(HG.out _ H.out.fd).1
     have hko:Keeps F w wo:=(keeps_below F HBW.out).trans HKW.out fun _ _ e=>e ▸ (HG.out _ H.out.fl).1
     have hkw:Keeps F w wr:=hko.trans HKS.out fun y hy e=>e.elim (fun e=>(HG.out _ e).1) fun e=>by have:=hko.size;omega
     have hk9:=(hkw.trans (keeps_below (fun _=>False) HB1.out) fun _ _ e=>e.elim).trans hkk fun _ _ e=>e ▸ hfd
     go_ret
     refine ⟨rfl,h6.to hk9 fun y hy=>?_⟩
     rcases hy with (hy|hy)|hy
     ·exact .inl (HG.out _ hy).1
     ·exact .inr (by have:=hko.size;omega)
     ·exact .inr (by have:=hkw.size;omega)
    ·intro x i ws1 cnt1 hlx hgx hrg1 hlt1 hg1 hs1 hen
     have hk1:Keeps (fun y=>y=wo.heap.size) wr ws1:=keeps_grown hg1
     have HD3:=Hd (HDS.out.keeps hk1 (fun y hy e=>by subst e;exact hy.elim (fun h=>by have:=HGR.out _ h;omega) (fun h=>by omega)))
     have HK3:=Hd (HKS.out.trans (hk1.mono (G:=fun x=>G x∨wo.heap.size≤x) fun y _ e=>.inr (by omega)) fun _ _ e=>e)
     have hil:i<st.files.length:=HOK.out.lastDir p _ (get_mem hgx)
     have hil2:i<(settleS (st.lastDir p) p left st.files).length:=by rw [settleS_len];exact hil
     obtain ⟨f,hf⟩:∃ f,(settleS (st.lastDir p) p left st.files)[i]? = some f:=⟨_,List.getElem?_eq_getElem hil2⟩
     obtain ⟨hfb,hfr⟩:=HD3.out.files.fi i f hf
     have hfb':ws1.heap[q.fb i]? = some (.cells #[.int .i64 i,fv i,.int .i64 f.lasts] 138 (0,0)):=hfb
     have hfbd:=settleS_bound (st.lastDir p) p left HOK.out.fb hf
     obtain ⟨f0,f1,f2,ffz⟩:=cells3 hfb'
     have hfi:=blk_lt hfb'
     have hpb:ws1.heap[w.heap.size]? = some (.cells #[.int .i64 p.names,.slice af p.files.length cf] 57 (0,0)):=
      (HK3.out.block _ (blk_lt HBX2.out) fun e=>e.elim (fun e=>by have:=(HG.out _ e).2;omega) fun e=>by have:=blk_lt HBX2.out;omega).trans HBX2.out
     obtain ⟨b0,b1⟩:ws1.cell? ⟨w.heap.size,0,none⟩=some (.int .i64 p.names)∧ws1.cell? ⟨w.heap.size,1,none⟩=some (.slice af p.files.length cf):=by
      have e:=fun j=>cell_of_row ws1 w.heap.size j _ _ _ hpb
      exact ⟨e 0,e 1⟩
     have hpbl:=blk_lt hpb
     have HF:=Hd hf
     have HFB:=Hd hfb'
     have HFR:=Hd (show FRow ws1 (fv i) f.b from hfr)
     have HR1:=Hd hrg1
     have HLX:=Hd hlx
     have HGX:=Hd hgx
     have HLT:=Hd hlt1
     have hi0:(0:Int)≤(i:Int):=by omega
     have hib:(i:Int)≤1099511627776:=by omega
     clear hk1 hf hfb hfr hfb' hrg1 hlx hgx hlt1 hg1 hs1 b0 f1 f2 hil2
     by_cases hin:i<p.files.length
     ·obtain ⟨y,hy⟩:∃ y,p.files[i]? = some y:=⟨_,List.getElem?_eq_getElem hin⟩
      have hpa:p.at i=y:=by unfold DPicks.at;rw [hy];rfl
      have hin':(i:Int)<(p.files.length:Int):=by omega
      obtain ⟨_,⟨e,e2⟩|⟨a0,c9,e,hm,hc⟩⟩:=HRP.out
      ·omega
      ·simp only [Value.slice.injEq] at e
       obtain ⟨rfl,_,rfl⟩:=e
       obtain ⟨hs1,hs2,hs3⟩:=HPF.out a0 rfl
       obtain ⟨pb,po,rfl⟩:∃ pb po,a0=⟨pb,po,none⟩:=⟨a0.block,a0.off,by rw [←hs1]⟩
       have hcell:∀ j u,y.row[j]? = some u→ws1.cell? ⟨pb,po+(i * 2+j),none⟩=some u:=fun j u hu=>by
        have hj:j<2:=by
         have:=(List.getElem?_eq_some_iff.1 hu).1
         simpa [DPick.row] using this
        have h1:=hc (i * 2+j) u (by rw [getElem?_flatMap_row DPick.row 2 DPick.row_len p.files i j hj,hy];exact hu)
        have hadd:(⟨pb,po,none⟩:Addr).add (i * 2+j)=⟨pb,po+(i * 2+j),none⟩:=by unfold Addr.add;split <;> simp_all
        rw [hadd] at h1
        rw [←h1]
        exact World.cell?_of_block (HK3.out.block _ (Nat.lt_of_lt_of_le hs3 (Nat.le_trans HBW.out.size HKW.out.size)) fun e=>e.elim (fun e=>hs2 (HG.out _ e).1) fun e=>by
         have h8:wo.heap.size≤pb:=e
         have h9:pb<w.heap.size:=hs3
         have:=Nat.le_trans HBW.out.size HKW.out.size
         omega)
       have q0:ws1.cell? ⟨pb,po+i * 2,none⟩=some (.int .i64 y.keep):=hcell 0 _ rfl
       have q1:ws1.cell? ⟨pb,po+i * 2+1,none⟩=some (.int .u8 y.turn.toNat):=hcell 1 _ rfl
       rw [←hpa] at q0 q1
       have HPI:=Hd (by rw [hpa];exact HPK.out y (List.mem_of_getElem? hy) : -9223372036854775808≤(p.at i).keep∧(p.at i).keep≤9223372036854775807)
       have hpbl2:pb<ws1.heap.size:=by
        have h9:pb<w.heap.size:=hs3
        omega
       clear hs1 hs2 hs3 hc hcell hm hy hpa
       go_wp2_with fail
       refine wp_region_now0 [3,5] [(0,0),(1,0),(2,0),(3,2),(4,0),(5,2),(6,0),(7,0)] (by kernel_rfl) (by kernel_rfl) rfl (by kernel_rfl) ?_
       (iterate 3 refine stepE0 rfl rfl fun K hK=>?_;go_simp;refine hK _ ?_;clear hK K);refine stepE2 rfl rfl ?_ (fun w1 hS=>?_) fun K hK=>?_;rotate_left;(focus (obtain rfl:w1=_:=hS;go_simp;rfl));go_simp;refine hK _ ?_;clear hK K;refine stepE0 rfl rfl fun K hK=>?_;go_simp;refine hK _ ?_;clear hK K;refine stepE2 rfl rfl ?_ (fun w1 hS=>?_) fun K hK=>?_;rotate_left;(focus (obtain rfl:w1=_:=hS;go_simp;rfl));go_simp;refine hK _ ?_;clear hK K;(iterate 2 refine stepE0 rfl rfl fun K hK=>?_;go_simp;refine hK _ ?_;clear hK K)
       try refine stepEnil0 ?_
       go_wp2_with fail
       refine wp_region_now0 [1,5,7] [(0,0),(1,2),(2,0),(3,0),(4,0),(5,2),(6,0),(7,2),(8,1)] (by kernel_rfl) (by kernel_rfl) rfl (by kernel_rfl) ?_
       refine stepE0 rfl rfl fun K hK=>?_;go_simp;refine hK _ ?_;clear hK K;refine stepE2 rfl rfl ?_ (fun w1 hS=>?_) fun K hK=>?_;rotate_left;(focus (obtain rfl:w1=_:=hS;go_simp;rfl));go_simp;refine hK _ ?_;clear hK K;(iterate 3 refine stepE0 rfl rfl fun K hK=>?_;go_simp;refine hK _ ?_;clear hK K);refine stepE2 rfl rfl ?_ (fun w1 hS=>?_) fun K hK=>?_;rotate_left;(focus (obtain rfl:w1=_:=hS;go_simp;rfl));go_simp;refine hK _ ?_;clear hK K;refine stepE0 rfl rfl fun K hK=>?_;go_simp;refine hK _ ?_;clear hK K;refine stepE2 rfl rfl ?_ (fun w1 hS=>?_) fun K hK=>?_;rotate_left;(focus (obtain rfl:w1=_:=hS;go_simp;rfl));go_simp;refine hK _ ?_;clear hK K;refine stepE1 rfl rfl (by kernel_rfl) fun K hK=>?_;go_wp2
       try refine stepEnil0 ?_
       go_wp2_with fail
       refine (settle_any (q.fb i) i (fv i) f (p.at i) _ (by exact blk_alloc HFB.out _) (by exact HFR.out.below belo) hfbd.1 hfbd.2 (HPI.out.1) (HPI.out.2)).mono ?_
       rintro e w5 ⟨rfl,v5,hb5,hr5,hv5,hk5⟩
       have hk6:Keeps (fun y=>y=q.fb i) ws1 w5:=(keeps_below (fun y=>y=q.fb i) belo).trans hk5 fun _ _ e=>e
       have h6:=HD3.out.one (i:=i) (by show i<(settleS (st.lastDir p) p left st.files).length;rw [settleS_len];exact hil) hk6 (fun _ _ e=>.inl e) (f.settle (p.at i)) v5 hb5 hr5 (fun g hg=>.inr (by have:=hv5 g hg;simp at this;omega))
       have hne:q.bl≠q.fb i:=(HD3.out.last).ne HFB.out
       have hff:G (q.fb i)∨wo.heap.size<q.fb i:=(HD3.out.files.ff i (by show i<(settleS (st.lastDir p) p left st.files).length;rw [settleS_len];exact hil)).1
       have hne2:wo.heap.size≠q.fb i:=fun e=>hff.elim (fun h=>by have:=HGR.out _ h;omega) fun h=>by have h7:wo.heap.size<q.fb i:=h;omega
       have HR6:=Hd (HR1.out.kept (keeps_grow hk6) (fun e=>hne (Option.some.inj e)) (fun e=>hne2 (Option.some.inj e)))
       have hzo:=HK3.out.size
       have HD6:=Hd (h6.mono (G:=fun x=>G x∨wo.heap.size<x) fun y hy=>hy.elim id fun e=>.inr (Nat.lt_of_lt_of_le (HR1.out.lt) e))
       have HK6:=Hd (HK3.out.trans (hk6.mono (G:=fun x=>G x∨wo.heap.size≤x) fun y _ e=>e ▸ hff.imp id (fun h=>Nat.le_of_lt h)) fun _ _ e=>e)
       have HST:=Hd (settleS_step (st.lastDir p) p left st.files x i f HAP.out HGX.out HF.out)
       clear hb5 hr5 hv5 hk5 hk6 h6 hff hne hne2 hzo
       go_wp2_with fail
       go_roundw
       case rel=>exact ⟨_,cnt1,upd fv i v5,HR6.out,by rw [HST.out];exact HD6.out,HK6.out⟩
       case measure=>rw [HR6.out.left_eq,HRG.out.left_eq];exact HLT.out
     ·have hpa:p.at i=⟨0,0⟩:=by unfold DPicks.at;rw [List.getElem?_eq_none (by omega)];rfl
      have hin':decide ((i:Int)<(p.files.length:Int))=false:=by simp;omega
      have HPA:=Hd hpa
      clear hpa
      focus
       go_wp2_with fail
       refine wp_region_now0 [3,5] [(0,0),(1,0),(2,0),(3,2),(4,0),(5,2),(6,0),(7,0)] (by kernel_rfl) (by kernel_rfl) rfl (by kernel_rfl) ?_
       (iterate 3 refine stepE0 rfl rfl fun K hK=>?_;go_simp;refine hK _ ?_;clear hK K);refine stepE2 rfl rfl ?_ (fun w1 hS=>?_) fun K hK=>?_;rotate_left;(focus (obtain rfl:w1=_:=hS;go_simp;rfl));go_simp;refine hK _ ?_;clear hK K;refine stepE0 rfl rfl fun K hK=>?_;go_simp;refine hK _ ?_;clear hK K;refine stepE2 rfl rfl ?_ (fun w1 hS=>?_) fun K hK=>?_;rotate_left;(focus (obtain rfl:w1=_:=hS;go_simp;rfl));go_simp;refine hK _ ?_;clear hK K;(iterate 2 refine stepE0 rfl rfl fun K hK=>?_;go_simp;refine hK _ ?_;clear hK K)
       try refine stepEnil0 ?_
       go_wp2_with fail
       refine (settle_any (q.fb i) i (fv i) f ⟨0,0⟩ _ (by exact blk_alloc HFB.out _) (by exact HFR.out.below belo) hfbd.1 hfbd.2 (by decide) (by decide)).mono ?_
       rintro e w5 ⟨rfl,v5,hb5,hr5,hv5,hk5⟩
       have hk6:Keeps (fun y=>y=q.fb i) ws1 w5:=(keeps_below (fun y=>y=q.fb i) belo).trans hk5 fun _ _ e=>e
       have h6:=HD3.out.one (i:=i) (by show i<(settleS (st.lastDir p) p left st.files).length;rw [settleS_len];exact hil) hk6 (fun _ _ e=>.inl e) (f.settle ⟨0,0⟩) v5 hb5 hr5 (fun g hg=>.inr (by have:=hv5 g hg;simp at this;omega))
       have hne:q.bl≠q.fb i:=(HD3.out.last).ne HFB.out
       have hff:G (q.fb i)∨wo.heap.size<q.fb i:=(HD3.out.files.ff i (by show i<(settleS (st.lastDir p) p left st.files).length;rw [settleS_len];exact hil)).1
       have hne2:wo.heap.size≠q.fb i:=fun e=>hff.elim (fun h=>by have:=HGR.out _ h;omega) fun h=>by have h7:wo.heap.size<q.fb i:=h;omega
       have HR6:=Hd (HR1.out.kept (keeps_grow hk6) (fun e=>hne (Option.some.inj e)) (fun e=>hne2 (Option.some.inj e)))
       have hzo:=HK3.out.size
       have HD6:=Hd (h6.mono (G:=fun x=>G x∨wo.heap.size<x) fun y hy=>hy.elim id fun e=>.inr (Nat.lt_of_lt_of_le (HR1.out.lt) e))
       have HK6:=Hd (HK3.out.trans (hk6.mono (G:=fun x=>G x∨wo.heap.size≤x) fun y _ e=>e ▸ hff.imp id (fun h=>Nat.le_of_lt h)) fun _ _ e=>e)
       have HST:=Hd (settleS_step (st.lastDir p) p left st.files x i f HAP.out HGX.out HF.out)
       clear hb5 hr5 hv5 hk5 hk6 h6 hff hne hne2 hzo
       go_wp2_with fail
       go_roundw
       case rel=>exact ⟨_,cnt1,upd fv i v5,HR6.out,by rw [HST.out,HPA.out];exact HD6.out,HK6.out⟩
       case measure=>rw [HR6.out.left_eq,HRG.out.left_eq];exact HLT.out
end Go.Proofs.YtfpjfoajonbndaaGreatDoor
