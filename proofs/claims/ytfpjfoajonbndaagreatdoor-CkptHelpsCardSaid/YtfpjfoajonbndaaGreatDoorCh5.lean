import Derived.Test.YtfpjfoajonbndaaGreatDoorCh4
import Derived.Test.YtfpjfoajonbndaaGreatDoorCh2
import Derived.Maps.RangeWalk
import Derived.LoopTactic
namespace Go.Proofs.YtfpjfoajonbndaaGreatDoor
set_option maxHeartbeats 8000000
set_option maxRecDepth 100000
open Go.RowKit
set_option maxRecDepth 100000
set_option maxHeartbeats 8000000
open Go.RowKit Go.Maps
theorem wpList_dirlen(w:World){ops:Array Oper}{rest:List Oper}{o:Oper}{a:Act}{Q:Exit→Act→World→Prop}(hg:o.guard=none)(m:Operand)(hop:o.op=Op.call { callee:=Callee.builtin Builtin.len,args:=#[m],argTypes:=#[101] })
  (b:Nat) (g:Nat→Nat) (l:Dir) (hm:a.eval m=.map (some b)) (h:DirAt w b g l) (hK:wpList Tryz.prog ops Q rest (a.put o.dst (.int .i64 l.length)) w):wpList Tryz.prog ops Q (o :: rest) a w:=
 wpList_len_own w hg m 101 hop 9 124 Tryz.underlying101 ptrR b l.length (dirD g l) hm h (by rw [dirD_size];exact hK)
theorem DiskTo.from{w W w':World}{d:Nat}{F:Nat→Prop}{st:Dk}(h:DiskTo W w' d (fun k=>F k∨w.heap.size≤k) st)(hk:Keeps F w W):DiskTo w w' d F st:=by
 obtain ⟨⟨q,hq⟩,h2⟩:=h
 exact hq.to (hk.trans h2 fun i hi hg=>hg.elim id fun e=>by omega) fun k hk'=>by
  rcases hk'.1 with (h|h)|h
  ·exact .inl h
  ·exact .inr h
  ·exact .inr (Nat.le_trans hk.size h)
def upd {α:Type} (g:Nat→α) (n:Nat) (x:α) (i:Nat):α:=if i=n then x else g i
theorem upd_same{α:Type}(g:Nat→α)(n:Nat)(x:α):upd g n x n=x:=if_pos rfl
theorem upd_lt{α:Type}(g:Nat→α){n i:Nat}(x:α)(h:i<n):upd g n x i=g i:=if_neg (by omega)
theorem DiskAt.fileTo{w w':World}{d:Nat}{F:Nat→Prop}{q:DW}{st:Dk}{K:Nat}(h:DiskAt w d F q st)(hok:DkOk K st)(hk:Keeps (fun k=>k=d) w w')(nf:Nat)(hnf:w.heap.size≤nf)
  (hb:w'.heap[nf]? = some (.cells #[.int .i64 st.files.length,.slice none 0 0,.int .i64 0] 138 (0,0)))
  (hd:w'.heap[d]? = some (.cells #[.int .i64 st.cap,.int .i64 ((st.files.length:Int)+1),.map (some q.bn),.map (some q.bl),q.vd,.int .i64 st.armed] 104 (0,0))) :
  DiskAt w' d (fun k=>F k∨w.heap.size≤k) { q with fb:=upd q.fb st.files.length nf,fv:=upd q.fv st.files.length (.slice none 0 0) } { st with files:=st.files ++ [⟨[],0⟩] }:=by
 have hh:=hits_one h.blk
 have hn:∀ i,i<st.files.length→q.fb i≠nf:=fun i hi e=>by
  have:=blk_lt (h.file hi).1
  omega
 refine ⟨by rw [hd];simp,(h.now.hits hk hh (by simp [kindO])).congr fun p hp=>(upd_lt _ _ (hok.fnow p hp)).symm,(h.last.hits hk hh (by simp [kindO])).congr fun p hp=>(upd_lt _ _ (hok.flast p hp)).symm,h.ne,
  (h.deeds.hits hk hh (by simp [kindO]) (by simp [kindO]) (by simp [kindO])).mono (fun _ h=>.inl h) fun x hx hk=>(upd_lt _ _ (hok.fdeed x hx hk)).symm,?_,.inl h.fd,.inl h.fn,.inl h.fl⟩
 have hf:=h.files.hits hk hh (by simp [kindO]) (by simp [kindO])
 refine ⟨fun i f hi=>?_,fun i j hi hj e=>?_,fun i j g hi hj e1 e2=>?_,fun i hi=>?_⟩
 ·by_cases hl:i<st.files.length
  ·show w'.heap[upd q.fb st.files.length nf i]? = _∧_
   rw [List.getElem?_append_left hl] at hi
   simp only [upd_lt _ _ hl]
   exact hf.fi i f hi
  ·obtain rfl:i=st.files.length:=by
    have:=(List.getElem?_eq_some_iff.1 hi).1
    simp at this
    omega
   simp at hi
   subst hi
   simp only [upd_same]
   exact ⟨hb,FRow.nil _⟩
 ·simp only [List.length_append,List.length_cons,List.length_nil] at hi hj
  simp only [upd] at e
  split at e <;> split at e
  ·omega
  ·exact absurd e.symm (hn j (by omega))
  ·exact absurd e (hn i (by omega))
  ·exact hf.inj i j (by omega) (by omega) e
 ·simp only [List.length_append,List.length_cons,List.length_nil] at hi hj
  simp only [upd] at e1 e2
  split at e1
  ·cases e1
  ·split at e2
   ·cases e2
   ·exact hf.apart i j g (by omega) (by omega) e1 e2
 ·simp only [List.length_append,List.length_cons,List.length_nil] at hi
  by_cases hl:i<st.files.length
  ·simp only [upd_lt _ _ hl]
   exact ⟨.inl (hf.ff i hl).1,fun g hg=>.inl ((hf.ff i hl).2 g hg)⟩
  ·obtain rfl:i=st.files.length:=by omega
   simp only [upd_same]
   exact ⟨.inr hnf,fun g hg=>by cases hg⟩
theorem new_any(c:Nat)(hc:c≤1073741824)(w:World) :
  Calls Tryz.prog 11 #[.int .i64 c] w fun e w'=>e=.returned (.tuple #[(.pointer (some ⟨w.heap.size+2,0,none⟩)),.nilIface])∧DiskIs w' (w.heap.size+2) (fun k=>w.heap.size≤k) (Dk.new c)∧Below w.heap.size w w':=by
 have h1:decide ((1073741824:Int)<(c:Int))=false:=by simp;omega
 have hmm:=@run_makeMap Tryz.prog
 go_enter Tryz.func11,Tryz.ntmps11
 go_wp2
 go_ret2
 refine ⟨rfl,⟨⟨w.heap.size,w.heap.size+1,.slice none 0 0,[],fun _=>0,fun _=>.slice none 0 0⟩,?_⟩,belo⟩
 refine ⟨blk_new _ (by simp),(((World.ownsMap_made _ _ _ _).alloc _).alloc _),((show DirAt _ (w.heap.size+1) (fun _=>0) [] from by have:=World.ownsMap_made (w.alloc (.map #[] 0)) Tryz.prog 9 ptrR;rw [World.size_alloc] at this;exact this).alloc _),by simp,⟨World.ownsRow_nil _ _ _ _,fun i x hx=>by simp [Dk.new] at hx,fun g hg=>by cases hg⟩,
  ⟨fun i f hi=>by simp [Dk.new] at hi,fun i j hi=>by simp [Dk.new] at hi,fun i j g hi=>by simp [Dk.new] at hi,fun i hi=>by simp [Dk.new] at hi⟩,by show w.heap.size≤_;omega,Nat.le_refl _,Nat.le_succ _⟩
theorem create_any(d:Nat)(F:Nat→Prop)(q:DW)(st:Dk)(s:Nm)(K:Nat)(w:World)(h:DiskAt w d F q st)(hok:DkOk K st)(hK:K<1099511627776)(hs:s.length≤maxLen) :
  Calls Tryz.prog 89 #[(.pointer (some ⟨d,0,none⟩)),.string ⟨s.toArray⟩] w fun e w'=>e=.returned (errV (st.create s).1)∧DiskTo w w' d F (st.create s).2:=by
 have hb0:Below w.heap.size w (w.alloc (.cells #[.string ⟨s.toArray⟩] 9)):=belo
 have H0:=Hd (h.below hb0)
 have HT:=Hd (h.later hb0)
 have HTD:=Hd (h.later hb0.drew)
 have HOK:=Hd hok
 have hdl:=blk_lt h.blk
 obtain ⟨c0,c1,c2,c3,c4,c5,cf⟩:=cells6 h.blk
 clear c0 c3 c4 c5 hok
 by_cases ha:st.armed=0
 ·have e:st.create s=(12,st):=by unfold Dk.create;rw [if_pos ha]
  rw [e]
  have HA:=Hd ha
  clear e ha h hb0 c1 c2 cf
  go_enter Tryz.func89,Tryz.ntmps89
  go_wp2_with fail
  refine (up_any d F q st _ H0.out).mono ?_
  rintro e w' ⟨rfl,rfl⟩
  rw [if_pos HA.out,errV_ne (by omega)]
  go_wp2
  go_ret
  exact ⟨rfl,HT.out⟩
 cases hnb:namedB s with
 | false=>
  have e:st.create s=(1,st):=by unfold Dk.create;rw [if_neg ha,if_pos hnb]
  rw [e]
  have HA:=Hd ha
  have HN:=Hd hnb
  clear e ha h hb0 c1 c2 cf hnb
  go_enter Tryz.func89,Tryz.ntmps89
  go_wp2_with fail
  refine (up_any d F q st _ H0.out).mono ?_
  rintro e w' ⟨rfl,rfl⟩
  rw [if_neg HA.out,errV_zero]
  go_wp2_with fail
  refine (named_any s _ hs).mono ?_
  rintro e w' ⟨rfl,rfl⟩
  rw [HN.out]
  go_wp2
  go_ret
  exact ⟨rfl,HT.out⟩
 | true=>
  cases hg:dirGet st.now s with
  | some i=>
   have e:st.create s=(8,st):=by unfold Dk.create;rw [if_neg ha,if_neg (by rw [hnb];simp),if_pos (by rw [hg];rfl)]
   rw [e]
   have HA:=Hd ha
   have HN:=Hd hnb
   have hrun:=run_name_some (w:=(w.alloc (.cells #[.string ⟨s.toArray⟩] 9)).drew) H0.out.now hs hg
   clear e ha h hb0 hnb hg
   go_enter Tryz.func89,Tryz.ntmps89
   go_wp2_with fail
   refine (up_any d F q st _ H0.out).mono ?_
   rintro e w' ⟨rfl,rfl⟩
   rw [if_neg HA.out,errV_zero]
   go_wp2_with fail
   refine (named_any s _ hs).mono ?_
   rintro e w' ⟨rfl,rfl⟩
   rw [HN.out]
   go_wp2_with fail
   refine wp_region_now0 [3,4,5] [(0,0),(1,0),(2,0),(3,2),(4,2),(5,2),(6,0),(7,0)] (by kernel_rfl) (by kernel_rfl) rfl (by kernel_rfl) ?_
   (iterate 3 refine stepE0 rfl rfl fun K hK=>?_;go_simp;refine hK _ ?_;clear hK K);refine stepE2 rfl rfl ?_ (fun w1 hS=>?_) fun K hK=>?_;rotate_left;(focus (obtain rfl:w1=_:=hS;go_simp;rfl));go_simp;refine hK _ ?_;clear hK K;refine stepE2 rfl rfl ?_ (fun w1 hS=>?_) fun K hK=>?_;rotate_left;(focus (obtain rfl:w1=_:=hS;go_simp;rfl));go_simp;refine hK _ ?_;clear hK K;refine stepE2 rfl rfl ?_ (fun w1 hS=>?_) fun K hK=>?_;rotate_left;(focus (obtain rfl:w1=_:=hS;go_simp;rfl));go_simp;refine hK _ ?_;clear hK K;(iterate 2 refine stepE0 rfl rfl fun K hK=>?_;go_simp;refine hK _ ?_;clear hK K)
   try refine stepEnil0 ?_
   go_wp2_with fail
   go_ret
   exact ⟨rfl,HTD.out⟩
  | none=>
   have hrun:=run_name_none (w:=(w.alloc (.cells #[.string ⟨s.toArray⟩] 9)).drew) H0.out.now hs hg
   by_cases h64:64≤st.now.length
   ·have e:st.create s=(11,st):=by unfold Dk.create;rw [if_neg ha,if_neg (by rw [hnb];simp),if_neg (by rw [hg];simp),if_pos h64]
    rw [e]
    have HA:=Hd ha
    have HN:=Hd hnb
    clear e ha h hb0 hnb hg
    go_enter Tryz.func89,Tryz.ntmps89
    go_wp2_with fail
    refine (up_any d F q st _ H0.out).mono ?_
    rintro e w' ⟨rfl,rfl⟩
    rw [if_neg HA.out,errV_zero]
    go_wp2_with fail
    refine (named_any s _ hs).mono ?_
    rintro e w' ⟨rfl,rfl⟩
    rw [HN.out]
    go_wp2_with fail
    refine wp_region_now0 [3,4,5] [(0,0),(1,0),(2,0),(3,2),(4,2),(5,2),(6,0),(7,0)] (by kernel_rfl) (by kernel_rfl) rfl (by kernel_rfl) ?_
    (iterate 3 refine stepE0 rfl rfl fun K hK=>?_;go_simp;refine hK _ ?_;clear hK K);refine stepE2 rfl rfl ?_ (fun w1 hS=>?_) fun K hK=>?_;rotate_left;(focus (obtain rfl:w1=_:=hS;go_simp;rfl));go_simp;refine hK _ ?_;clear hK K;refine stepE2 rfl rfl ?_ (fun w1 hS=>?_) fun K hK=>?_;rotate_left;(focus (obtain rfl:w1=_:=hS;go_simp;rfl));go_simp;refine hK _ ?_;clear hK K;refine stepE2 rfl rfl ?_ (fun w1 hS=>?_) fun K hK=>?_;rotate_left;(focus (obtain rfl:w1=_:=hS;go_simp;rfl));go_simp;refine hK _ ?_;clear hK K;(iterate 2 refine stepE0 rfl rfl fun K hK=>?_;go_simp;refine hK _ ?_;clear hK K)
    try refine stepEnil0 ?_
    go_wp2_with (at_len;refine wpList_dirlen _ rfl _ rfl q.bn q.fb st.now rfl (show DirAt (w.alloc (.cells #[.string ⟨s.toArray⟩] 9)).drew q.bn q.fb st.now from H0.out.now) ?_)
    go_ret
    exact ⟨rfl,HTD.out⟩
   ·have e:st.create s=(0,({ st with files:=st.files ++ [⟨[],0⟩] }:Dk).turn ⟨0,[],s,st.files.length⟩):=by unfold Dk.create;rw [if_neg ha,if_neg (by rw [hnb];simp),if_neg (by rw [hg];simp),if_neg h64]
    rw [e]
    have h64':decide ((64:Int)≤(st.now.length:Int))=false:=by simp;omega
    have HA:=Hd ha
    have HN:=Hd hnb
    have HB:=Hd h.blk
    have H:=Hd h
    have hnf:st.files.length<1099511627776:=Nat.lt_of_le_of_lt HOK.out.nf hK
    have hdl1:d<w.heap.size+1:=by omega
    have hdl2:d<w.heap.size+2:=by omega
    clear e ha h hb0 hnb hg h64
    go_enter Tryz.func89,Tryz.ntmps89
    go_wp2_with fail
    refine (up_any d F q st _ H0.out).mono ?_
    rintro e w' ⟨rfl,rfl⟩
    rw [if_neg HA.out,errV_zero]
    go_wp2_with fail
    refine (named_any s _ hs).mono ?_
    rintro e w' ⟨rfl,rfl⟩
    rw [HN.out]
    go_wp2_with fail
    refine wp_region_now0 [3,4,5] [(0,0),(1,0),(2,0),(3,2),(4,2),(5,2),(6,0),(7,0)] (by kernel_rfl) (by kernel_rfl) rfl (by kernel_rfl) ?_
    (iterate 3 refine stepE0 rfl rfl fun K hK=>?_;go_simp;refine hK _ ?_;clear hK K);refine stepE2 rfl rfl ?_ (fun w1 hS=>?_) fun K hK=>?_;rotate_left;(focus (obtain rfl:w1=_:=hS;go_simp;rfl));go_simp;refine hK _ ?_;clear hK K;refine stepE2 rfl rfl ?_ (fun w1 hS=>?_) fun K hK=>?_;rotate_left;(focus (obtain rfl:w1=_:=hS;go_simp;rfl));go_simp;refine hK _ ?_;clear hK K;refine stepE2 rfl rfl ?_ (fun w1 hS=>?_) fun K hK=>?_;rotate_left;(focus (obtain rfl:w1=_:=hS;go_simp;rfl));go_simp;refine hK _ ?_;clear hK K;(iterate 2 refine stepE0 rfl rfl fun K hK=>?_;go_simp;refine hK _ ?_;clear hK K)
    try refine stepEnil0 ?_
    go_wp2_with (at_len;refine wpList_dirlen _ rfl _ rfl q.bn q.fb st.now rfl (show DirAt (w.alloc (.cells #[.string ⟨s.toArray⟩] 9)).drew q.bn q.fb st.now from H0.out.now) ?_)
    refine (turn_any d (fun k=>F k∨w.heap.size≤k) { q with fb:=upd q.fb st.files.length (w.heap.size+1),fv:=upd q.fv st.files.length (.slice none 0 0) } { st with files:=st.files ++ [⟨[],0⟩] } _ ⟨0,[],s,st.files.length⟩ (K+1) _ ?_ HOK.out.newFile (by omega) ?_).mono ?_
    ·exact H.out.fileTo HOK.out (((((keeps_set (b:=d) 1 _).alloc _).alloc _).alloc _).drew) (w.heap.size+1) (by omega) (blk_alloc (blk_new _ (by simp [World.setCell])) _) (blk_alloc (blk_alloc (blk_alloc (by simpa using blk_put HB.out 1 _) _) _) _)
    ·refine .inl ⟨rfl,w.heap.size+1+1,w.heap.size,rfl,.inr (by omega),.inr (Nat.le_refl _),?_,?_,hs⟩
     ·show _=some (Obj.cells #[.pointer (some ⟨upd q.fb st.files.length (w.heap.size+1) st.files.length,0,none⟩)] _ _)
      rw [upd_same]
      exact blk_new _ (by simp [World.setCell])
     ·exact blk_alloc (blk_alloc (blk_new _ (by simp [World.setCell])) _) _
    ·rintro e w5 ⟨rfl,h5⟩
     have H5:=Hd (h5.from (((((((Keeps.refl F w).setCell ⟨d,1,none⟩ _ fun _=>H.out.fd).alloc _).alloc _).alloc _).drew)))
     clear h5
     go_wp2_with fail
     go_ret
     exact ⟨rfl,H5.out⟩
open Go.RowKit Go.Maps
theorem remove_any(d:Nat)(F:Nat→Prop)(q:DW)(st:Dk)(s:Nm)(K:Nat)(w:World)(h:DiskAt w d F q st)(hok:DkOk K st)(hK:K≤1099511627776)(hs:s.length≤maxLen) :
  Calls Tryz.prog 95 #[(.pointer (some ⟨d,0,none⟩)),.string ⟨s.toArray⟩] w fun e w'=>e=.returned (errV (st.remove s).1)∧DiskTo w w' d F (st.remove s).2:=by
 have hb0:Below w.heap.size w (w.alloc (.cells #[.string ⟨s.toArray⟩] 9)):=belo
 have H0:=Hd (h.below hb0)
 have HT:=Hd (h.later hb0)
 have HOK:=Hd hok
 clear hok h hb0
 by_cases hf:(st.fnd s).1=0
 ·have e:st.remove s=(0,st.turn ⟨2,s,[],0⟩):=by unfold Dk.remove;rw [if_neg (by rw [hf];simp)]
  rw [e]
  have HF:=Hd hf
  clear e hf
  go_enter Tryz.func95,Tryz.ntmps95
  go_wp2_with fail
  refine (find_any d F q st s _ H0.out hs).mono ?_
  rintro e w' ⟨rfl,rfl⟩
  rw [if_pos HF.out,HF.out,Int.natCast_zero,errV_zero]
  go_wp2_with fail
  refine (turn_any d (fun k=>F k∨w.heap.size≤k) q st _ ⟨2,s,[],0⟩ K _ (H0.out.mono fun _ h=>.inl h) HOK.out hK (.inr (.inr ⟨rfl,_,rfl,.inr (Nat.le_refl _),blk_new _ rfl,hs⟩))).mono ?_
  rintro e w5 ⟨rfl,h5⟩
  have H5:=Hd (h5.from ((Keeps.refl F w).alloc _))
  clear h5
  go_wp2_with fail
  go_ret
  exact ⟨rfl,H5.out⟩
 ·have e:st.remove s=((st.fnd s).1,st):=by unfold Dk.remove;rw [if_pos hf]
  rw [e]
  have HF:=Hd hf
  have HE:=Hd (errV_ne (k:=((st.fnd s).1:Int)) (by omega))
  clear e hf
  go_enter Tryz.func95,Tryz.ntmps95
  go_wp2_with fail
  refine (find_any d F q st s _ H0.out hs).mono ?_
  rintro e w' ⟨rfl,rfl⟩
  rw [if_neg HF.out,HE.out]
  go_wp2_with fail
  go_ret
  exact ⟨by rw [HE.out];rfl,HT.out⟩
theorem rename_any(d:Nat)(F:Nat→Prop)(q:DW)(st:Dk)(s t:Nm)(K:Nat)(w:World)(h:DiskAt w d F q st)(hok:DkOk K st)(hK:K≤1099511627776)(hs:s.length≤maxLen)(ht:t.length≤maxLen) :
  Calls Tryz.prog 96 #[(.pointer (some ⟨d,0,none⟩)),.string ⟨s.toArray⟩,.string ⟨t.toArray⟩] w fun e w'=>e=.returned (errV (st.rename s t).1)∧DiskTo w w' d F (st.rename s t).2:=by
 have hb0:Below w.heap.size w ((w.alloc (.cells #[.string ⟨s.toArray⟩] 9)).alloc (.cells #[.string ⟨t.toArray⟩] 9)):=belo
 have H0:=Hd (h.below hb0)
 have HL:=Hd (fun W (hb:Below w.heap.size w W)=>h.later hb)
 have HB:=Hd (fun W (hb:Below w.heap.size w W)=>h.below hb)
 have HOK:=Hd hok
 clear hok h hb0
 by_cases hf:(st.fnd s).1=0
 ·have HF:=Hd hf
  cases hn:namedB t with
  | false=>
   have e:st.rename s t=(1,st):=by unfold Dk.rename;rw [if_neg (by rw [hf];simp),if_pos hn]
   rw [e]
   have HN:=Hd hn
   clear e hf hn
   go_enter Tryz.func96,Tryz.ntmps96
   go_wp2_with fail
   refine (find_any d F q st s _ H0.out hs).mono ?_
   rintro e w' ⟨rfl,rfl⟩
   rw [if_pos HF.out,HF.out,Int.natCast_zero,errV_zero]
   go_wp2_with fail
   refine (named_any t _ ht).mono ?_
   rintro e w' ⟨rfl,rfl⟩
   rw [HN.out]
   go_wp2_with fail
   go_ret
   exact ⟨rfl,HL.out _ belo⟩
  | true=>
   have e:st.rename s t=(0,st.turn ⟨1,s,t,(st.fnd s).2⟩):=by unfold Dk.rename;rw [if_neg (by rw [hf];simp),if_neg (by rw [hn];simp)]
   rw [e]
   have HN:=Hd hn
   clear e hf hn
   go_enter Tryz.func96,Tryz.ntmps96
   go_wp2_with fail
   refine (find_any d F q st s _ H0.out hs).mono ?_
   rintro e w' ⟨rfl,rfl⟩
   rw [if_pos HF.out,HF.out,Int.natCast_zero,errV_zero]
   go_wp2_with fail
   refine (named_any t _ ht).mono ?_
   rintro e w' ⟨rfl,rfl⟩
   rw [HN.out]
   go_wp2_with fail
   refine (turn_any d (fun k=>F k∨w.heap.size≤k) q st _ ⟨1,s,t,(st.fnd s).2⟩ K _ ((HB.out _ belo).mono fun _ h=>.inl h) HOK.out hK (.inr (.inl ⟨rfl,_,_,_,rfl,.inr (Nat.le_refl _),.inr (by omega),.inr (by omega),⟨blk_alloc (blk_alloc (blk_new _ rfl) _) _,hs⟩,blk_new _ (by simp),blk_alloc (blk_new _ (by simp)) _,ht⟩))).mono ?_
   rintro e w5 ⟨rfl,h5⟩
   have H5:=Hd (h5.from ((((Keeps.refl F w).alloc _).alloc _).alloc _))
   clear h5
   go_wp2_with fail
   go_ret
   exact ⟨rfl,H5.out⟩
 ·have e:st.rename s t=((st.fnd s).1,st):=by unfold Dk.rename;rw [if_pos hf]
  rw [e]
  have HF:=Hd hf
  have HE:=Hd (errV_ne (k:=((st.fnd s).1:Int)) (by omega))
  clear e hf
  go_enter Tryz.func96,Tryz.ntmps96
  go_wp2_with fail
  refine (find_any d F q st s _ H0.out hs).mono ?_
  rintro e w' ⟨rfl,rfl⟩
  rw [if_neg HF.out,HE.out]
  go_wp2_with fail
  go_ret
  exact ⟨by rw [HE.out];rfl,HL.out _ belo⟩
theorem size_any(d:Nat)(F:Nat→Prop)(q:DW)(st:Dk)(s:Nm)(K:Nat)(w:World)(h:DiskAt w d F q st)(hok:DkOk K st)(hs:s.length≤maxLen) :
  Calls Tryz.prog 29 #[(.pointer (some ⟨d,0,none⟩)),.string ⟨s.toArray⟩] w fun e w'=>e=.returned (.tuple #[.int .i64 (st.size s).2,errV (st.size s).1])∧w=w':=by
 have H:=Hd h
 by_cases hf:(st.fnd s).1=0
 ·have e:st.size s=(0,(st.fileAt (st.fnd s).2).b.length):=by unfold Dk.size;rw [if_neg (by rw [hf];simp)]
  rw [e]
  have HF:=Hd hf
  obtain ⟨h1,h2⟩:=h.file (hok.fnd (by rw [hf];simp))
  obtain ⟨a,c,hv,-⟩:=h2.len
  obtain ⟨c0,c1,c2,cf⟩:=cells3 h1
  rw [hv] at c1
  clear e hf h hok h1 h2 c0 c2 cf hv
  go_enter Tryz.func29,Tryz.ntmps29
  go_wp2_with fail
  refine (find_any d F q st s _ H.out hs).mono ?_
  rintro e w' ⟨rfl,rfl⟩
  rw [if_pos HF.out,HF.out,Int.natCast_zero,errV_zero]
  go_wp2_with fail
  go_ret2
  exact ⟨rfl,rfl⟩
 ·have e:st.size s=((st.fnd s).1,0):=by unfold Dk.size;rw [if_pos hf]
  rw [e]
  have HF:=Hd hf
  have HE:=Hd (errV_ne (k:=((st.fnd s).1:Int)) (by omega))
  clear e hf h hok
  go_enter Tryz.func29,Tryz.ntmps29
  go_wp2_with fail
  refine (find_any d F q st s _ H.out hs).mono ?_
  rintro e w' ⟨rfl,rfl⟩
  rw [if_neg HF.out,HE.out]
  go_wp2_with fail
  go_ret2
  exact ⟨by rw [HE.out];rfl,rfl⟩
open Go.RowKit Go.Maps
def seenSum (f:Nat→Nat) (left:Lit→Bool):Dir→Nat
 | []=>0
 | p :: r=>(if left (.string p.1)=true then 0 else f p.2)+seenSum f left r
theorem seenSum_congr(f:Nat→Nat){left left':Lit→Bool}:∀ (l:Dir),(∀ p∈l,left (.string p.1)=left' (.string p.1))→seenSum f left l=seenSum f left' l
 | [],_=>rfl
 | p :: r,h=>by
  unfold seenSum
  rw [h p List.mem_cons_self,seenSum_congr f r fun q hq=>h q (List.mem_cons_of_mem _ hq)]
theorem seenSum_none(f:Nat→Nat):∀ (l:Dir),seenSum f (fun _=>true) l=0
 | []=>rfl
 | p :: r=>by simp [seenSum,seenSum_none f r]
theorem seenSum_all(f:Nat→Nat):∀ (l:Dir),seenSum f (fun _=>false) l=(l.map fun p=>f p.2).sum
 | []=>rfl
 | p :: r=>by simp [seenSum,seenSum_all f r]
theorem get_has{l:Dir}{p:Nm×Nat}(hp:p∈l):(dirGet l p.1).isSome=true:=by
 unfold dirGet
 rw [Option.isSome_map,List.find?_isSome]
 exact ⟨p,hp,by simp⟩
theorem seenSum_start(f:Nat→Nat)(g:Nat→Nat)(l:Dir):seenSum f (Maps.has (dirD g l)) l=0:=by
 rw [←seenSum_none f l]
 exact seenSum_congr f l fun p hp=>by rw [dirD_has,get_has hp]
theorem seenSum_end(f:Nat→Nat)(l:Dir)(left:Lit→Bool)(h:∀ kl,left kl=false):seenSum f left l=(l.map fun p=>f p.2).sum:=by
 rw [←seenSum_all f l]
 exact seenSum_congr f l fun p _=>h _
theorem seenSum_step(f:Nat→Nat)(x:Nm)(i:Nat)(left:Lit→Bool)(hl:left (.string x)=true):∀ (l:Dir),l.Pairwise (fun p q=>p.1≠q.1)→dirGet l x=some i →
  seenSum f (fun z=>left z && !z.sameKey (.string x)) l=seenSum f left l+f i
 | [],_,h=>by simp [dirGet] at h
 | p :: r,hp,hg=>by
  obtain ⟨h1,h2⟩:=List.pairwise_cons.1 hp
  unfold dirGet at hg
  rw [List.find?_cons] at hg
  unfold seenSum
  by_cases hx:p.1=x
  ·simp only [hx,beq_self_eq_true,Option.map_some,Option.some.injEq] at hg
   subst hg
   have e:seenSum f (fun z=>left z && !z.sameKey (.string x)) r=seenSum f left r:=seenSum_congr f r fun q hq=>by
    have h0:(Lit.string q.1).sameKey (.string x)=false:=beq_eq_false_iff_ne.2 (by rw [←hx];exact (h1 q hq).symm)
    simp [h0]
   have h0:(Lit.string x).sameKey (.string x)=true:=beq_self_eq_true _
   rw [e]
   simp [hx,hl,h0]
   omega
  ·have hb:(p.1 == x)=false:=beq_eq_false_iff_ne.2 hx
   have h0:(Lit.string p.1).sameKey (.string x)=false:=hb
   rw [hb] at hg
   rw [seenSum_step f x i left hl r h2 hg]
   simp [h0]
   omega
theorem seenSum_le(f:Nat→Nat)(B:Nat)(hf:∀ i,f i≤B)(left:Lit→Bool):∀ l:Dir,seenSum f left l≤l.length * B
 | []=>by simp [seenSum]
 | p :: r=>by
  have:=hf p.2
  have:=seenSum_le f B hf left r
  unfold seenSum
  rw [List.length_cons,Nat.succ_mul]
  split <;> omega
theorem dir_apart{w:World}{b:Nat}{g:Nat→Nat}{l:Dir}(h:DirAt w b g l):l.Pairwise (fun p q=>p.1≠q.1):=by
 obtain ⟨es,hD,hp,_⟩:=World.ownsMap.entries h law_str
 unfold dirD at hD
 injection hD with hD
 subst hD
 rw [List.pairwise_map] at hp
 exact hp.imp fun h e=>h (by rw [e])
theorem wpList_next_dir(w:World){ops:Array Oper}{rest:List Oper}{o:Oper}{a:Act}{Q:Exit→Act→World→Prop}(hg:o.guard=none)(it:Operand)(hop:o.op=Op.next it false)
  (b r n:Nat) (g:Nat→Nat) (l:Dir) (left:Lit→Bool) (cnt:Nat) (hit:a.eval it=.pointer (some ⟨r,0,none⟩)) (h:w.ranges Tryz.prog 9 ptrR b r n (dirD g l) left cnt)
  (hDone:(∀ kl,left kl=false)→wpList Tryz.prog ops Q rest (a.put o.dst (.tuple #[.bool false])) w)
  (hMore:∀ (x:Nm) (i:Nat) (w':World) (cnt':Nat),left (.string x)=true→dirGet l x=some i→w'.ranges Tryz.prog 9 ptrR b r n (dirD g l) (fun z=>left z && !z.sameKey (.string x)) cnt'→cnt'<cnt→w.grownBy w' (some r)→w'.heap.size=w.heap.size →
   (Instr.entry (.pointer (some ⟨r,0,none⟩))).run Tryz.prog w'=.ok (.tuple #[.string ⟨x.toArray⟩,.pointer (some ⟨g i,0,none⟩)]) w'→wpList Tryz.prog ops Q rest (a.put o.dst (.tuple #[.bool true,.string ⟨x.toArray⟩,.pointer (some ⟨g i,0,none⟩)])) w') :
  wpList Tryz.prog ops Q (o :: rest) a w:=by
 refine wpList_next_ranges w hg it hop 9 law_str ptrR encStr (fun v:Value=>v) (fun key kl hk=>by obtain ⟨x,hx,_⟩:=Maps.keyOf_str Tryz.underlying9 hk;exact ⟨x,hx⟩) (fun v y _=>⟨v,rfl⟩) b r n (dirD g l) left cnt hit h (fun _=>hDone) ?_
 intro x c kl y w' cnt' hk hlk hv hat hrg hlt hgr hsz hen
 obtain ⟨x',ex,rfl,_⟩:=Maps.keyOf_str Tryz.underlying9 hk
 obtain rfl:x=x':=encStr_inj ex
 cases hd:dirGet l x with
 | none=>
  have h0:=hat (.lit (.int .i64 0))
  have h1:=hat (.lit (.int .i64 1))
  rw [dirD_get,hd] at h0 h1
  rw [←h1] at h0
  simp at h0
 | some i=>
  have h0:=hat (.lit (.int .i64 0))
  rw [dirD_get,hd] at h0
  obtain ⟨y1,y2⟩:=y
  simp only at h0
  subst h0
  obtain rfl:=ptrR_at hv
  exact hMore x i w' cnt' hlk hd hrg hlt hgr hsz hen
theorem used_any(d:Nat)(F:Nat→Prop)(q:DW)(st:Dk)(K:Nat)(w:World)(h:DiskAt w d F q st)(hok:DkOk K st) :
  Calls Tryz.prog 135 #[(.pointer (some ⟨d,0,none⟩))] w fun e w'=>e=.returned (.int .i64 st.used)∧Below w.heap.size w w':=by
 have H:=Hd h
 have HOK:=Hd hok
 have HN:=Hd h.now
 obtain ⟨c0,c1,c2,c3,c4,c5,cf⟩:=cells6 h.blk
 clear h hok c0 c1 c3 c4 c5 cf
 go_enter Tryz.func135,Tryz.ntmps135
 go_wp2_with (at_range;refine wpList_range_own _ rfl _ 101 rfl 9 124 law_str Tryz.underlying101 ptrR q.bn st.now.length (dirD q.fb st.now) rfl HN.out ?_;intro w0 hrg0 hg0 hs0;have HR0:=Hd hrg0;have HG0:=Hd hg0;have HS0:=Hd hs0;clear hrg0 hg0 hs0)
 go_frame
 obtain ⟨f,hf⟩:∃ f:Nat→Nat,f=fun i=>(st.fileAt i).b.length:=⟨_,rfl⟩
 have hfb:∀ i,f i≤16777216:=fun i=>by rw [hf];exact (HOK.out.at i).2
 have HSL:=Hd (fun left=>Nat.le_trans (seenSum_le f 16777216 hfb left st.now) (Nat.mul_le_mul_right 16777216 HOK.out.lnow))
 have HF:=Hd hf
 have HAP:=Hd (dir_apart HN.out)
 have HFB:=Hd hfb
 have HST:=Hd (show seenSum f (Maps.has (dirD q.fb st.now)) st.now=0 from seenSum_start f q.fb st.now)
 clear hf hfb
 go_loopw [3] (fun n wr=>∃(left:Lit→Bool)(cnt:Nat),wr.ranges Tryz.prog 9 ptrR q.bn w.heap.size st.now.length (dirD q.fb st.now) left cnt∧n=.int .i64 (seenSum f left st.now:Nat)∧Below w.heap.size w wr) (fun _ wr=>wr.rangeLeft q.bn w.heap.size)
 case atStart=>exact ⟨_,_,HR0.out,by rw [HST.out];rfl,⟨HG0.out.os,HG0.out.tape,HG0.out.output,HG0.out.size,fun k hk=>HG0.out.block k hk (by simp)⟩⟩
 case round=>
  obtain ⟨left,cnt,hrg,rfl,hbw⟩:=hrel
  have HRG:=Hd hrg
  have HBW:=Hd hbw
  have hsl:=HSL.out left
  clear hrg hbw
  go_wp2_with (at_next;refine wpList_next_dir _ rfl _ rfl q.bn w.heap.size st.now.length q.fb st.now left cnt rfl HRG.out ?_ ?_)
  ·intro hl0
   have HL0:=Hd hl0
   clear hl0
   go_wp2
   go_ret
   exact ⟨ret_int (by rw [seenSum_end _ _ _ HL0.out,HF.out];rfl),HBW.out⟩
  ·intro x i w1 cnt1 hlx hgx hrg1 hlt hg1 hs1 hen
   have HB1:=Hd (HBW.out.grown hg1 HBW.out.size (fun k e=>by cases e;exact Nat.le_refl _))
   obtain ⟨h1,h2⟩:=(H.out.below HB1.out).file (HOK.out.fnow _ (get_mem hgx))
   obtain ⟨a,c,hv,-⟩:=h2.len
   obtain ⟨d0,d1,d2,df⟩:=cells3 h1
   rw [hv] at d1
   have hfi:(st.fileAt i).b.length=f i:=by rw [HF.out]
   rw [hfi] at d1
   have hfb:=HFB.out i
   have HR1:=Hd hrg1
   have HLT:=Hd hlt
   have HSS:=Hd (seenSum_step f x i left hlx st.now HAP.out hgx)
   clear hlx hgx hrg1 hlt hg1 hs1 h1 h2 hv d0 d2 df hfi
   go_wp2
   go_roundw
   case rel=>exact ⟨_,cnt1,HR1.out,by rw [HSS.out];go_num,HB1.out⟩
   case measure=>rw [HR1.out.left_eq,HRG.out.left_eq];exact HLT.out
open Go.RowKit Go.Maps
theorem DeedsAt.kept{w w':World}{F:Nat→Prop}{fb:Nat→Nat}{vd:Value}{ds:List Value}{xs:List Deed}(h:DeedsAt w F fb vd ds xs)
  (hne:∀ (k:Nat) (x:Obj),w.heap[k]? = some x→(kindO x=134+1∨kindO x=9+1∨kindO x=124+1)→w'.heap[k]? = some x):DeedsAt w' F fb vd ds xs:=by
 refine ⟨ownsRow_at h.row fun k hv=>?_,fun i x hx=>?_,h.fvd⟩
 ·rcases h.row.2 with ⟨e,_⟩|⟨g,cap,cur,e,_,hb,_⟩
  ·rw [e] at hv;cases hv
  ·rw [e] at hv
   simp only [Value.ownBlock,Option.some.injEq] at hv
   subst hv
   exact (hne _ _ hb (.inl rfl)).trans hb.symm
 ·obtain ⟨v,hv,hd⟩:=h.dd i x hx
  exact ⟨v,hv,hd.at (fun k _ ⟨a,t,hb,ht⟩=>(hne _ _ hb (by rcases ht with rfl|rfl <;> simp [kindO])).trans hb.symm) (fun _ h=>h) (fun _=>rfl)⟩
theorem FilesAt.one{w w':World}{F G:Nat→Prop}{fb:Nat→Nat}{fv:Nat→Value}{fs:List DFile}(h:FilesAt w F fb fv fs){i:Nat}(hi:i<fs.length)(hk:Keeps G w w')
  (hG:∀ k,k<w.heap.size→G k→k=fb i∨(fv i).ownBlock=some k) (f':DFile) (v':Value) (hb:w'.heap[fb i]? = some (.cells #[.int .i64 i,v',.int .i64 f'.lasts] 138 (0,0)))
  (hr:FRow w' v' f'.b) (hv:∀ g,v'.ownBlock=some g→(fv i).ownBlock=some g∨w.heap.size≤g) :
  FilesAt w' (fun k=>F k∨w.heap.size≤k) fb (upd fv i v') (fs.set i f'):=by
 have hfi:=h.fi i _ (List.getElem?_eq_getElem hi)
 have hrl:∀ j g,j<fs.length→(fv j).ownBlock=some g→g<w.heap.size:=fun j g hj e=>(h.fi j _ (List.getElem?_eq_getElem hj)).2.lt e
 refine ⟨fun j f hj=>?_,fun a b ha hb=>?_,fun a b g ha hb e1 e2=>?_,fun j hj=>?_⟩
 ·have hjl:j<fs.length:=by
   have:=(List.getElem?_eq_some_iff.1 hj).1
   simpa using this
  by_cases e:j=i
  ·subst e
   rw [List.getElem?_set_self hjl] at hj
   simp only [Option.some.injEq] at hj
   subst hj
   rw [upd_same]
   exact ⟨hb,hr⟩
  ·rw [List.getElem?_set_ne (Ne.symm e)] at hj
   have hv1:upd fv i v' j=fv j:=if_neg e
   rw [hv1]
   obtain ⟨h1,h2⟩:=h.fi j f hj
   have hn1:¬ G (fb j):=fun hg=>by
    rcases hG _ (blk_lt h1) hg with e1|e1
    ·exact e (h.inj j i hjl hi e1)
    ·have:=hits_frow hfi.2 _ _ e1 h1
     simp [kindO] at this
   have hn2:∀ g,(fv j).ownBlock=some g→¬ G g:=fun g hg hg2=>by
    rcases hG _ (hrl j g hjl hg) hg2 with e1|e1
    ·have:=hits_frow h2 _ _ hg (e1 ▸ hfi.1)
     simp [kindO] at this
    ·exact e (h.apart j i g hjl hi hg e1)
   exact ⟨(hk.block _ (blk_lt h1) hn1).trans h1,h2.keeps hk hn2⟩
 ·simp only [List.length_set] at ha hb
  exact h.inj a b ha hb
 ·simp only [List.length_set] at ha hb
  unfold upd at e1 e2
  split at e1 <;> split at e2
  ·omega
  ·rename_i ea eb
   rcases hv g e1 with e3|e3
   ·exact absurd (h.apart b i g hb hi e2 e3) eb
   ·have:=hrl b g hb e2
    omega
  ·rename_i ea eb
   rcases hv g e2 with e3|e3
   ·exact absurd (h.apart a i g ha hi e1 e3) ea
   ·have:=hrl a g ha e1
    omega
  ·exact h.apart a b g ha hb e1 e2
 ·simp only [List.length_set] at hj
  refine ⟨.inl (h.ff j hj).1,fun g hg=>?_⟩
  unfold upd at hg
  split at hg
  ·exact (hv g hg).imp (fun e=>(h.ff i hi).2 g e) id
  ·exact .inl ((h.ff j hj).2 g hg)
theorem DiskAt.one{w w':World}{d:Nat}{F G:Nat→Prop}{q:DW}{st:Dk}(h:DiskAt w d F q st){i:Nat}(hi:i<st.files.length)(hk:Keeps G w w')
  (hG:∀ k,k<w.heap.size→G k→k=q.fb i∨(q.fv i).ownBlock=some k) (f':DFile) (v':Value) (hb:w'.heap[q.fb i]? = some (.cells #[.int .i64 i,v',.int .i64 f'.lasts] 138 (0,0)))
  (hr:FRow w' v' f'.b) (hv:∀ g,v'.ownBlock=some g→(q.fv i).ownBlock=some g∨w.heap.size≤g) :
  DiskAt w' d (fun k=>F k∨w.heap.size≤k) { q with fv:=upd q.fv i v' } (st.setF i f'):=by
 obtain ⟨h1,h2⟩:=h.file hi
 have hne:∀ (k:Nat) (x:Obj),w.heap[k]? = some x→kindO x≠138+1→kindO x≠5+1→w'.heap[k]? = some x:=fun k x hx n1 n2=>
  (hk.block _ (blk_lt hx) fun hg=>by
   rcases hG _ (blk_lt hx) hg with e|e
   ·subst e
    rw [h1] at hx
    cases hx
    exact n1 rfl
   ·exact n2 (hits_frow h2 _ _ e hx)).trans hx
 have hd:∀ {b:Nat} {l:Dir},DirAt w b q.fb l→DirAt w' b q.fb l:=fun hD=>hD.at (by
  obtain ⟨es,clock,hx,_⟩:=hD
  exact (hne _ _ hx (by simp [kindO]) (by simp [kindO])).trans hx.symm)
 refine ⟨?_,hd h.now,hd h.last,h.ne,(h.deeds.kept fun k x hx ht=>hne k x hx (by rcases ht with e|e|e <;> rw [e] <;> simp) (by rcases ht with e|e|e <;> rw [e] <;> simp)).mono (fun _ h=>.inl h) (fun _ _ _=>rfl),h.files.one hi hk hG f' v' hb hr hv,.inl h.fd,.inl h.fn,.inl h.fl⟩
 rw [show (st.setF i f').files.length=st.files.length by simp [Dk.setF]]
 exact hne _ _ h.blk (by simp [kindO]) (by simp [kindO])
theorem sync_any(d:Nat)(F:Nat→Prop)(q:DW)(st:Dk)(s:Nm)(K:Nat)(w:World)(h:DiskAt w d F q st)(hok:DkOk K st)(hs:s.length≤maxLen) :
  Calls Tryz.prog 93 #[(.pointer (some ⟨d,0,none⟩)),.string ⟨s.toArray⟩] w fun e w'=>e=.returned (errV (st.sync s).1)∧DiskTo w w' d F (st.sync s).2:=by
 have H:=Hd h
 have HOK:=Hd hok
 by_cases hf:(st.fnd s).1=0
 ·obtain ⟨i,hi⟩:∃ i,i=(st.fnd s).2:=⟨_,rfl⟩
  have e:st.sync s=(0,(st.setF i ⟨(st.fileAt i).b,(st.fileAt i).b.length⟩).did):=by unfold Dk.sync;rw [if_neg (by rw [hf];simp),hi]
  rw [e]
  have hil:i<st.files.length:=by rw [hi];exact hok.fnd (by rw [hf];simp)
  have HF:=Hd hf
  have HI:=Hd hi
  obtain ⟨h1,h2⟩:=h.file hil
  have H1:=Hd h1
  have H2:=Hd h2
  obtain ⟨a,c,hv,-⟩:=h2.len
  have HV:=Hd hv
  obtain ⟨c0,c1,c2,cf⟩:=cells3 h1
  rw [hv] at c1
  have hff:=(h.files.ff i hil).1
  clear e hf h hok h1 h2 c0 hv hi
  go_enter Tryz.func93,Tryz.ntmps93
  go_wp2_with fail
  refine (find_any d F q st s _ H.out hs).mono ?_
  rintro e w' ⟨rfl,rfl⟩
  rw [if_pos HF.out,HF.out,Int.natCast_zero,errV_zero,←HI.out]
  go_wp2_with fail
  have h6:=H.out.one hil (keeps_set (w:=w) (b:=q.fb i) 2 (.int .i64 (st.fileAt i).b.length)) (fun k _ e=>.inl e) ⟨(st.fileAt i).b,(st.fileAt i).b.length⟩ (q.fv i) (by simpa using blk_put H1.out 2 (.int .i64 (st.fileAt i).b.length)) (keep_frow (keeps_set _ _) (hits_one H1.out) H2.out (by simp [kindO])) (fun g hg=>.inl hg)
  refine (did_any d _ _ _ _ h6 HOK.out.armed.1 HOK.out.armed.2).mono ?_
  rintro e w5 ⟨rfl,h5,hk5⟩
  have H5:=Hd (h5.to (((keeps_set (w:=w) (b:=q.fb i) 2 _).mono (G:=F) fun _ _ e=>e ▸ hff).trans (hk5.mono (G:=F) fun _ _ e=>e ▸ H.out.fd) fun _ _ h=>h) (fun _ h=>h))
  clear h5 hk5 h6
  go_wp2_with fail
  go_ret
  exact ⟨rfl,H5.out⟩
 ·have e:st.sync s=((st.fnd s).1,st):=by unfold Dk.sync;rw [if_pos hf]
  rw [e]
  have HF:=Hd hf
  have HE:=Hd (errV_ne (k:=((st.fnd s).1:Int)) (by omega))
  clear e hf h hok
  go_enter Tryz.func93,Tryz.ntmps93
  go_wp2_with fail
  refine (find_any d F q st s _ H.out hs).mono ?_
  rintro e w' ⟨rfl,rfl⟩
  rw [if_neg HF.out,HE.out]
  go_wp2_with fail
  go_ret
  exact ⟨by rw [HE.out];rfl,H.out.same⟩
end Go.Proofs.YtfpjfoajonbndaaGreatDoor
