import Derived.Test.YtfpjfoajonbndaaGreatDoorCa24
import Derived.Test.YtfpjfoajonbndaaGreatDoorCa10
import Derived.Test.YtfpjfoajonbndaaGreatDoorCa21
namespace Go.Proofs.YtfpjfoajonbndaaGreatDoor
open Go.RowKit
theorem ckRow_of:∀ {l:List Ps} {k:Option Nat},IxS l→(∀ p∈l,ckPos p=true)→(∀ x,k=some x→∀ p∈l,x<p.key)→ckRow k l=true
 | [],_,_,_,_=>rfl
 | q :: r,k,hs,hp,hk=>by
  unfold ckRow
  have h1:=hp q List.mem_cons_self
  have h2:=ckRow_of (k:=some q.key) (List.pairwise_cons.1 hs).2 (fun p hm=>hp p (List.mem_cons_of_mem _ hm)) (fun x hx p hm=>by cases hx;exact (List.pairwise_cons.1 hs).1 p hm)
  rw [h1,h2]
  cases k with
  | none=>rfl
  | some x=>
   have:=hk x rfl q List.mem_cons_self
   simp [this]
theorem VI.ckRight {d:Dk} {v:Vl} {ns:List Nd} (h:VI d v ns) (hs:v.size≤16777216) (hl:v.idx.length≤4096):Go.Proofs.YtfpjfoajonbndaaGreatDoor.ckRight (ckSnap v)=0:=by
 unfold Go.Proofs.YtfpjfoajonbndaaGreatDoor.ckRight ckSnap
 simp only
 rw [if_neg (by omega)]
 have h1:ckNums ⟨v.num,v.gen,v.size,v.idx⟩=true:=by
  unfold ckNums
  refine decide_eq_true ?_
  have h1:=h.num
  have h2:=h.gen
  exact ⟨h1.1,h1.2,by show 1≤v.gen;omega,by show v.gen≤_;omega,hs⟩
 have h2:ckRow none v.idx=true:=ckRow_of h.srt (fun p hp=>by
  obtain ⟨o,n,hx,hln,hmem,hnk,hpo,hnd⟩:=h.pos hp
  have h3:=h.len_le hp
  have h4:=h.ok n hmem
  unfold ckPos
  have e1:p.gone=n.gone:=by rw [hpo];rfl
  have e2:p.len=n.data.length:=by rw [hpo];rfl
  rw [decide_eq_true (by omega:p.off≤16777216),decide_eq_true h3.1]
  cases hg:p.gone with
  | false=>rfl
  | true=>
   have:=h4.2.2.2 (by rw [←e1];exact hg)
   rw [e2,this]
   rfl) (fun x hx=>by cases hx)
 rw [h1,h2]
 rfl
theorem VI.keys64 {d:Dk} {v:Vl} {ns:List Nd} (h:VI d v ns):∀ p∈v.idx,p.key<18446744073709551616∧p.cookie<4294967296:=fun p hp=>by
 obtain ⟨o,n,hx,hln,hmem,hnk,hpo,hnd⟩:=h.pos hp
 have h4:=h.ok n hmem
 exact ⟨by rw [hpo];exact h4.1,by rw [hpo];exact h4.2.1⟩
theorem c10:cName 1 0=[99,49,46,48]:=by simp [cName,numN_1,numN_0]
theorem c11:cName 1 1=[99,49,46,49]:=by simp [cName,numN_1]
theorem VI.names2 {d:Dk} {v:Vl} {ns:List Nd} (h:VI d v ns) {s:Nm} (h1:s≠v.file) (h2:s≠mName v.num):dirGet d.now s=none:=by
 obtain ⟨f,g,hfg,hl,hf,hg,hfb,hgb⟩:=h.now
 have hm:=two_mem hl hf hg (v_ne_m _ _ _)
 cases e:dirGet d.now s with
 | none=>rfl
 | some x=>
  have h3:=get_mem e
  rcases hm with hm|hm <;> rw [hm] at h3 <;> simp only [List.mem_cons,Prod.mk.injEq,List.not_mem_nil,or_false] at h3 <;> rcases h3 with h3|h3 <;> first|exact absurd h3.1 h1|exact absurd h3.1 h2
theorem VI.dg {d:Dk} {v:Vl} {ns:List Nd} {K:Nat} (h:VI d v ns) (hok:DkOk K d):DG d:=⟨h.armed,hok.fnow⟩
theorem VI.used {d:Dk} {v:Vl} {ns:List Nd} (h:VI d v ns):d.used=v.size+24:=by
 obtain ⟨f,g,hfg,hl,hf,hg,hfb,hgb⟩:=h.now
 rw [used_two hl hf hg (v_ne_m _ _ _),hfb,hgb,List.length_append,superB_len,h.size]
theorem head_ne {v:Vl} {s:Nm} {x:UInt8} {r:Nm} (hs:s=x :: r) (h1:x≠118) (h2:x≠109):s≠v.file∧s≠mName v.num:=by
 subst hs
 constructor
 ·intro e
  unfold Vl.file vName at e
  simp at e
  exact h1 e.1
 ·intro e
  unfold mName at e
  simp at e
  exact h2 e.1
theorem VI.ckAll {d:Dk} {v:Vl} {ns:List Nd} {K:Nat} (h:VI d v ns) (hok:DkOk K d) (hn:v.num=1) (hl:v.idx.length≤4096) (hc:v.size+48+24 * v.idx.length≤1048576) :
  ∃ d1 d2 d3 d4 d5,ckDo (ckSnap v) 0 d=(0,d1)∧ckDo (ckSnap v) 1 d1=(0,d2)∧ckDo (ckSnap v) 2 d2=(0,d3)∧ckDo (ckSnap v) 3 d3=(0,d4)∧ckDo (ckSnap v) 4 d4=(0,d5)∧(d5.size (cName 1 1)).1=0:=by
 have hdg:=h.dg hok
 have hu:=h.used
 have hvol:(ckSnap v).vol=1:=hn
 have hgen:(ckSnap v).gen=1:=h.gen
 have hdr:=head_ne (v:=v) (s:=cName 1 0) c10 (by decide) (by decide)
 have hdn:=h.names2 hdr.1 hdr.2
 have hl2:d.now.length=2:=by obtain ⟨f,g,_,hl,_⟩:=h.now;exact hl
 obtain ⟨d1,e1,n1⟩:=create_new hdg (s:=cName 1 0) (by rw [c10];decide) hdn (by omega)
 have hbl:=ckB_len (ckSnap v)
 have hil:(ckSnap v).l=v.idx:=rfl
 rw [hil] at hbl
 obtain ⟨d2,e2,n2⟩:=n1.append hdg hdn (b:=ckB (ckSnap v)) (by omega) (by rw [h.cap,hu,hbl];omega)
 have hf2:d2.fnd (cName 1 0)=(0,d.files.length):=by
  unfold Dk.fnd
  rw [if_neg (by rw [n2.ok.armed];decide),n2.now,n1.get]
 obtain ⟨d3,hd3⟩:∃ d3,d3=(d2.sync (cName 1 0)).2:=⟨_,rfl⟩
 have e3:d2.sync (cName 1 0)=(0,d3):=by
  have:(d2.sync (cName 1 0)).1=0:=by
   unfold Dk.sync
   rw [hf2]
   rfl
  rw [hd3]
  exact Prod.ext this rfl
 have h3n:d3.now=d2.now:=by
  rw [hd3]
  unfold Dk.sync
  rw [hf2]
  rfl
 have h3a:d3.armed = -1:=by
  rw [hd3]
  unfold Dk.sync
  rw [hf2]
  show (if 0<d2.armed then d2.armed - 1 else d2.armed) = -1
  rw [n2.ok.armed]
  rfl
 have hf3:d3.fnd (cName 1 0)=(0,d.files.length):=by
  unfold Dk.fnd
  rw [if_neg (by rw [h3a];decide),h3n,n2.now,n1.get]
 obtain ⟨d4,hd4⟩:∃ d4,d4=d3.turn ⟨1,cName 1 0,cName 1 1,d.files.length⟩:=⟨_,rfl⟩
 have e4:d3.rename (cName 1 0) (cName 1 1)=(0,d4):=by
  unfold Dk.rename
  rw [hf3,if_neg (by simp),if_neg (by rw [c11];decide),hd4]
 have h4n:d4.now=dirPut (dirDel d3.now (cName 1 0)) (cName 1 1) d.files.length:=by
  rw [hd4]
  rfl
 have h4a:d4.armed = -1:=by
  rw [hd4]
  show (if 0<d3.armed then d3.armed - 1 else d3.armed) = -1
  rw [h3a]
  rfl
 obtain ⟨d5,hd5⟩:∃ d5,d5=({ d4 with lasting:=d4.now,deeds:=[] }:Dk).did:=⟨_,rfl⟩
 have e5:d4.syncNames=(0,d5):=by
  unfold Dk.syncNames
  rw [if_neg (by rw [h4a];decide),hd5]
 have h5n:d5.now=d4.now:=by rw [hd5];rfl
 have h5a:d5.armed = -1:=by
  rw [hd5]
  show (if 0<d4.armed then d4.armed - 1 else d4.armed) = -1
  rw [h4a]
  rfl
 refine ⟨d1,d2,d3,d4,d5,?_,?_,?_,?_,?_,?_⟩
 ·unfold ckDo
  have hcl:d.ckClear (cName 1 0)=(0,d):=by
   unfold Dk.ckClear hasName
   rw [hdn]
   rfl
  rw [if_pos rfl,hvol,hcl,if_neg (by simp)]
  exact e1
 ·unfold ckDo
  rw [if_neg (by omega),if_pos rfl,h.ckRight (by omega) hl,if_neg (by simp),hvol]
  exact e2
 ·unfold ckDo
  rw [if_neg (by omega),if_neg (by omega),if_pos rfl,hvol]
  exact e3
 ·unfold ckDo
  rw [if_neg (by omega),if_neg (by omega),if_neg (by omega),if_pos rfl,hvol,hgen]
  exact e4
 ·unfold ckDo
  rw [if_neg (by omega),if_neg (by omega),if_neg (by omega),if_neg (by omega)]
  exact e5
 ·have:d5.fnd (cName 1 1)=(0,d.files.length):=by
   unfold Dk.fnd
   rw [if_neg (by rw [h5a];decide),h5n,h4n,get_put_same]
  unfold Dk.size
  rw [this]
  rfl
def CkSt (w:World) (Z:Nat→Prop) (wb dp vp:Nat) (v:Vl) (K:Nat) (d:Dk) (k:Nat):Prop:=
 ∃ Q:Nat→Prop,(∀ j,Q j→j<w.heap.size)∧(∀ j,Z j→Q j∧j≠wb)∧VS w vp dp Q K d v∧Q wb∧((k=0∧∃ a cap c0,CkW w wb dp vp c0 a cap 0)∨(1≤k∧k≤4∧WrAt w Q wb dp vp (ckSnap v) k)∨(k=5∧∃ a cap c0,CkW w wb dp vp c0 a cap 5))
theorem CkSt.below {w w':World} {Z:Nat→Prop} {wb dp vp K k:Nat} {v:Vl} {d:Dk} (h:CkSt w Z wb dp vp v K d k) (hb:Below w.heap.size w w'):CkSt w' Z wb dp vp v K d k:=by
 obtain ⟨Q,h1,h2,h3,h4,h5⟩:=h
 refine ⟨Q,fun j hj=>Nat.lt_of_lt_of_le (h1 j hj) hb.size,h2,h3.below hb,h4,?_⟩
 rcases h5 with ⟨e,a,cap,c0,h6⟩|⟨e1,e2,a,cap,g1,g2,g3,g4⟩|⟨e,a,cap,c0,h6⟩
 ·exact .inl ⟨e,a,cap,c0,blk_below' h6 hb⟩
 ·exact .inr (.inl ⟨e1,e2,a,cap,blk_below' g1 hb,g2.below hb,fun j hj=>⟨(g3 j hj).1,Nat.lt_of_lt_of_le (g3 j hj).2.1 hb.size,(g3 j hj).2.2⟩,g4⟩)
 ·exact .inr (.inr ⟨e,a,cap,c0,blk_below' h6 hb⟩)
structure CkGood (v:Vl):Prop where
 n0:NamesAt v.num 0
 n1:NamesAt v.num v.gen
 l0:(cName v.num 0).length≤maxLen
 l1:(cName v.num v.gen).length≤maxLen
 len:v.idx.length≤4096
 keys:∀ p∈v.idx,p.key<18446744073709551616∧p.cookie<4294967296
theorem CkSt.step {w:World} {Z:Nat→Prop} {wb dp vp K k r:Nat} {v:Vl} {d d':Dk} (h:CkSt w Z wb dp vp v K d k) (hg:CkGood v) (hK:K+2<1099511627776) (hk:k≤4) (hd:ckDo (ckSnap v) k d=(r,d')) :
  Calls Tryz.prog 31 #[(.pointer (some ⟨wb,0,none⟩))] w fun e w'=>e=.returned (.tuple #[.bool (r == 0 && k == 4),errV r])∧CkSt w' Z wb dp vp v (K+2) d' (if r=0 then k+1 else 5)∧KP Z w w':=by
 obtain ⟨Q,h1,h2,h3,h4,h5⟩:=h
 have fin:∀ e w',CkTo w Q wb dp vp K d v (ckSnap v) k e w'→e=.returned (.tuple #[.bool (r == 0 && k == 4),errV r])∧CkSt w' Z wb dp vp v (K+2) d' (if r=0 then k+1 else 5)∧KP Z w w':=fun e w' ⟨g1,Q2,g2,g3,g4,g5,g6⟩=>by
  rw [hd] at g1 g4 g5
  refine ⟨g1,⟨Q2,g3,fun j hj=>⟨g2 j (h2 j hj).1,(h2 j hj).2⟩,g4,g2 _ h4,?_⟩,g6.mono fun j _ hj=>h2 j hj⟩
  by_cases hr:r=0
  ·rw [if_pos hr]
   rw [if_pos hr] at g5
   by_cases h4':k=4
   ·subst h4'
    obtain ⟨a,cap,q1,-⟩:=g5
    exact .inr (.inr ⟨rfl,a,cap,_,q1⟩)
   ·exact .inr (.inl ⟨by omega,by omega,g5⟩)
  ·rw [if_neg hr]
   rw [if_neg hr] at g5
   obtain ⟨a,cap,q1,-⟩:=g5
   exact .inr (.inr ⟨rfl,a,cap,_,q1⟩)
 rcases h5 with ⟨e,a,cap,c0,h6⟩|⟨e1,e2,h6⟩|⟨e,-⟩
 ·subst e
  exact (ckstep_first h3 h6 h4 h1 hK rfl hg.n0 hg.n1 hg.l0 hg.l1 (by have:=hg.len;omega) hg.keys).mono fin
 ·exact (ckstep_next h3 h6 h1 hK e1 e2 rfl hg.n0 hg.n1 hg.l0 hg.l1 (by have:=hg.len;show v.idx.length≤_;omega) hg.keys).mono fin
 ·omega
theorem CkSt.over {w:World} {Z:Nat→Prop} {wb dp vp K:Nat} {v:Vl} {d:Dk} (h:CkSt w Z wb dp vp v K d 5) :
  Calls Tryz.prog 31 #[(.pointer (some ⟨wb,0,none⟩))] w fun e w'=>e=.returned (.tuple #[.bool false,errV 16])∧w=w':=by
 obtain ⟨Q,h1,h2,h3,h4,h5⟩:=h
 rcases h5 with ⟨e,-⟩|⟨-,e,-⟩|⟨-,a,cap,c0,h6⟩
 ·omega
 ·omega
 ·exact ckstep_over h6
theorem CkSt.start {w w':World} {Z P:Nat→Prop} {dp vp K:Nat} {v:Vl} {d:Dk} (h:VS w vp dp P K d v) (hP:∀ j,P j→j<w.heap.size) (hZ:∀ j,Z j→P j) (hb:Below w.heap.size w w') (hc:CkW w' w.heap.size dp vp ⟨0,0,0,[]⟩ none 0 0):CkSt w' Z w.heap.size dp vp v K d 0:=by
 refine ⟨fun j=>P j∨j=w.heap.size,fun j hj=>?_,fun j hj=>⟨.inl (hZ j hj),by have:=hP j (hZ j hj);omega⟩,h.later hb (fun j hj=>hj.imp id (fun e=>by omega)),.inr rfl,.inl ⟨rfl,_,_,_,hc⟩⟩
 rcases hj with hj|hj
 ·exact Nat.lt_of_lt_of_le (hP j hj) hb.size
 ·rw [hj];exact blk_lt hc
end Go.Proofs.YtfpjfoajonbndaaGreatDoor
